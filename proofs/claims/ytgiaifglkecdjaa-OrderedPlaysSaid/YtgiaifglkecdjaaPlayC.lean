/- OrderedPlays: its contract over whatever can be read. -/
import Derived.Test.YtgiaifglkecdjaaPlayL
namespace Go.Proofs.Ytgiaifglkecdjaa
open Go.RowKit Go.ChangeShapes Go.WideShapes Go.ChangeAt

set_option maxRecDepth 100000 in
theorem orderedPlays_contract {H : Type} {enc : TypeId × Value → H} {W : World} {base : Nat} {args : Array Value} {ds : List (DataW H)} {p : List MemPlace}
    (hval : ∀ (j : Nat) t v, Try.f3.params[j]? = some t → args[j]? = some v → Value.okWide Try.prog W .any base t v)
    (hA : DataW.TrodAll enc Try.prog W 0 (fun _ => true) true Try.f3.params.toList args.toList ds p) :
    Calls Try.prog 3 args W fun e w' => e = .returned (.bool true) ∧ Below W.heap.size W w' := by
  rw [Try.params3] at hA hval
  obtain ⟨v0, d0, rfl, rfl, ⟨f0, h0⟩⟩ := trodAll_one hA
  obtain ⟨a0, n0, c0, rfl⟩ := okWide_slice Try.underlying22 (hval 0 _ v0 rfl rfl)
  obtain ⟨A, n, c, l, e, hl, hc, hm, hb⟩ := open_acts h0
  rw [e]
  exact OrderedPlays_any A n c l W hl (Nat.le_trans hc hm) hb
end Go.Proofs.Ytgiaifglkecdjaa
