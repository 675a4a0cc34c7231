/- OrderedHeight: its contract over whatever can be read. -/
import Derived.Test.YtbpmigcbfbdnjaaHeight
import Derived.Test.YtbpmigcbfbdnjaaLawInts
namespace Go.Proofs.Ytbpmigcbfbdnjaa
open Go.RowKit Go.ChangeShapes Go.WideShapes Go.ChangeAt

set_option maxRecDepth 100000 in
theorem orderedHeight_contract {H : Type} {enc : TypeId × Value → H} {W : World} {base : Nat} {args : Array Value} {ds : List (DataW H)} {p : List MemPlace}
    (hval : ∀ (j : Nat) t v, Try.f4.params[j]? = some t → args[j]? = some v → Value.okWide Try.prog W .any base t v)
    (hA : DataW.TrodAll enc Try.prog W 0 (fun _ => true) true Try.f4.params.toList args.toList ds p) :
    Calls Try.prog 4 args W fun e w' => e = .returned (.bool true) ∧ Below W.heap.size W w' := by
  rw [Try.params4] at hA hval
  obtain ⟨v0, v1, d0, d1, p0, p1, rfl, rfl, rfl, ⟨f0, h0⟩, ⟨f1, h1⟩⟩ := trodAll_two hA
  obtain ⟨a0, n0, c0, rfl⟩ := okWide_slice Try.underlying22 (hval 0 _ v0 rfl rfl)
  obtain ⟨a1, n1, c1, rfl⟩ := okWide_slice Try.underlying22 (hval 1 _ v1 rfl rfl)
  obtain ⟨A, n, c, l, e, hl, hc, hm⟩ := open_ints1 h0
  obtain ⟨B, m, d, r, e', hr, hd, hm'⟩ := open_ints1 h1
  rw [e, e']
  exact OrderedHeight_any A B n c m d l r W hl hr (Nat.le_trans hc hm) (Nat.le_trans hd hm')
end Go.Proofs.Ytbpmigcbfbdnjaa
