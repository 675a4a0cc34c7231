/- KeysMake: its contract over whatever can be read. -/
import Derived.Test.YtlfeofakggkebaaDoorKMakeL
import Derived.Test.YtlfeofakggkebaaDoorLaw
namespace Go.Proofs.YtlfeofakggkebaaDoor
open Go.RowKit Go.ChangeShapes Go.WideShapes Go.ChangeAt

theorem KeysMake_any (A : Option Addr) (n c : Nat) (l : List UInt8) (w : World) (hb : RB w A n l) {ea : Nat → Addr} (hE : Errs w ea) (ht : ShaTabs w) :
    Calls Tryd.prog 3 #[.slice A n c] w fun e w' => e = .returned (.bool true) ∧ Below w.heap.size w w' := by
  by_cases h : 300 < n
  · exact KeysMake_long A n c w hE ht h
  by_cases h1 : n < 16 ∨ 64 < n
  · exact KeysMake_bad A n c l w hb hE ht (by omega) h1
  · exact KeysMake_good A n c l w hb hE ht (by omega) (by omega)

set_option maxRecDepth 100000 in
theorem keysMake_contract {H : Type} {enc : TypeId × Value → H} {W : World} {base : Nat} {args : Array Value} {ds : List (DataW H)} {p : List MemPlace}
    (hval : ∀ (j : Nat) t v, Tryd.f3.params[j]? = some t → args[j]? = some v → Value.okWide Tryd.prog W .any base t v)
    (hA : DataW.TrodAll enc Tryd.prog W 0 (fun _ => true) true Tryd.f3.params.toList args.toList ds p) (hL : laidMetH Tryd.prog Rows.keysMakeRow.laid W) :
    Calls Tryd.prog 3 args W fun e w' => e = .returned (.bool true) ∧ Below W.heap.size W w' := by
  rw [Tryd.params3] at hA hval
  obtain ⟨v0, d0, rfl, rfl, ⟨f0, h0⟩⟩ := trodAll_one hA
  obtain ⟨a0, n0, c0, rfl⟩ := okWide_slice Tryd.underlying22 (hval 0 _ v0 rfl rfl)
  obtain ⟨l, A, c, e, hc, hm, hl⟩ := open_sb h0
  obtain ⟨ea, he⟩ := Errs.of_laid hL (by kernel_rfl) (by kernel_rfl)
  rw [e]
  exact KeysMake_any _ _ _ l W hl he (ShaTabs.of_laid hL (by kernel_rfl) (by simp [Rows.keysMakeRow]) (by simp [Rows.keysMakeRow]))
end Go.Proofs.YtlfeofakggkebaaDoor
