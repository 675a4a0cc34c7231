/- ShaSum: its contract over whatever can be read. -/
import Derived.Test.YtbpmigcbfbdnjaaDoorShaSumL
import Derived.Test.YtbpmigcbfbdnjaaDoorLaw
namespace Go.Proofs.YtbpmigcbfbdnjaaDoor
open Go.RowKit Go.ChangeShapes Go.WideShapes Go.ChangeAt

theorem ShaSum_any (A : Option Addr) (n c : Nat) (ls : List (List UInt8)) (w : World) (hl : RBL w A n ls) (hn : n ≤ maxLen) (ht : ShaTabs w) :
    Calls Tryd.prog 7 #[.slice A n c] w fun e w' => e = .returned (.bool true) ∧ Below w.heap.size w w' := by
  cases h : (decide (20 < n) || ls.any partOver1) with
  | true => exact ShaSum_long A n c ls w hl hn ht h
  | false => exact ShaSum_short A n c ls w hl hn ht h

set_option maxRecDepth 100000 in
theorem shaSum_contract {H : Type} {enc : TypeId × Value → H} {W : World} {base : Nat} {args : Array Value} {ds : List (DataW H)} {p : List MemPlace}
    (hval : ∀ (j : Nat) t v, Tryd.f7.params[j]? = some t → args[j]? = some v → Value.okWide Tryd.prog W .any base t v)
    (hA : DataW.TrodAll enc Tryd.prog W 0 (fun _ => true) true Tryd.f7.params.toList args.toList ds p) (hL : laidMetH Tryd.prog Rows.shaSumRow.laid W) :
    Calls Tryd.prog 7 args W fun e w' => e = .returned (.bool true) ∧ Below W.heap.size W w' := by
  rw [Tryd.params7] at hA hval
  obtain ⟨v0, d0, rfl, rfl, f0, h0⟩ := trodAll_one hA
  obtain ⟨a0, n0, c0, rfl⟩ := okWide_slice Tryd.underlying22 (hval 0 _ v0 rfl rfl)
  obtain ⟨A, n, c, ls, e, hl, hc, hm⟩ := open_sbl h0
  rw [e]
  exact ShaSum_any A n c ls W hl (Nat.le_trans hc hm) (ShaTabs.of_laid hL (by kernel_rfl) (by simp [Rows.shaSumRow]) (by simp [Rows.shaSumRow]))
end Go.Proofs.YtbpmigcbfbdnjaaDoor
