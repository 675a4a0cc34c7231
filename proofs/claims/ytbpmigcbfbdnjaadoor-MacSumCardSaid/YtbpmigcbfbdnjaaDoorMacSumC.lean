/- MacSum: its contract over whatever can be read. -/
import Derived.Test.YtbpmigcbfbdnjaaDoorMacSumL
import Derived.Test.YtbpmigcbfbdnjaaDoorLaw
namespace Go.Proofs.YtbpmigcbfbdnjaaDoor
open Go.RowKit Go.ChangeShapes Go.WideShapes Go.ChangeAt

theorem MacSumLaw_any (A : Option Addr) (n c : Nat) (key : List UInt8) (A2 : Option Addr) (n2 c2 : Nat) (ls : List (List UInt8)) (w : World) (hb : RB w A n key) (hnc : n ≤ c) (hc : c ≤ maxLen) (hl : RBL w A2 n2 ls) (hn2 : n2 ≤ maxLen) (ht : ShaTabs w) :
    Calls Tryd.prog 10 #[.slice A n c, .slice A2 n2 c2] w fun e w' => e = .returned (.bool true) ∧ Below w.heap.size w w' := by
  cases h : (decide (300 < n) || decide (20 < n2) || ls.any partOver) with
  | true => exact MacSumLaw_long A n c key A2 n2 c2 ls w hl hn2 h
  | false => exact MacSumLaw_short A n c key A2 n2 c2 ls w hb hnc hc hl hn2 ht h

set_option maxRecDepth 100000 in
theorem macSum_contract {H : Type} {enc : TypeId × Value → H} {W : World} {base : Nat} {args : Array Value} {ds : List (DataW H)} {p : List MemPlace}
    (hval : ∀ (j : Nat) t v, Tryd.f10.params[j]? = some t → args[j]? = some v → Value.okWide Tryd.prog W .any base t v)
    (hA : DataW.TrodAll enc Tryd.prog W 0 (fun _ => true) true Tryd.f10.params.toList args.toList ds p) (hL : laidMetH Tryd.prog Rows.macSumRow.laid W) :
    Calls Tryd.prog 10 args W fun e w' => e = .returned (.bool true) ∧ Below W.heap.size W w' := by
  rw [Tryd.params10] at hA hval
  obtain ⟨v0, v1, d0, d1, p0, p1, rfl, rfl, rfl, ⟨f0, h0⟩, ⟨f1, h1⟩⟩ := trodAll_two hA
  obtain ⟨a0, n0, c0, rfl⟩ := okWide_slice Tryd.underlying27 (hval 0 _ v0 rfl rfl)
  obtain ⟨a1, n1, c1, rfl⟩ := okWide_slice Tryd.underlying22 (hval 1 _ v1 rfl rfl)
  obtain ⟨l, A, c, e, hc, hm, hl⟩ := open_sb h0
  obtain ⟨B, n, d, ls, e', hl', hc', hm'⟩ := open_sbl h1
  rw [e, e']
  exact MacSumLaw_any _ _ _ l B _ _ ls W hl hc hm hl' (Nat.le_trans hc' hm') (ShaTabs.of_laid hL (by kernel_rfl) (by simp [Rows.macSumRow]) (by simp [Rows.macSumRow]))
end Go.Proofs.YtbpmigcbfbdnjaaDoor
