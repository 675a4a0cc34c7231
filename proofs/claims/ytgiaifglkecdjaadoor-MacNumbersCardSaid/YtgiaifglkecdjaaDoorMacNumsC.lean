/- MacNumbers: its contract over whatever can be read. -/
import Derived.Test.YtgiaifglkecdjaaDoorMacNumsL
import Derived.Test.YtgiaifglkecdjaaDoorLaw
namespace Go.Proofs.YtgiaifglkecdjaaDoor
open Go.RowKit Go.ChangeShapes Go.WideShapes Go.ChangeAt

theorem MacNumbers_any (s : ByteArray) (A : Option Addr) (n c : Nat) (b : List UInt8) (w : World) {ea : Nat → Addr} (he : Errs w ea) (hb : RB w A n b) (hnc : n ≤ c) :
    Calls Tryd.prog 3 #[.string s, .slice A n c] w fun e w' => e = .returned (.bool true) ∧ Below w.heap.size w w' := by
  by_cases h : 100 < s.size ∨ 100 < n
  · exact MacNumbers_long s A n c w h
  by_cases h1 : isNum s
  · by_cases h2 : n = 16
    · exact MacNumbers_gg s A n c b w he hb hnc (by omega) (by omega) h1 h2
    · exact MacNumbers_gb s A n c b w he hb hnc (by omega) (by omega) h1 h2
  · by_cases h2 : n = 16
    · exact MacNumbers_bg s A n c b w he hb hnc (by omega) (by omega) h1 h2
    · exact MacNumbers_bb s A n c b w he hb hnc (by omega) (by omega) h1 h2

set_option maxRecDepth 100000 in
theorem macNumbers_contract {H : Type} {enc : TypeId × Value → H} {W : World} {base : Nat} {args : Array Value} {ds : List (DataW H)} {p : List MemPlace}
    (hval : ∀ (j : Nat) t v, Tryd.f3.params[j]? = some t → args[j]? = some v → Value.okWide Tryd.prog W .any base t v)
    (hA : DataW.TrodAll enc Tryd.prog W 0 (fun _ => true) true Tryd.f3.params.toList args.toList ds p) (hL : laidMetH Tryd.prog Rows.macNumbersRow.laid W) :
    Calls Tryd.prog 3 args W fun e w' => e = .returned (.bool true) ∧ Below W.heap.size W w' := by
  rw [Tryd.params3] at hA hval
  obtain ⟨v0, v1, d0, d1, p0, p1, rfl, rfl, rfl, ⟨f0, h0⟩, ⟨f1, h1⟩⟩ := trodAll_two hA
  obtain ⟨s, rfl⟩ := okWide_string Tryd.underlying9 (hval 0 _ v0 rfl rfl)
  obtain ⟨a1, n1, c1, rfl⟩ := okWide_slice Tryd.underlying22 (hval 1 _ v1 rfl rfl)
  obtain ⟨l, A, c, e, hc, hm, hl⟩ := open_sb h1
  obtain ⟨ea, he⟩ := Errs.of_laid hL (by kernel_rfl) (by kernel_rfl)
  rw [e]
  exact MacNumbers_any s _ _ _ l W he hl hc
end Go.Proofs.YtgiaifglkecdjaaDoor
