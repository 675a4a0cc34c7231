/- MacFrames: its contract over whatever can be read. -/
import Derived.Test.YtgiaifglkecdjaaDoorFramesL
import Derived.Test.YtgiaifglkecdjaaDoorLaw
namespace Go.Proofs.YtgiaifglkecdjaaDoor
open Go.RowKit Go.ChangeShapes Go.WideShapes Go.ChangeAt

set_option maxHeartbeats 4000000 in
set_option maxRecDepth 100000 in
theorem MacFrames_long (A : Option Addr) (n c : Nat) (s : ByteArray) (A2 : Option Addr) (n2 c2 : Nat) (ls : List (List UInt8)) (w : World) (hl : RBL w A2 n2 ls) (hn2 : n2 ≤ maxLen)
    (hbad : ((decide (300 < n) || decide (20 < n2) || ls.any partOver) || decide (100 < s.size)) = true) :
    Calls Tryd.prog 5 #[.slice A n c, .string s, .slice A2 n2 c2] w fun e w' => e = .returned (.bool true) ∧ Below w.heap.size w w' := by
  have Hl := Lib.hid hl
  clear hl
  cases h : (decide (300 < n) || decide (20 < n2) || ls.any partOver) with
  | true =>
    have Hbad := Lib.hid h
    clear h hbad
    go_enter Tryd.func5, Tryd.ntmps5
    go_wp2_with (first
      | (go_at_call 13; refine (alive02_any _).mono ?_; rintro e w1 ⟨rfl, hb1⟩; have B1 := Lib.hid hb1; clear hb1)
      | (go_at_call 29; refine (long02_any _ _ _ _ _ _ _ ls (Hl.out.keep (Keeps.of_below B1.out)) hn2).mono ?_; rintro e w' ⟨rfl, rfl⟩; rw [Hbad.out])
      | fail)
    go_ret
    exact ⟨rfl, B1.out⟩
  | false =>
    rw [h] at hbad
    have hs : 100 < s.size := by simpa using hbad
    have q1 : decide (100 < (s.size : Int)) = true := decide_eq_true (by omega)
    have Hbad := Lib.hid h
    clear h hbad hs
    go_enter Tryd.func5, Tryd.ntmps5
    go_wp2_with (first
      | (go_at_call 13; refine (alive02_any _).mono ?_; rintro e w1 ⟨rfl, hb1⟩; have B1 := Lib.hid hb1; clear hb1)
      | (go_at_call 29; refine (long02_any _ _ _ _ _ _ _ ls (Hl.out.keep (Keeps.of_below B1.out)) hn2).mono ?_; rintro e w' ⟨rfl, rfl⟩; rw [Hbad.out])
      | fail)
    go_ret
    exact ⟨rfl, B1.out⟩

theorem parts_short {ls : List (List UInt8)} (h : ls.any partOver = false) : ls.any tooLong = false := by
  rw [List.any_eq_false] at h ⊢
  intro p hp
  have := h p hp
  simp [partOver, tooLong] at this ⊢
  omega

theorem MacFrames_any (A : Option Addr) (n c : Nat) (key : List UInt8) (s : ByteArray) (A2 : Option Addr) (n2 c2 : Nat) (ls : List (List UInt8)) (w : World) {ea : Nat → Addr} (he : Errs w ea) (hb : RB w A n key) (hnc : n ≤ c) (hc : c ≤ maxLen) (hl : RBL w A2 n2 ls) (hn2 : n2 ≤ maxLen) (ht : ShaTabs w) :
    Calls Tryd.prog 5 #[.slice A n c, .string s, .slice A2 n2 c2] w fun e w' => e = .returned (.bool true) ∧ Below w.heap.size w w' := by
  cases hbad : ((decide (300 < n) || decide (20 < n2) || ls.any partOver) || decide (100 < s.size)) with
  | true => exact MacFrames_long A n c s A2 n2 c2 ls w hl hn2 hbad
  | false =>
    rw [Bool.or_eq_false_iff, decide_eq_false_iff_not] at hbad
    obtain ⟨h1, h2⟩ := hbad
    cases hw : wordBad s.data.toList with
    | true => exact MacFrames_text A n c s A2 n2 c2 ls w he hl h1 (by omega) hw
    | false =>
      by_cases h16 : 16 < n2
      · exact MacFrames_many A n c s A2 n2 c2 ls w he hl h1 (by omega) hw h16
      · refine MacFrames_good A n c key s A2 n2 c2 ls w he hb hnc hc hl ht h1 (by omega) ?_
        have h3 : ls.any partOver = false := by
          rw [Bool.or_eq_false_iff] at h1
          exact h1.2
        unfold frameBad partsBad
        rw [hw, hl.1, decide_eq_false h16, parts_short h3]
        rfl

set_option maxRecDepth 100000 in
theorem macFrames_contract {H : Type} {enc : TypeId × Value → H} {W : World} {base : Nat} {args : Array Value} {ds : List (DataW H)} {p : List MemPlace}
    (hval : ∀ (j : Nat) t v, Tryd.f5.params[j]? = some t → args[j]? = some v → Value.okWide Tryd.prog W .any base t v)
    (hA : DataW.TrodAll enc Tryd.prog W 0 (fun _ => true) true Tryd.f5.params.toList args.toList ds p) (hL : laidMetH Tryd.prog Rows.macFramesRow.laid W) :
    Calls Tryd.prog 5 args W fun e w' => e = .returned (.bool true) ∧ Below W.heap.size W w' := by
  rw [Tryd.params5] at hA hval
  obtain ⟨v0, v1, v2, d0, d1, d2, p0, p1, p2, rfl, rfl, rfl, ⟨f0, h0⟩, ⟨f1, h1⟩, ⟨f2, h2⟩⟩ := trodAll_three hA
  obtain ⟨a0, n0, c0, rfl⟩ := okWide_slice Tryd.underlying22 (hval 0 _ v0 rfl rfl)
  obtain ⟨s, rfl⟩ := okWide_string Tryd.underlying9 (hval 1 _ v1 rfl rfl)
  obtain ⟨a2, n2, c2, rfl⟩ := okWide_slice Tryd.underlying52 (hval 2 _ v2 rfl rfl)
  obtain ⟨l, A, c, e, hc, hm, hl⟩ := open_sb h0
  obtain ⟨B, n, d, ls, e', hl', hc', hm'⟩ := open_sbl h2
  obtain ⟨ea, he⟩ := Errs.of_laid hL (by kernel_rfl) (by kernel_rfl)
  rw [e, e']
  exact MacFrames_any _ _ _ l s B _ _ ls W he hl hc hm hl' (Nat.le_trans hc' hm') (ShaTabs.of_laid hL (by kernel_rfl) (by simp [Rows.macFramesRow]) (by simp [Rows.macFramesRow]))
end Go.Proofs.YtgiaifglkecdjaaDoor
