/- MacApart: the walk. -/
import Derived.Test.YtbpmigcbfbdnjaaDoorApartLaw0
import Derived.Test.YtbpmigcbfbdnjaaDoorLongs
import Derived.Test.YtbpmigcbfbdnjaaDoorMacSame
import Derived.Test.YtbpmigcbfbdnjaaDoorLaw
import Derived.Test.YtbpmigcbfbdnjaaDoorErrs
import Derived.Lib.SmallJoins
namespace Go.Proofs.YtbpmigcbfbdnjaaDoor
open Go.RowKit Go.ChangeShapes Go.WideShapes Go.ChangeAt Go.Deep Go.Joins

set_option maxRecDepth 100000 in
/-- Something is longer than the law asks. -/
theorem MacApart_long (s1 s2 : ByteArray) (A B : Option Addr) (n m c d : Nat) (w : World) (l r : List (List UInt8)) (hl : RBL w A n l) (hr : RBL w B m r) (hn : n ≤ maxLen) (hm : m ≤ maxLen)
    (h : (decide (20 < n) || l.any partOver) = true ∨ (decide (20 < m) || r.any partOver) = true ∨ 100 < s1.size ∨ 100 < s2.size) :
    Calls Tryd.prog 3 #[.agg #[.string s1, .slice A n c], .agg #[.string s2, .slice B m d]] w fun e w' => e = .returned (.bool true) ∧ Below w.heap.size w w' := by
  have Hl := Lib.hid hl
  have Hr := Lib.hid hr
  clear hl hr
  generalize g1 : (decide (20 < n) || l.any partOver) = b1 at *
  generalize g2 : (decide (20 < m) || r.any partOver) = b2 at *
  have G1 := Lib.hid g1
  have G2 := Lib.hid g2
  clear g1 g2
  have H := Lib.hid h
  clear h
  go_enter Tryd.func3, Tryd.ntmps3
  go_wp2_with fail
  refine (alive02_any _).mono ?_
  rintro e w1 ⟨rfl, hb⟩
  have hbw : Below w.heap.size w w1 := (((Below.refl _ w).alloc (Nat.le_refl _) _).alloc (by simp) _).trans (hb.mono (by simp; omega))
  have c0 := Keeps.of_below hb ⟨w.heap.size, 0, none⟩ (.string s1) (by simp [go_sem])
  have c1 := Keeps.of_below hb ⟨w.heap.size, 1, none⟩ (.slice A n c) (by simp [go_sem])
  have c2 := Keeps.of_below hb ⟨w.heap.size + 1, 0, none⟩ (.string s2) (by simp [go_sem])
  have c3 := Keeps.of_below hb ⟨w.heap.size + 1, 1, none⟩ (.slice B m d) (by simp [go_sem])
  clear hb
  go_wp2_with fail
  refine (long02_any none A 0 n 0 c _ l (Hl.out.keep (Keeps.of_below hbw)) hn).mono ?_
  rintro e w' ⟨rfl, rfl⟩
  rw [show (decide (300 < 0) || decide (20 < n) || l.any partOver) = b1 by rw [← G1.out]; simp]
  cases b1
  case true =>
    go_wp2
    go_ret
    exact ⟨rfl, hbw⟩
  go_wp2_with fail
  refine (long02_any none B 0 m 0 d _ r (Hr.out.keep (Keeps.of_below hbw)) hm).mono ?_
  rintro e w' ⟨rfl, rfl⟩
  rw [show (decide (300 < 0) || decide (20 < m) || r.any partOver) = b2 by rw [← G2.out]; simp]
  cases b2
  case true =>
    go_wp2
    go_ret
    exact ⟨rfl, hbw⟩
  have h := H.out
  simp only [Bool.false_eq_true, false_or] at h
  by_cases h3 : 100 < s1.size
  · have k : decide (100 < (s1.size : Int)) = true := decide_eq_true (by omega)
    clear h
    go_wp2
    go_ret
    exact ⟨rfl, hbw⟩
  · have k : decide (100 < (s1.size : Int)) = false := decide_eq_false (by omega)
    have k' : decide (100 < (s2.size : Int)) = true := decide_eq_true (by omega)
    clear h
    go_wp2
    go_ret
    exact ⟨rfl, hbw⟩

set_option maxRecDepth 100000 in
theorem MacApart_short (s1 s2 : ByteArray) (A B : Option Addr) (n m c d : Nat) (w : World) (l r : List (List UInt8)) (hl : RBL w A n l) (hr : RBL w B m r) (hn : n ≤ maxLen) (hm : m ≤ maxLen)
    {T1 T2 : TypeId} {x1 x2 : Value} (he : TextErrs w (.iface T1 x1) (.iface T2 x2))
    (h1 : (decide (20 < n) || l.any partOver) = false) (h2 : (decide (20 < m) || r.any partOver) = false) (h3 : s1.size ≤ 100) (h4 : s2.size ≤ 100) :
    Calls Tryd.prog 3 #[.agg #[.string s1, .slice A n c], .agg #[.string s2, .slice B m d]] w fun e w' => e = .returned (.bool true) ∧ Below w.heap.size w w' := by
  have Hl := Lib.hid hl
  have Hr := Lib.hid hr
  have He := Lib.hid he
  have G1 := Lib.hid h1
  have G2 := Lib.hid h2
  clear hl hr he h1 h2
  have k3 : decide (100 < (s1.size : Int)) = false := decide_eq_false (by omega)
  have k4 : decide (100 < (s2.size : Int)) = false := decide_eq_false (by omega)
  have hs1 : s1.size ≤ maxLen := by unfold maxLen; omega
  have hs2 : s2.size ≤ maxLen := by unfold maxLen; omega
  go_enter Tryd.func3, Tryd.ntmps3
  go_wp2_with fail
  refine (alive02_any _).mono ?_
  rintro e w1 ⟨rfl, hb⟩
  have hbw : Below w.heap.size w w1 := (((Below.refl _ w).alloc (Nat.le_refl _) _).alloc (by simp) _).trans (hb.mono (by simp; omega))
  have c0 := Keeps.of_below hb ⟨w.heap.size, 0, none⟩ (.string s1) (by simp [go_sem])
  have c1 := Keeps.of_below hb ⟨w.heap.size, 1, none⟩ (.slice A n c) (by simp [go_sem])
  have c2 := Keeps.of_below hb ⟨w.heap.size + 1, 0, none⟩ (.string s2) (by simp [go_sem])
  have c3 := Keeps.of_below hb ⟨w.heap.size + 1, 1, none⟩ (.slice B m d) (by simp [go_sem])
  clear hb
  go_wp2_with fail
  refine (long02_any none A 0 n 0 c _ l (Hl.out.keep (Keeps.of_below hbw)) hn).mono ?_
  rintro e w' ⟨rfl, rfl⟩
  rw [show (decide (300 < 0) || decide (20 < n) || l.any partOver) = false by rw [← G1.out]; simp]
  go_wp2_with fail
  refine (long02_any none B 0 m 0 d _ r (Hr.out.keep (Keeps.of_below hbw)) hm).mono ?_
  rintro e w' ⟨rfl, rfl⟩
  rw [show (decide (300 < 0) || decide (20 < m) || r.any partOver) = false by rw [← G2.out]; simp]
  go_wp2_with fail
  by_cases b1 : frameBad s1.data.toList l = true
  · -- the first is refused
    refine (Frame_bad s1 A n c l w1 (Hl.out.keep (Keeps.of_below hbw)) hs1 hn (He.out.keep (Keeps.of_below hbw)) b1).mono ?_
    rintro e w2 ⟨rfl, hb2⟩
    have B1 := Lib.hid b1
    clear b1
    replace c0 := Keeps.of_below hb2 _ _ c0
    replace c1 := Keeps.of_below hb2 _ _ c1
    replace c2 := Keeps.of_below hb2 _ _ c2
    replace c3 := Keeps.of_below hb2 _ _ c3
    have hbw2 : Below w.heap.size w w2 := hbw.trans (hb2.mono hbw.size)
    clear hb2
    have hv : ∃ T x, (if wordBad s1.data.toList = true then Value.iface T1 x1 else Value.iface T2 x2) = .iface T x := by split <;> exact ⟨_, _, rfl⟩
    obtain ⟨T, x, hv⟩ := hv
    rw [hv]
    clear hv
    go_wp2_with fail
    by_cases b2 : frameBad s2.data.toList r = true
    · refine (Frame_bad s2 B m d r w2 (Hr.out.keep (Keeps.of_below hbw2)) hs2 hm (He.out.keep (Keeps.of_below hbw2)) b2).mono ?_
      rintro e w3 ⟨rfl, hb3⟩
      have hbw3 : Below w.heap.size w w3 := hbw2.trans (hb3.mono hbw2.size)
      generalize (if wordBad s2.data.toList = true then Value.iface T1 x1 else Value.iface T2 x2) = ev
      clear hb3 b2
      go_wp2
      go_ret
      exact ⟨rfl, hbw3⟩
    · refine (Frame_good s2 B m d r w2 (Hr.out.keep (Keeps.of_below hbw2)) (by simpa using b2)).mono ?_
      rintro e w3 ⟨v, rfl, hown, hb3⟩
      have hbw3 : Below w.heap.size w w3 := hbw2.trans (hb3.mono hbw2.size)
      clear hb3 b2 hown
      go_wp2
      go_ret
      exact ⟨rfl, hbw3⟩
  · replace b1 : frameBad s1.data.toList l = false := by simpa using b1
    refine (Frame_good s1 A n c l w1 (Hl.out.keep (Keeps.of_below hbw)) b1).mono ?_
    rintro e w2 ⟨v1, rfl, hown1, hb2⟩
    have B1 := Lib.hid b1
    clear b1
    replace c0 := Keeps.of_below hb2 _ _ c0
    replace c1 := Keeps.of_below hb2 _ _ c1
    replace c2 := Keeps.of_below hb2 _ _ c2
    replace c3 := Keeps.of_below hb2 _ _ c3
    have hbw2 : Below w.heap.size w w2 := hbw.trans (hb2.mono hbw.size)
    clear hb2
    go_wp2_with fail
    by_cases b2 : frameBad s2.data.toList r = true
    · refine (Frame_bad s2 B m d r w2 (Hr.out.keep (Keeps.of_below hbw2)) hs2 hm (He.out.keep (Keeps.of_below hbw2)) b2).mono ?_
      rintro e w3 ⟨rfl, hb3⟩
      have hbw3 : Below w.heap.size w w3 := hbw2.trans (hb3.mono hbw2.size)
      have hv : ∃ T x, (if wordBad s2.data.toList = true then Value.iface T1 x1 else Value.iface T2 x2) = .iface T x := by split <;> exact ⟨_, _, rfl⟩
      obtain ⟨T, x, hv⟩ := hv
      rw [hv]
      clear hb3 b2 hv
      go_wp2
      go_ret
      exact ⟨rfl, hbw3⟩
    · replace b2 : frameBad s2.data.toList r = false := by simpa using b2
      refine (Frame_good s2 B m d r w2 (Hr.out.keep (Keeps.of_below hbw2)) b2).mono ?_
      rintro e w3 ⟨v2, rfl, hown2, hb3⟩
      have B2 := Lib.hid b2
      clear b2
      replace c0 := Keeps.of_below hb3 _ _ c0
      replace c1 := Keeps.of_below hb3 _ _ c1
      replace c2 := Keeps.of_below hb3 _ _ c2
      replace c3 := Keeps.of_below hb3 _ _ c3
      replace hown1 := hown1.below hb3
      have hbw3 : Below w.heap.size w w3 := hbw2.trans (hb3.mono hbw2.size)
      clear hb3
      obtain ⟨A1, cap1, rfl, _, _, hr1⟩ := hown1.form
      obtain ⟨A2, cap2, rfl, hc2, _, hr2⟩ := hown2.form
      clear hown1 hown2
      have hlaw := Lib.hid (frame_apart s1.data.toList s2.data.toList l r (by have := B1.out; simp [frameBad] at this; exact this.1) (by have := B2.out; simp [frameBad] at this; exact this.1)
        (by have := B1.out; simp [frameBad] at this; exact this.2) (by have := B2.out; simp [frameBad] at this; exact this.2))
      have hx0 : 0 < (frameB s1.data.toList l).length := by simp [frameB]
      have hy0 : 0 < (frameB s2.data.toList r).length := by simp [frameB]
      generalize frameB s1.data.toList l = fx at *
      generalize frameB s2.data.toList r = fy at *
      obtain ⟨b1, o1, rfl, hcx⟩ := hr1.2 hx0
      obtain ⟨b2, o2, rfl, hcy⟩ := hr2.2 hy0
      have cx := fun q => run_bytes_string (P := Tryd.prog) Tryd.underlying27 Tryd.underlying5 Tryd.underlying9 (c := cap1) (hr1.keep (Keeps.drewN w3 q))
      have cy : fx.length ≤ fy.length → ∀ q, (convert 27 9 (.slice (some ⟨b2, o2, none⟩) fx.length cap2)).run Tryd.prog (w3.drewN q) = .ok (.string ⟨(fy.take fx.length).toArray⟩) (w3.drewN q) := fun hle q =>
        run_bytes_string (P := Tryd.prog) Tryd.underlying27 Tryd.underlying5 Tryd.underlying9 (c := cap2) ⟨by simp; omega, fun _ => ⟨b2, o2, rfl, fun k hk => by
          have := hcy k (by omega)
          simp only [World.cell?_drewN]
          rw [this]
          simp [hk]⟩⟩
      have sx := str_list fx
      have sy := str_list (fy.take fx.length)
      clear hcx hcy hr1 hr2
      by_cases hs : s1 = s2
      · subst hs
        have k5 : (s1.toList == s1.toList) = true := by simp
        go_wp2_with fail
        refine (SameLists_any A B n m c d w3 l r (Hl.out.keep (Keeps.of_below hbw3)) (Hr.out.keep (Keeps.of_below hbw3)) hn).mono ?_
        rintro e w4 ⟨rfl, q4, rfl⟩
        by_cases hlr : l = r
        · have hns := Lib.hid (show s1.data.toList = s1.data.toList ∧ l = r from ⟨rfl, hlr⟩)
          rw [decide_eq_true hlr]
          clear hlr
          go_wp2_with fail
          obtain ⟨hle, htt⟩ := hlaw.out.2 hns.out
          have k6 : decide ((fx.length : Int) ≤ (fy.length : Int)) = true := decide_eq_true (by omega)
          have ht : (fy.take fx.length == fx) = true := by rw [htt]; simp
          have hz : (0 : Int) ≤ (fx.length : Int) := by omega
          clear htt
          go_quiet (fail)
          go_wp2
          go_ret
          exact ⟨rfl, below_drewN hbw3 _⟩
        · have hns := Lib.hid (show ¬ (s1.data.toList = s1.data.toList ∧ l = r) from fun h => hlr h.2)
          rw [decide_eq_false hlr]
          clear hlr
          go_wp2_with fail
          by_cases hle : fx.length ≤ fy.length
          · have k6 : decide ((fx.length : Int) ≤ (fy.length : Int)) = true := decide_eq_true (by omega)
            have ht : (fy.take fx.length == fx) = false := by
              simpa using fun h => hns.out (hlaw.out.1 ⟨hle, h⟩)
            have hz : (0 : Int) ≤ (fx.length : Int) := by omega
            go_quiet (fail)
            go_wp2
            go_ret
            exact ⟨rfl, below_drewN hbw3 _⟩
          · have k6 : decide ((fx.length : Int) ≤ (fy.length : Int)) = false := decide_eq_false (by omega)
            go_quiet (fail)
            go_wp2
            go_ret
            exact ⟨rfl, below_drewN hbw3 _⟩
      · have k5 : (s1.toList == s2.toList) = false := by
          rw [Lib.toList_data, Lib.toList_data]
          simpa using fun h => hs (by cases s1; cases s2; simpa using h)
        have hns := Lib.hid (show ¬ (s1.data.toList = s2.data.toList ∧ l = r) from fun h => hs (by cases s1; cases s2; simpa using h.1))
        clear hs
        go_wp2_with fail
        by_cases hle : fx.length ≤ fy.length
        · have k6 : decide ((fx.length : Int) ≤ (fy.length : Int)) = true := decide_eq_true (by omega)
          have ht : (fy.take fx.length == fx) = false := by
            simpa using fun h => hns.out (hlaw.out.1 ⟨hle, h⟩)
          have hz : (0 : Int) ≤ (fx.length : Int) := by omega
          go_quiet (fail)
          go_wp2
          go_ret
          exact ⟨rfl, below_drewN hbw3 _⟩
        · have k6 : decide ((fx.length : Int) ≤ (fy.length : Int)) = false := decide_eq_false (by omega)
          go_quiet (fail)
          go_wp2
          go_ret
          exact ⟨rfl, below_drewN hbw3 _⟩

theorem cells_text02 : Tryd.prog.cellsOf 24 = 2 := by kernel_rfl

set_option maxRecDepth 100000 in
theorem open_text02 {H : Type} {enc : TypeId × Value → H} {W : World} {base : Nat} {v : Value} {d : DataW H} {p : List MemPlace} (hv : Value.okWide Tryd.prog W .any base 24 v)
    (h : DataW.Trod enc Tryd.prog W 0 (fun _ => true) true 24 v d p) :
    ∃ s A n c ls, v = .agg #[.string s, .slice A n c] ∧ RBL W A n ls ∧ n ≤ maxLen := by
  obtain ⟨c0, c1, y0, y1, m, rfl, -, -, hy0, hy1⟩ := open_agg2 Tryd.underlying24 (by kernel_rfl) cells_text02 hv h
  obtain ⟨s, e0, -, -⟩ := DataW.trod_string Tryd.underlying9 hy0
  simp at e0; subst e0
  obtain ⟨A, n, c, ls, e1, hl, h1, h2⟩ := open_sbl hy1
  subst e1
  exact ⟨s, A, n, c, ls, rfl, hl, by omega⟩

set_option maxRecDepth 100000 in
theorem macApart_contract {H : Type} {enc : TypeId × Value → H} {W : World} {base : Nat} {args : Array Value} {ds : List (DataW H)} {p : List MemPlace}
    (hval : ∀ (j : Nat) t v, Tryd.f3.params[j]? = some t → args[j]? = some v → Value.okWide Tryd.prog W .any base t v)
    (hA : DataW.TrodAll enc Tryd.prog W 0 (fun _ => true) true Tryd.f3.params.toList args.toList ds p) (hL : laidMetH Tryd.prog Rows.macApartRow.laid W) :
    Calls Tryd.prog 3 args W fun e w' => e = .returned (.bool true) ∧ Below W.heap.size W w' := by
  rw [Tryd.params3] at hA hval
  obtain ⟨v0, v1, d0, d1, p0, p1, rfl, rfl, rfl, h0, h1⟩ := trodAll_two hA
  obtain ⟨s1, A, n, c, l, rfl, hl, hn⟩ := open_text02 (hval 0 _ v0 rfl rfl) h0
  obtain ⟨s2, B, m, d, r, rfl, hr, hm⟩ := open_text02 (hval 1 _ v1 rfl rfl) h1
  by_cases h : (decide (20 < n) || l.any partOver) = true ∨ (decide (20 < m) || r.any partOver) = true ∨ 100 < s1.size ∨ 100 < s2.size
  · exact MacApart_long s1 s2 A B n m c d W l r hl hr hn hm h
  · simp only [not_or] at h
    obtain ⟨a1, a2, a3, a4⟩ := h
    have he : ∃ T1 x1 T2 x2, TextErrs W (.iface T1 x1) (.iface T2 x2) := by
      obtain ⟨a, ha⟩ := err_of_laid (n := "bulla/api.ErrText") (d := Rows.laid_bulla_api_ErrText) hL (by kernel_rfl) (by simp [Rows.macApartRow]) ⟨_, rfl⟩ (by kernel_rfl) (by kernel_rfl)
      obtain ⟨b, hb⟩ := err_of_laid (n := "bulla/api.ErrLong") (d := Rows.laid_bulla_api_ErrLong) hL (by kernel_rfl) (by simp [Rows.macApartRow]) ⟨_, rfl⟩ (by kernel_rfl) (by kernel_rfl)
      exact ⟨_, _, _, _, ha.cell, hb.cell⟩
    obtain ⟨T1, x1, T2, x2, he⟩ := he
    exact MacApart_short s1 s2 A B n m c d W l r hl hr hn hm he (by simpa using a1) (by simpa using a2) (by omega) (by omega)
end Go.Proofs.YtbpmigcbfbdnjaaDoor
