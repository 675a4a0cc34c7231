/- MacNumbers: its walk. -/
import Derived.Test.YtgiaifglkecdjaaDoorMacNum
import Derived.Test.YtgiaifglkecdjaaDoorRefByt
import Derived.Test.YtgiaifglkecdjaaDoorNum
import Derived.Test.YtgiaifglkecdjaaDoorErrsL
import Derived.Test.YtgiaifglkecdjaaDoorAlive02
namespace Go.Proofs.YtgiaifglkecdjaaDoor
open Go.RowKit

/-- A key's number: 32 figures. -/
def isNum (s : ByteArray) : Prop := s.size = 32 ∧ s.data.toList.all isHex = true
theorem hexs_of_num {s : ByteArray} (h : isNum s) : (⟨(hexs (bytesOf s.data.toList)).toArray⟩ : ByteArray) = s := by
  apply ByteArray.ext
  rw [hexs_bytesOf 16 s.data.toList (by simpa using h.1) h.2]
theorem num_of_hexs {b : List UInt8} (h : b.length = 16) : isNum ⟨(hexs b).toArray⟩ := by
  refine ⟨?_, ?_⟩
  · show (hexs b).toArray.size = 32
    rw [List.size_toArray, hexs_length, h]
  · exact hexs_hex b

theorem Bytes_good {s : ByteArray} (h : isNum s) {w : World} {ea : Nat → Addr} (he : Errs w ea) :
    Calls Tryd.prog 14 #[.string s] w fun e w' => ∃ A c, e = .returned (.tuple #[.slice A 16 c, .nilIface]) ∧ RB w' A 16 (bytesOf s.data.toList) ∧ 16 ≤ c ∧ c ≤ maxLen ∧ Below w.heap.size w w' := by
  refine (MacBytes_32 s w h.1 _ (he.cell 4 (by omega) (by omega))).mono ?_
  rintro e w' ⟨h1, _, h2⟩
  obtain ⟨v, rfl, hown⟩ := h1 h.2
  have hl : (bytesOf s.data.toList).length = 16 := bytesOf_length 16 _ (by simpa using h.1)
  obtain ⟨A, c, rfl, hc, hm, hr⟩ := hown.form
  rw [hl] at hc hr ⊢
  exact ⟨A, c, rfl, hr, hc, hm, h2⟩
theorem Bytes_bad {s : ByteArray} (h : ¬ isNum s) {w : World} {ea : Nat → Addr} (he : Errs w ea) :
    Calls Tryd.prog 14 #[.string s] w fun e w' => e = .returned (.tuple #[.slice none 0 0, .iface 221 (.pointer (some (ea 4)))]) ∧ Below w.heap.size w w' := by
  by_cases h1 : s.size = 32
  · refine (MacBytes_32 s w h1 _ (he.cell 4 (by omega) (by omega))).mono ?_
    rintro e w' ⟨_, h2, h3⟩
    refine ⟨h2 ?_, h3⟩
    cases hh : s.data.toList.all isHex with
    | false => rfl
    | true => exact absurd ⟨h1, hh⟩ h
  · exact MacBytes_len s w h1 _ (he.cell 4 (by omega) (by omega))
theorem Number_bad (A : Option Addr) (n c : Nat) (hn : n ≠ 16) {w : World} {ea : Nat → Addr} (he : Errs w ea) :
    Calls Tryd.prog 17 #[.slice A n c] w fun e w' => e = .returned (.tuple #[.string ⟨#[]⟩, .iface 221 (.pointer (some (ea 4)))]) ∧ Below w.heap.size w w' := Number_len A n c w hn _ (he.cell 4 (by omega) (by omega))
theorem RefBytes_good {s : ByteArray} (h : isNum s) (w : World) :
    Calls Tryd.prog 15 #[.string s] w fun e w' => ∃ A c, e = .returned (.tuple #[.slice A 16 c, .bool true]) ∧ RB w' A 16 (bytesOf s.data.toList) ∧ Below w.heap.size w w' := by
  refine (RefBytes_any s w (by have := h.1; omega)).mono ?_
  rintro e w' ⟨h1, _, h2⟩
  obtain ⟨v, rfl, hown⟩ := h1 h.2
  have hs : s.data.toList.length = 32 := by simpa using h.1
  have hl : (bytesOf s.data.toList).length = 16 := bytesOf_length 16 _ hs
  rw [hs, refAt_done 16 _ hs] at hown
  obtain ⟨A, c, rfl, hc, hm, hr⟩ := hown.form
  rw [hl] at hr ⊢
  exact ⟨A, c, by rw [hs]; rfl, hr, h2⟩
theorem RefBytes_bad {s : ByteArray} (h : ¬ isNum s) (hs : s.size ≤ 1000) (w : World) :
    Calls Tryd.prog 15 #[.string s] w fun e w' => ∃ v, e = .returned (.tuple #[v, .bool false]) ∧ Below w.heap.size w w' := by
  refine (RefBytes_any s w hs).mono ?_
  rintro e w' ⟨h1, h2, h3⟩
  cases hh : s.data.toList.all isHex with
  | false => exact ⟨_, h2 hh, h3⟩
  | true =>
    obtain ⟨v, rfl, _⟩ := h1 hh
    refine ⟨v, ?_, h3⟩
    rw [decide_eq_false]
    intro h4
    exact h ⟨by simpa using h4, hh⟩

set_option maxHeartbeats 4000000 in
set_option maxRecDepth 100000 in
theorem MacNumbers_long (s : ByteArray) (A : Option Addr) (n c : Nat) (w : World) (h : 100 < s.size ∨ 100 < n) :
    Calls Tryd.prog 3 #[.string s, .slice A n c] w fun e w' => e = .returned (.bool true) ∧ Below w.heap.size w w' := by
  by_cases h1 : 100 < s.size
  · have q1 : decide (100 < (s.size : Int)) = true := decide_eq_true (by omega)
    clear h
    go_enter Tryd.func3, Tryd.ntmps3
    go_wp2_with (go_at_call 13; refine (alive02_any _).mono ?_; rintro e w1 ⟨rfl, hb⟩)
    go_ret
    exact ⟨rfl, hb⟩
  · have q1 : decide (100 < (s.size : Int)) = false := decide_eq_false (by omega)
    have q2 : decide (100 < (n : Int)) = true := decide_eq_true (by omega)
    clear h h1
    go_enter Tryd.func3, Tryd.ntmps3
    go_wp2_with (go_at_call 13; refine (alive02_any _).mono ?_; rintro e w1 ⟨rfl, hb⟩)
    go_ret
    exact ⟨rfl, hb⟩

set_option maxHeartbeats 4000000 in
set_option maxRecDepth 100000 in
theorem MacNumbers_gg (s : ByteArray) (A : Option Addr) (n c : Nat) (b : List UInt8) (w : World) {ea : Nat → Addr} (he : Errs w ea) (hb : RB w A n b) (hnc : n ≤ c) (hs : s.size ≤ 100) (hnn : n ≤ 100) (hnum : isNum s) (hn : n = 16) :
    Calls Tryd.prog 3 #[.string s, .slice A n c] w fun e w' => e = .returned (.bool true) ∧ Below w.heap.size w w' := by
  have He := Lib.hid he
  have Hb := Lib.hid hb
  have Hnum := Lib.hid hnum
  have q1 : decide (100 < (s.size : Int)) = false := decide_eq_false (by omega)
  have q2 : decide (100 < (n : Int)) = false := decide_eq_false (by omega)
  have HB1 := Lib.hid (fun (W : World) (h : Errs W ea) => Bytes_good hnum h)
  have HS := Lib.hid (hexs_of_num hnum)
  subst hn
  have HB2 := Lib.hid (fun (W : World) (h : Errs W ea) => Bytes_good (num_of_hexs (b := b) hb.1) h)
  have HT : Hid (bytesOf (⟨(hexs b).toArray⟩ : ByteArray).data.toList = b) := bytesOf_hexs b
  clear he hb hnum
  go_enter Tryd.func3, Tryd.ntmps3
  go_wp2_with (first
    | (go_at_call 13; refine (alive02_any _).mono ?_; rintro e w1 ⟨rfl, hb1⟩; have B1 := Lib.hid hb1; have E1 := Lib.hid (He.out.below hb1); clear hb1)
    | (go_at_call 14; (with_reducible refine (HB1.out w1 E1.out).mono ?_); rintro e w2 ⟨A2, c2, rfl, hr2, hc2, hm2, hb2⟩; have R2 := Lib.hid hr2; have B2 := Lib.hid (B1.out.trans (hb2.mono B1.out.size)); have E2 := Lib.hid (E1.out.below hb2); clear hb2 hr2)
    | (go_at_call 15; (with_reducible refine (RefBytes_good Hnum.out w2).mono ?_); rintro e w3 ⟨A3, c3, rfl, hr3, hb3⟩; have R3 := Lib.hid hr3; have R23 := Lib.hid (R2.out.keep (Keeps.of_below hb3)); have B3 := Lib.hid (B2.out.trans (hb3.mono B2.out.size)); have E3 := Lib.hid (E2.out.below hb3); clear hb3 hr3)
    | (go_at_call 17; (with_reducible refine (Number_16 A2 16 c2 (bytesOf s.data.toList) w3 R23.out rfl hc2).mono ?_); rw [HS.out]; rintro e w4 ⟨rfl, hb4⟩; have cx := run_bytes_string (P := Tryd.prog) Tryd.underlying22 Tryd.underlying5 Tryd.underlying9 (c := c2) (R23.out.keep (Keeps.of_below hb4)); have cy := run_bytes_string (P := Tryd.prog) Tryd.underlying22 Tryd.underlying5 Tryd.underlying9 (c := c3) (R3.out.keep (Keeps.of_below hb4)); have B4 := Lib.hid (B3.out.trans (hb4.mono B3.out.size)); have E4 := Lib.hid (E3.out.below hb4); clear hb4)
    | (go_at_call 17; (with_reducible refine (Number_16 A 16 c b w4 (Hb.out.keep (Keeps.of_below B4.out)) rfl hnc).mono ?_); rintro e w5 ⟨rfl, hb5⟩; have B5 := Lib.hid (B4.out.trans (hb5.mono B4.out.size)); have E5 := Lib.hid (E4.out.below hb5); clear hb5)
    | (go_at_call 14; (with_reducible refine (HB2.out w5 E5.out).mono ?_); rintro e w6 ⟨A6, c6, rfl, hr6, hc6, hm6, hb6⟩; rw [HT.out] at hr6; have R6 := Lib.hid hr6; have B6 := Lib.hid (B5.out.trans (hb6.mono B5.out.size)); clear hb6 hr6)
    | (go_at_call 18; (with_reducible refine (RefText_any A 16 c b w6 (Hb.out.keep (Keeps.of_below B6.out)) (by omega)).mono ?_); rintro e w7 ⟨rfl, hb7⟩; have B7 := Lib.hid (B6.out.trans (hb7.mono B6.out.size)); have cz := run_bytes_string (P := Tryd.prog) Tryd.underlying22 Tryd.underlying5 Tryd.underlying9 (c := c6) (R6.out.keep (Keeps.of_below hb7)); have cb := run_bytes_string (P := Tryd.prog) Tryd.underlying22 Tryd.underlying5 Tryd.underlying9 (c := c) (Hb.out.keep (Keeps.of_below B7.out)); clear hb7))
  go_ret
  exact ⟨rfl, B7.out⟩

set_option maxHeartbeats 4000000 in
set_option maxRecDepth 100000 in
theorem MacNumbers_gb (s : ByteArray) (A : Option Addr) (n c : Nat) (b : List UInt8) (w : World) {ea : Nat → Addr} (he : Errs w ea) (hb : RB w A n b) (_hnc : n ≤ c) (hs : s.size ≤ 100) (hnn : n ≤ 100) (hnum : isNum s) (hn : n ≠ 16) :
    Calls Tryd.prog 3 #[.string s, .slice A n c] w fun e w' => e = .returned (.bool true) ∧ Below w.heap.size w w' := by
  have He := Lib.hid he
  have Hb := Lib.hid hb
  have Hnum := Lib.hid hnum
  have q1 : decide (100 < (s.size : Int)) = false := decide_eq_false (by omega)
  have q2 : decide (100 < (n : Int)) = false := decide_eq_false (by omega)
  have HB1 := Lib.hid (fun (W : World) (h : Errs W ea) => Bytes_good hnum h)
  have HS := Lib.hid (hexs_of_num hnum)
  have n1 : ((n : Int) == 16) = false := beq_eq_false_iff_ne.2 (by omega)
  have n2 : ((n : Int) != 16) = true := bne_iff_ne.2 (by omega)
  have Hn16 := Lib.hid hn
  clear he hb hnum hn
  go_enter Tryd.func3, Tryd.ntmps3
  go_wp2_with (first
    | (go_at_call 13; refine (alive02_any _).mono ?_; rintro e w1 ⟨rfl, hb1⟩; have B1 := Lib.hid hb1; have E1 := Lib.hid (He.out.below hb1); clear hb1)
    | (go_at_call 14; (with_reducible refine (HB1.out w1 E1.out).mono ?_); rintro e w2 ⟨A2, c2, rfl, hr2, hc2, hm2, hb2⟩; have R2 := Lib.hid hr2; have B2 := Lib.hid (B1.out.trans (hb2.mono B1.out.size)); have E2 := Lib.hid (E1.out.below hb2); clear hb2 hr2)
    | (go_at_call 15; (with_reducible refine (RefBytes_good Hnum.out w2).mono ?_); rintro e w3 ⟨A3, c3, rfl, hr3, hb3⟩; have R3 := Lib.hid hr3; have R23 := Lib.hid (R2.out.keep (Keeps.of_below hb3)); have B3 := Lib.hid (B2.out.trans (hb3.mono B2.out.size)); have E3 := Lib.hid (E2.out.below hb3); clear hb3 hr3)
    | (go_at_call 17; (with_reducible refine (Number_16 A2 16 c2 (bytesOf s.data.toList) w3 R23.out rfl hc2).mono ?_); rw [HS.out]; rintro e w4 ⟨rfl, hb4⟩; have cx := run_bytes_string (P := Tryd.prog) Tryd.underlying22 Tryd.underlying5 Tryd.underlying9 (c := c2) (R23.out.keep (Keeps.of_below hb4)); have cy := run_bytes_string (P := Tryd.prog) Tryd.underlying22 Tryd.underlying5 Tryd.underlying9 (c := c3) (R3.out.keep (Keeps.of_below hb4)); have B4 := Lib.hid (B3.out.trans (hb4.mono B3.out.size)); have E4 := Lib.hid (E3.out.below hb4); clear hb4)
    | (go_at_call 17; (with_reducible refine (Number_bad A n c Hn16.out E4.out).mono ?_); rintro e w5 ⟨rfl, hb5⟩; have B5 := Lib.hid (B4.out.trans (hb5.mono B4.out.size)); have E5 := Lib.hid (E4.out.below hb5); clear hb5)
    | (go_at_call 16; (with_reducible refine (Num_err E5.out 4 (by omega) (by omega)).mono ?_); rintro e w7 ⟨rfl, hb7⟩; have B7 := Lib.hid (B5.out.trans (hb7.mono B5.out.size)); clear hb7))
  go_ret
  exact ⟨rfl, B7.out⟩

set_option maxHeartbeats 4000000 in
set_option maxRecDepth 100000 in
theorem MacNumbers_bg (s : ByteArray) (A : Option Addr) (n c : Nat) (b : List UInt8) (w : World) {ea : Nat → Addr} (he : Errs w ea) (hb : RB w A n b) (hnc : n ≤ c) (hs : s.size ≤ 100) (hnn : n ≤ 100) (hnum : ¬ isNum s) (hn : n = 16) :
    Calls Tryd.prog 3 #[.string s, .slice A n c] w fun e w' => e = .returned (.bool true) ∧ Below w.heap.size w w' := by
  have He := Lib.hid he
  have Hb := Lib.hid hb
  have Hnum := Lib.hid hnum
  have q1 : decide (100 < (s.size : Int)) = false := decide_eq_false (by omega)
  have q2 : decide (100 < (n : Int)) = false := decide_eq_false (by omega)
  have HB1 := Lib.hid (fun (W : World) (h : Errs W ea) => Bytes_bad hnum h)
  subst hn
  have HB2 := Lib.hid (fun (W : World) (h : Errs W ea) => Bytes_good (num_of_hexs (b := b) hb.1) h)
  have HT : Hid (bytesOf (⟨(hexs b).toArray⟩ : ByteArray).data.toList = b) := bytesOf_hexs b
  clear he hb hnum
  go_enter Tryd.func3, Tryd.ntmps3
  go_wp2_with (first
    | (go_at_call 13; refine (alive02_any _).mono ?_; rintro e w1 ⟨rfl, hb1⟩; have B1 := Lib.hid hb1; have E1 := Lib.hid (He.out.below hb1); clear hb1)
    | (go_at_call 14; (with_reducible refine (HB1.out w1 E1.out).mono ?_); rintro e w2 ⟨rfl, hb2⟩; have B2 := Lib.hid (B1.out.trans (hb2.mono B1.out.size)); have E2 := Lib.hid (E1.out.below hb2); clear hb2)
    | (go_at_call 15; (with_reducible refine (RefBytes_bad Hnum.out (by omega) w2).mono ?_); rintro e w3 ⟨v3, rfl, hb3⟩; have B3 := Lib.hid (B2.out.trans (hb3.mono B2.out.size)); have E3 := Lib.hid (E2.out.below hb3); clear hb3)
    | (go_at_call 16; (with_reducible refine (Num_err E3.out 4 (by omega) (by omega)).mono ?_); rintro e w4 ⟨rfl, hb4⟩; have B4 := Lib.hid (B3.out.trans (hb4.mono B3.out.size)); have E4 := Lib.hid (E3.out.below hb4); clear hb4)
    | (go_at_call 17; (with_reducible refine (Number_16 A 16 c b w4 (Hb.out.keep (Keeps.of_below B4.out)) rfl hnc).mono ?_); rintro e w5 ⟨rfl, hb5⟩; have B5 := Lib.hid (B4.out.trans (hb5.mono B4.out.size)); have E5 := Lib.hid (E4.out.below hb5); clear hb5)
    | (go_at_call 14; (with_reducible refine (HB2.out w5 E5.out).mono ?_); rintro e w6 ⟨A6, c6, rfl, hr6, hc6, hm6, hb6⟩; rw [HT.out] at hr6; have R6 := Lib.hid hr6; have B6 := Lib.hid (B5.out.trans (hb6.mono B5.out.size)); clear hb6 hr6)
    | (go_at_call 18; (with_reducible refine (RefText_any A 16 c b w6 (Hb.out.keep (Keeps.of_below B6.out)) (by omega)).mono ?_); rintro e w7 ⟨rfl, hb7⟩; have B7 := Lib.hid (B6.out.trans (hb7.mono B6.out.size)); have cz := run_bytes_string (P := Tryd.prog) Tryd.underlying22 Tryd.underlying5 Tryd.underlying9 (c := c6) (R6.out.keep (Keeps.of_below hb7)); have cb := run_bytes_string (P := Tryd.prog) Tryd.underlying22 Tryd.underlying5 Tryd.underlying9 (c := c) (Hb.out.keep (Keeps.of_below B7.out)); clear hb7))
  go_ret
  exact ⟨rfl, B7.out⟩

set_option maxHeartbeats 4000000 in
set_option maxRecDepth 100000 in
theorem MacNumbers_bb (s : ByteArray) (A : Option Addr) (n c : Nat) (b : List UInt8) (w : World) {ea : Nat → Addr} (he : Errs w ea) (hb : RB w A n b) (_hnc : n ≤ c) (hs : s.size ≤ 100) (hnn : n ≤ 100) (hnum : ¬ isNum s) (hn : n ≠ 16) :
    Calls Tryd.prog 3 #[.string s, .slice A n c] w fun e w' => e = .returned (.bool true) ∧ Below w.heap.size w w' := by
  have He := Lib.hid he
  have Hb := Lib.hid hb
  have Hnum := Lib.hid hnum
  have q1 : decide (100 < (s.size : Int)) = false := decide_eq_false (by omega)
  have q2 : decide (100 < (n : Int)) = false := decide_eq_false (by omega)
  have HB1 := Lib.hid (fun (W : World) (h : Errs W ea) => Bytes_bad hnum h)
  have n1 : ((n : Int) == 16) = false := beq_eq_false_iff_ne.2 (by omega)
  have n2 : ((n : Int) != 16) = true := bne_iff_ne.2 (by omega)
  have Hn16 := Lib.hid hn
  clear he hb hnum hn
  go_enter Tryd.func3, Tryd.ntmps3
  go_wp2_with (first
    | (go_at_call 13; refine (alive02_any _).mono ?_; rintro e w1 ⟨rfl, hb1⟩; have B1 := Lib.hid hb1; have E1 := Lib.hid (He.out.below hb1); clear hb1)
    | (go_at_call 14; (with_reducible refine (HB1.out w1 E1.out).mono ?_); rintro e w2 ⟨rfl, hb2⟩; have B2 := Lib.hid (B1.out.trans (hb2.mono B1.out.size)); have E2 := Lib.hid (E1.out.below hb2); clear hb2)
    | (go_at_call 15; (with_reducible refine (RefBytes_bad Hnum.out (by omega) w2).mono ?_); rintro e w3 ⟨v3, rfl, hb3⟩; have B3 := Lib.hid (B2.out.trans (hb3.mono B2.out.size)); have E3 := Lib.hid (E2.out.below hb3); clear hb3)
    | (go_at_call 16; (with_reducible refine (Num_err E3.out 4 (by omega) (by omega)).mono ?_); rintro e w4 ⟨rfl, hb4⟩; have B4 := Lib.hid (B3.out.trans (hb4.mono B3.out.size)); have E4 := Lib.hid (E3.out.below hb4); clear hb4)
    | (go_at_call 17; (with_reducible refine (Number_bad A n c Hn16.out E4.out).mono ?_); rintro e w5 ⟨rfl, hb5⟩; have B5 := Lib.hid (B4.out.trans (hb5.mono B4.out.size)); have E5 := Lib.hid (E4.out.below hb5); clear hb5)
    | (go_at_call 16; (with_reducible refine (Num_err E5.out 4 (by omega) (by omega)).mono ?_); rintro e w7 ⟨rfl, hb7⟩; have B7 := Lib.hid (B5.out.trans (hb7.mono B5.out.size)); clear hb7))
  go_ret
  exact ⟨rfl, B7.out⟩
end Go.Proofs.YtgiaifglkecdjaaDoor
