/- MacSum: its walk. -/
import Derived.Test.YtbpmigcbfbdnjaaDoorIds
import Derived.Test.YtbpmigcbfbdnjaaDoorMacSame
import Derived.Test.YtbpmigcbfbdnjaaDoorShaSumL
import Derived.Test.YtbpmigcbfbdnjaaDoorLongs
import Derived.Stop.BytesEq
import Derived.Laws.StructEq
namespace Go.Proofs.YtbpmigcbfbdnjaaDoor
open Go.RowKit

set_option maxHeartbeats 4000000 in
set_option maxRecDepth 100000 in
theorem MacSumLaw_long (A : Option Addr) (n c : Nat) (key : List UInt8) (A2 : Option Addr) (n2 c2 : Nat) (ls : List (List UInt8)) (w : World) (hl : RBL w A2 n2 ls) (hn2 : n2 ≤ maxLen)
    (hbad : (decide (300 < n) || decide (20 < n2) || ls.any partOver) = true) :
    Calls Tryd.prog 10 #[.slice A n c, .slice A2 n2 c2] w fun e w' => e = .returned (.bool true) ∧ Below w.heap.size w w' := by
  have _k := key
  have Hl := Lib.hid hl
  have Hbad := Lib.hid hbad
  clear hl hbad
  go_enter Tryd.func10, Tryd.ntmps10
  go_wp2_with (first
    | (go_at_call 12; refine (alive02_any _).mono ?_; rintro e w1 ⟨rfl, hb1⟩)
    | (go_at_call 13; refine (long02_any _ _ _ _ _ _ _ ls (Hl.out.keep (Keeps.of_below hb1)) hn2).mono ?_; rintro e w' ⟨rfl, rfl⟩; rw [Hbad.out])
    | fail)
  go_ret
  exact ⟨rfl, hb1⟩

set_option maxHeartbeats 4000000 in
set_option maxRecDepth 100000 in
theorem MacSumLaw_short (A : Option Addr) (n c : Nat) (key : List UInt8) (A2 : Option Addr) (n2 c2 : Nat) (ls : List (List UInt8)) (w : World) (hb : RB w A n key) (hnc : n ≤ c) (hc : c ≤ maxLen) (hl : RBL w A2 n2 ls) (hn2 : n2 ≤ maxLen) (ht : ShaTabs w)
    (hbad : (decide (300 < n) || decide (20 < n2) || ls.any partOver) = false) :
    Calls Tryd.prog 10 #[.slice A n c, .slice A2 n2 c2] w fun e w' => e = .returned (.bool true) ∧ Below w.heap.size w w' := by
  have Hb := Lib.hid hb
  have Hkl := Lib.hid hb.1
  have Hl := Lib.hid hl
  have Hlen := Lib.hid hl.1
  have Ht := Lib.hid ht
  have Hbad := Lib.hid hbad
  have Hnc := Lib.hid (And.intro hnc hc)
  have hn300 : n ≤ 300 := by simp at hbad; omega
  have hn20 : n2 ≤ 20 := by simp at hbad; omega
  have Hany : Hid (ls.any partOver1 = false) := by
    show _ = _
    simp only [Bool.or_eq_false_iff] at hbad
    exact hbad.2
  have Hfl := Lib.hid (flat_le ls n2 Hany.out (by rw [Hlen.out]; omega))
  clear hb hl ht hbad hnc hc
  go_enter Tryd.func10, Tryd.ntmps10
  go_wp2_with (first
    | (go_at_call 12; refine (alive02_any _).mono ?_; rintro e w1 ⟨rfl, hb1⟩)
    | (go_at_call 13; refine (long02_any _ _ _ _ _ _ _ ls (Hl.out.keep (Keeps.of_below hb1)) hn2).mono ?_; rintro e w' ⟨rfl, rfl⟩; rw [Hbad.out])
    | fail)
  have Hb1 := Lib.hid hb1
  have Hlit := Lib.hid (OB.lit w1 w1.heap.size (Nat.le_refl _) [] 0 rfl (by decide))
  clear hb1
  go_loopg [5, 17] n2 (fun k s5 s17 wr => ∃ (v : Value) (i : Nat), s5 = v ∧ s17 = .int .i64 (i : Int) ∧ i + k = n2 ∧ OB wr w1.heap.size v (ls.take i).flatten ∧ Below w1.heap.size w1 wr)
  case atStart => exact ⟨_, 0, rfl, rfl, by omega, Hlit.out, (Below.refl _ w1).alloc (Nat.le_refl _) _⟩
  case round =>
    obtain ⟨v, i, rfl, rfl, hik, hown, hbel⟩ := hrel
    have Hown := Lib.hid hown
    have Hbel := Lib.hid hbel
    have Hbw := Lib.hid (Hb1.out.trans (hbel.mono Hb1.out.size))
    clear hown hbel
    by_cases hi : i < n2
    · obtain ⟨b, o, hA, hc⟩ := Hl.out.2 (by omega)
      subst hA
      obtain ⟨u, c1, A', c', hu, hc1, hc2, hrb⟩ := hc i hi
      subst hu
      have c2 := Keeps.of_below Hbw.out _ _ c1
      have Hrb := Lib.hid (hrb.keep (Keeps.of_below Hbw.out))
      have Hft := Lib.hid (flat_take ls i (by rw [Hlen.out]; exact hi))
      have Hpl := Lib.hid (part_le ls Hany.out i)
      have Hfi := Lib.hid (Nat.le_trans (flat_take_le ls i) Hfl.out)
      clear hc c1 hrb
      generalize ls.getD i [] = p at *
      generalize hF : (ls.take i).flatten = F0 at *
      clear hF
      have i0 : (0 : Int) ≤ (i : Int) := by omega
      have i1 : (i : Int) < (n2 : Int) := by omega
      have hpl := Hpl.out
      go_wp2_with (first
        | (at_builtin; refine wpList_append_b rfl (.tmp 21) (.tmp 22) 27 rfl Hown.out rfl (RB.src Tryd.underlying27 Hrb.out) rfl (by have := Hfi.out; omega) Hbel.out.size ?_; intro v5 w5 hown5 hgr5 hat5)
        | fail)
      go_roundg (gk - 1)
      case measure => omega
      case rel => exact ⟨_, i + 1, rfl, by go_num, by omega, by rw [Hft.out]; exact hown5, below_append Hbel.out hgr5 Hown.out (Nat.le_refl _) Hbel.out.size⟩
    · obtain rfl : i = n2 := by omega
      rw [List.take_of_length_le (by rw [Hlen.out]; exact Nat.le_refl _)] at Hown
      have hkw := Keeps.of_below Hbw.out
      obtain ⟨A3, c3, hv3, hc3, hm3, hr3⟩ := Hown.out.form
      have Hr3 := Lib.hid hr3
      generalize hall : ls.flatten = all at *
      have Hall := Lib.hid hall
      clear hr3 hall
      generalize hm : all.length = m at *
      have Hm := Lib.hid hm
      have hm6 : m ≤ 6000 := by have := Hfl.out; omega
      clear hm
      subst hv3
      go_wp2_with fail
      refine (Bytes_any A n c key wr (Hb.out.keep hkw) (by omega)).mono ?_
      rintro e w4 ⟨v4, rfl, hmk4, hb4, _⟩
      obtain ⟨A5, cap5, rfl, hz1, hz2, hz3⟩ := hmk4
      rw [Hkl.out] at hz1 hz3
      rw [Hkl.out]
      have Hb4 := Lib.hid (Hbw.out.trans (hb4.mono Hbw.out.size))
      have Hz3 := Lib.hid hz3
      have Hr4 := Lib.hid (Hr3.out.keep (Keeps.of_below hb4))
      clear hb4 hz3
      obtain ⟨b5, o5, e5, _⟩ := Hz3.out.2 (by omega)
      subst e5
      go_wp2_with fail
      have hkw4 := Keeps.of_below Hb4.out
      refine (MacSum_any _ n cap5 key A2 i c2 ls w4 (Hz3.out.front Hkl.out) (by omega) (by omega) hz2 (Hl.out.keep hkw4) hn2 (by rw [Hall.out]; have := Hm.out; omega) (Ht.out.keep hkw4)).mono ?_
      rintro e w5 ⟨rfl, hb5⟩
      rw [Hall.out]
      have Hb5 := Lib.hid (Hb4.out.trans (hb5.mono Hb4.out.size))
      have Hk5 := Lib.hid (Keeps.of_below hb5)
      clear hb5 hkw4 hkw
      have Hm32 : Hid ((hmacF key all).length = 32) := by show _ = _; exact shaB_length _ _ _
      go_wp2_with fail
      refine (RefMac_any A n c key A3 m c3 all w5 (Hb.out.keep (Keeps.of_below Hb5.out)) (by omega) (Hr4.out.keep Hk5.out) (by omega)).mono ?_
      rintro e w6 ⟨rfl, hb6⟩
      have Hb6 := Lib.hid (Hb5.out.trans (hb6.mono Hb5.out.size))
      have Hk6 := Lib.hid (Hk5.out.trans (Keeps.of_below hb6))
      clear hb6
      generalize hmacF key all = mac at *
      have heq : ∀ W, (binOp .eql 44 (.agg (bcells mac).toArray) (.agg (bcells mac).toArray)).run Tryd.prog W = .ok (.bool true) W := fun W => by
        have h := run_eql_bytes (P := Tryd.prog) W 44 5 32 Tryd.underlying44 Tryd.underlying5 (fun _ => by kernel_rfl) mac mac Hm32.out Hm32.out
        rw [beq_self_eq_true] at h
        exact h
      have sl := str_list (idL key)
      go_wp2_with (first
        | (go_at_call 30; refine (Kept_any b5 o5 A n cap5 c key w6 (Hz3.out.keep Hk6.out) (Hb.out.keep (Keeps.of_below Hb6.out)) hz1 hz2 (by omega)).mono ?_; rintro e w7 ⟨rfl, q, rfl⟩; have Hb7 := Lib.hid (below_drewN Hb6.out q))
        | (go_at_call 49; refine (ID_any A n c key _ (Hb.out.keep (Keeps.of_below Hb7.out)) (by omega) Hnc.out.1 Hnc.out.2 (Ht.out.keep (Keeps.of_below Hb7.out))).mono ?_; rintro e w8 ⟨rfl, hb8⟩; have Hb8 := Lib.hid (Hb7.out.trans (hb8.mono Hb7.out.size)); clear hb8)
        | (go_at_call 50; refine (RefID_any A n c key _ (Hb.out.keep (Keeps.of_below Hb8.out)) (by omega)).mono ?_; rintro e w9 ⟨rfl, hb9⟩; have Hb9 := Lib.hid (Hb8.out.trans (hb9.mono Hb8.out.size)); clear hb9)
        | fail)
      go_ret
      exact ⟨rfl, Hb9.out⟩
end Go.Proofs.YtbpmigcbfbdnjaaDoor
