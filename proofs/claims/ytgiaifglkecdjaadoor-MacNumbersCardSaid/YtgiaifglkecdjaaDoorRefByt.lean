/- The reference's Bytes (layer 2). -/
import Derived.Test.YtgiaifglkecdjaaDoorMacByt
import Derived.Test.YtgiaifglkecdjaaDoorSetB
namespace Go.Proofs.YtgiaifglkecdjaaDoor
open Go.RowKit

/-- What the reference's Bytes answers. -/
def RefBytesPost (w : World) (l : List UInt8) (e : Ending) (w' : World) : Prop :=
  (l.all isHex = true → ∃ v', e = .returned (.tuple #[v', .bool (decide (l.length = 32))]) ∧ OB w' w.heap.size v' (refAt l l.length)) ∧ (l.all isHex = false → e = .returned (.tuple #[.slice none 0 0, .bool false])) ∧ Below w.heap.size w w'

theorem refAt_zero (l : List UInt8) : refAt l 0 = [] := by simp [refAt]

set_option maxHeartbeats 4000000 in
set_option maxRecDepth 100000 in
theorem RefBytes_any (s : ByteArray) (w : World) (hs : s.size ≤ 1000) :
    Calls Tryd.prog 15 #[.string s] w (RefBytesPost w s.data.toList) := by
  have Hsl := Lib.hid (show s.data.toList.length = s.size by simp)
  have hlit := Lib.hid (OB.lit w w.heap.size (Nat.le_refl _) [] 0 rfl (by decide))
  go_enter Tryd.func15, Tryd.ntmps15
  go_wp2_with fail
  go_loopg [4, 5] s.size (fun k s4 s5 wr => ∃ i : Nat, s5 = .int .i64 (i : Int) ∧ i + k = s.size ∧ (∀ j, j < i → isHex (s.data.toList.getD j 0) = true) ∧ OB wr w.heap.size s4 (refAt s.data.toList i) ∧ Below w.heap.size w wr)
  case atStart => exact ⟨0, rfl, by omega, fun j hj => absurd hj (by omega), by rw [refAt_zero]; exact hlit.out, (Below.refl _ w).alloc (Nat.le_refl _) _⟩
  case round =>
    obtain ⟨i, rfl, hik, hall, hown, hbel⟩ := hrel
    have Hall := Lib.hid hall
    have Hbel := Lib.hid hbel
    obtain ⟨A', c', rfl, hc1, hc2, hrb⟩ := hown.form
    have Hown := Lib.hid hown
    have Hrb := Lib.hid hrb
    have HRl := Lib.hid (refAt_length s.data.toList i)
    rw [HRl.out] at hc1
    have hlenv : Hid (Value.slice A' (refAt s.data.toList i).length c' = Value.slice A' ((i + 1) / 2) c') := Lib.hid (by rw [HRl.out])
    rw [hlenv.out] at Hown ⊢
    clear hall hown hbel hrb hlenv
    by_cases hlt : i < s.size
    · have HG := Lib.hid (getD_data s i hlt)
      have hsi : (i : Int) < (s.size : Int) := by omega
      have hi0 : (0 : Int) ≤ (i : Int) := by omega
      have Hx := Lib.hid (hv_facts s[i])
      have hc256 := s[i].toNat_lt
      have HM := Lib.hid (show s[i] ∈ s.data.toList by rw [← HG.out, List.getD_eq_getElem?_getD, List.getElem?_eq_getElem (by rw [Hsl.out]; exact hlt)]; exact List.getElem_mem _)
      have HE := Lib.hid (fun h => refAt_even s.data.toList i h)
      have HO := Lib.hid (fun h => refAt_odd s.data.toList i h)
      rw [HG.out] at HE HO
      have Hnext : Hid (isHex s[i] = true → ∀ j, j < i + 1 → isHex (s.data.toList.getD j 0) = true) := fun h j hj => by
        rcases Nat.lt_or_ge j i with h' | h'
        · exact Hall.out j h'
        · obtain rfl : j = i := by omega
          rw [HG.out]
          exact h
      by_cases hex : 48 ≤ s[i].toNat ∧ s[i].toNat ≤ 57
      · obtain ⟨x1, x2⟩ := hex
        have q1 : decide (48 ≤ (s[i].toNat : Int)) = true := decide_eq_true (by omega)
        have q2 : decide ((s[i].toNat : Int) ≤ 57) = true := decide_eq_true (by omega)
        have hh : isHex s[i] = true := Hx.out.2.2.2.1.2 (by omega)
        have HN := Lib.hid (Hnext.out hh)
        have hnv : (s[i].toNat : Int) - 48 = ((hn s[i]).toNat : Int) := by rw [← hv_hex hh, (Hx.out.2.2.2.2.1 ⟨by omega, by omega⟩)]
        have hn16 := Hx.out.2.1
        generalize hn s[i] = nn at *
        have HNv := Lib.hid hnv
        clear hh hnv
        rcases Nat.mod_two_eq_zero_or_one i with hp | hp
        · have p1 : ((i : Int) % 2 == 0) = true := by rw [beq_iff_eq]; omega
          have p2 : ((i : Int) % 2 = 0) = True := eq_true (by omega)
          have HX := Lib.hid (HE.out hp)
          have HC : Hid (#[Value.int .u8 (16 * ((s[i].toNat : Int) - 48))].toList = bcells [16 * nn]) := Lib.hid (by
            rw [show (16 * ((s[i].toNat : Int) - 48) : Int) = ((16 * nn : UInt8).toNat : Int) by rw [UInt8.toNat_mul]; show _ = ((16 * nn.toNat % 256 : Nat) : Int); have := HNv.out; omega]
            rfl)
          clear hp
          go_wp2_with (at_builtin; refine wpList_append_b rfl (.tmp 40) (.tmp 44) 22 rfl (Hown.out.alloc _) rfl (Src.lit wr _ [16 * nn] HC.out 1 1 rfl) rfl ?_ ?_ ?_; rotate_right; intro v2 w2 hown2 hgr2 hat2; have Hown2 := Lib.hid hown2; have Hb2 := Lib.hid (below_append (B := w.heap.size) (Hbel.out.alloc Hbel.out.size _) hgr2 (Hown.out.alloc _) (Nat.le_refl _) (by have := Hbel.out.size; simp; omega)); clear hown2 hgr2 hat2)
          case refine_1 => rw [HRl.out]; first | omega | (simp; omega)
          case refine_2 => have := Hbel.out.size; omega
          go_roundg (gk - 1)
          case measure => omega
          case rel => exact ⟨i + 1, by go_num, by omega, HN.out, by rw [HX.out]; exact Hown2.out, Hb2.out⟩
        · have p1 : ((i : Int) % 2 == 0) = false := by rw [beq_eq_false_iff_ne]; omega
          have p2 : ((i : Int) % 2 = 0) = False := eq_false (by omega)
          have HX := Lib.hid (HO.out hp)
          obtain ⟨gb, ob, rfl, hcb⟩ := Hrb.out.2 (by rw [HRl.out]; omega)
          have hj : i / 2 < (i + 1) / 2 := by omega
          have c0 := hcb (i / 2) (by rw [HRl.out]; exact hj)
          obtain ⟨f0, hset⟩ := OB.setB ((refAt s.data.toList i).getD (i / 2) 0 + nn) Hown.out HRl.out hj
          have Hset := Lib.hid hset
          have hgb := Lib.hid ((OB.lt Hown.out gb rfl).1)
          generalize (refAt s.data.toList i).getD (i / 2) 0 = y at *
          have hy := y.toNat_lt
          have HC : Hid (((y.toNat : Int) + ((s[i].toNat : Int) - 48)) % 256 = ((y + nn : UInt8).toNat : Int)) := Lib.hid (by rw [UInt8.toNat_add]; show _ = (((y.toNat + nn.toNat) % 256 : Nat) : Int); have := HNv.out; omega)
          have i1 : (0 : Int) ≤ (i : Int) / 2 := by omega
          have i2 : (i : Int) / 2 < (((i + 1) / 2 : Nat) : Int) := by omega
          clear hcb hset hp
          go_wp2
          go_roundg (gk - 1)
          case measure => omega
          case rel => exact ⟨i + 1, by go_num, by omega, HN.out, by rw [HX.out, HC.out]; exact Hset.out, Hbel.out.setCell hgb.out _⟩
      by_cases hex2 : 97 ≤ s[i].toNat ∧ s[i].toNat ≤ 102
      · obtain ⟨x1, x2⟩ := hex2
        clear hex
        have q1 : decide (48 ≤ (s[i].toNat : Int)) = true := decide_eq_true (by omega)
        have q2 : decide ((s[i].toNat : Int) ≤ 57) = false := decide_eq_false (by omega)
        have q3 : decide (97 ≤ (s[i].toNat : Int)) = true := decide_eq_true (by omega)
        have q4 : decide ((s[i].toNat : Int) ≤ 102) = true := decide_eq_true (by omega)
        have hh : isHex s[i] = true := Hx.out.2.2.2.1.2 (by omega)
        have HN := Lib.hid (Hnext.out hh)
        have hnv : (s[i].toNat : Int) - 87 = ((hn s[i]).toNat : Int) := by rw [← hv_hex hh, (Hx.out.2.2.2.2.2 ⟨by omega, by omega⟩)]
        have hn16 := Hx.out.2.1
        generalize hn s[i] = nn at *
        have HNv := Lib.hid hnv
        clear hh hnv
        rcases Nat.mod_two_eq_zero_or_one i with hp | hp
        · have p1 : ((i : Int) % 2 == 0) = true := by rw [beq_iff_eq]; omega
          have p2 : ((i : Int) % 2 = 0) = True := eq_true (by omega)
          have HX := Lib.hid (HE.out hp)
          have HC : Hid (#[Value.int .u8 (16 * ((s[i].toNat : Int) - 97 + 10))].toList = bcells [16 * nn]) := Lib.hid (by
            rw [show (16 * ((s[i].toNat : Int) - 97 + 10) : Int) = ((16 * nn : UInt8).toNat : Int) by rw [UInt8.toNat_mul]; show _ = ((16 * nn.toNat % 256 : Nat) : Int); have := HNv.out; omega]
            rfl)
          clear hp
          go_wp2_with (at_builtin; refine wpList_append_b rfl (.tmp 40) (.tmp 44) 22 rfl (Hown.out.alloc _) rfl (Src.lit wr _ [16 * nn] HC.out 1 1 rfl) rfl ?_ ?_ ?_; rotate_right; intro v2 w2 hown2 hgr2 hat2; have Hown2 := Lib.hid hown2; have Hb2 := Lib.hid (below_append (B := w.heap.size) (Hbel.out.alloc Hbel.out.size _) hgr2 (Hown.out.alloc _) (Nat.le_refl _) (by have := Hbel.out.size; simp; omega)); clear hown2 hgr2 hat2)
          case refine_1 => rw [HRl.out]; first | omega | (simp; omega)
          case refine_2 => have := Hbel.out.size; omega
          go_roundg (gk - 1)
          case measure => omega
          case rel => exact ⟨i + 1, by go_num, by omega, HN.out, by rw [HX.out]; exact Hown2.out, Hb2.out⟩
        · have p1 : ((i : Int) % 2 == 0) = false := by rw [beq_eq_false_iff_ne]; omega
          have p2 : ((i : Int) % 2 = 0) = False := eq_false (by omega)
          have HX := Lib.hid (HO.out hp)
          obtain ⟨gb, ob, rfl, hcb⟩ := Hrb.out.2 (by rw [HRl.out]; omega)
          have hj : i / 2 < (i + 1) / 2 := by omega
          have c0 := hcb (i / 2) (by rw [HRl.out]; exact hj)
          obtain ⟨f0, hset⟩ := OB.setB ((refAt s.data.toList i).getD (i / 2) 0 + nn) Hown.out HRl.out hj
          have Hset := Lib.hid hset
          have hgb := Lib.hid ((OB.lt Hown.out gb rfl).1)
          generalize (refAt s.data.toList i).getD (i / 2) 0 = y at *
          have hy := y.toNat_lt
          have HC : Hid (((y.toNat : Int) + ((s[i].toNat : Int) - 97 + 10)) % 256 = ((y + nn : UInt8).toNat : Int)) := Lib.hid (by rw [UInt8.toNat_add]; show _ = (((y.toNat + nn.toNat) % 256 : Nat) : Int); have := HNv.out; omega)
          have i1 : (0 : Int) ≤ (i : Int) / 2 := by omega
          have i2 : (i : Int) / 2 < (((i + 1) / 2 : Nat) : Int) := by omega
          clear hcb hset hp
          go_wp2
          go_roundg (gk - 1)
          case measure => omega
          case rel => exact ⟨i + 1, by go_num, by omega, HN.out, by rw [HX.out, HC.out]; exact Hset.out, Hbel.out.setCell hgb.out _⟩
      by_cases y1 : 48 ≤ s[i].toNat
      · have q1 : decide (48 ≤ (s[i].toNat : Int)) = true := decide_eq_true (by omega)
        have q2 : decide ((s[i].toNat : Int) ≤ 57) = false := decide_eq_false (by omega)
        by_cases y2 : 97 ≤ s[i].toNat
        · have q3 : decide (97 ≤ (s[i].toNat : Int)) = true := decide_eq_true (by omega)
          have q4 : decide ((s[i].toNat : Int) ≤ 102) = false := decide_eq_false (by omega)
          have hh : isHex s[i] = false := by
            cases h : isHex s[i] with
            | false => rfl
            | true => have := Hx.out.2.2.2.1.1 h; omega
          have HH := Lib.hid hh
          clear hh
          go_wp2
          go_ret2
          exact ⟨fun h => (by have := List.all_eq_true.1 h _ HM.out; rw [HH.out] at this; cases this), fun _ => rfl, Hbel.out⟩
        · have q3 : decide (97 ≤ (s[i].toNat : Int)) = false := decide_eq_false (by omega)
          have hh : isHex s[i] = false := by
            cases h : isHex s[i] with
            | false => rfl
            | true => have := Hx.out.2.2.2.1.1 h; omega
          have HH := Lib.hid hh
          clear hh
          go_wp2
          go_ret2
          exact ⟨fun h => (by have := List.all_eq_true.1 h _ HM.out; rw [HH.out] at this; cases this), fun _ => rfl, Hbel.out⟩
      · have q1 : decide (48 ≤ (s[i].toNat : Int)) = false := decide_eq_false (by omega)
        have q3 : decide (97 ≤ (s[i].toNat : Int)) = false := decide_eq_false (by omega)
        have hh : isHex s[i] = false := by
          cases h : isHex s[i] with
          | false => rfl
          | true => have := Hx.out.2.2.2.1.1 h; omega
        have HH := Lib.hid hh
        clear hh
        go_wp2
        go_ret2
        exact ⟨fun h => (by have := List.all_eq_true.1 h _ HM.out; rw [HH.out] at this; cases this), fun _ => rfl, Hbel.out⟩
    · obtain rfl : i = s.size := by omega
      have HA : Hid (s.data.toList.all isHex = true) := Lib.hid (all_of_getD fun j hj => Hall.out j (by have := Hsl.out; omega))
      by_cases h32 : s.size = 32
      · have p1 : ((s.size : Int) == 32) = true := by rw [beq_iff_eq]; omega
        have HD : Hid (decide (s.data.toList.length = 32) = true) := Lib.hid (decide_eq_true (by rw [Hsl.out]; exact h32))
        clear h32
        go_wp2
        go_ret2
        refine ⟨fun _ => ⟨_, by rw [HD.out]; rfl, ?_⟩, fun h => (by rw [HA.out] at h; cases h), Hbel.out⟩
        rw [Hsl.out]
        exact Hown.out
      · have p1 : ((s.size : Int) == 32) = false := by rw [beq_eq_false_iff_ne]; omega
        have HD : Hid (decide (s.data.toList.length = 32) = false) := Lib.hid (decide_eq_false (by rw [Hsl.out]; exact h32))
        clear h32
        go_wp2
        go_ret2
        refine ⟨fun _ => ⟨_, by rw [HD.out]; rfl, ?_⟩, fun h => (by rw [HA.out] at h; cases h), Hbel.out⟩
        rw [Hsl.out]
        exact Hown.out
end Go.Proofs.YtgiaifglkecdjaaDoor
