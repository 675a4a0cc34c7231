/- mac.Bytes: the bytes of a key's number. -/
import Derived.Test.YtgiaifglkecdjaaDoorHexP
import Derived.Test.YtgiaifglkecdjaaDoorPad
namespace Go.Proofs.YtgiaifglkecdjaaDoor
open Go.RowKit

def digS : ByteArray := ⟨#[48, 49, 50, 51, 52, 53, 54, 55, 56, 57, 97, 98, 99, 100, 101, 102]⟩
def zeros16 : List UInt8 := List.replicate 16 0
theorem made16 : madeCells (Value.int .u8 0).cells 16 = (bcells zeros16).toArray := by kernel_rfl

theorem MacBytes_len (s : ByteArray) (w : World) (hs : s.size ≠ 32) (v : Value) (hv : w.cell? ⟨0, 0, none⟩ = some v) :
    Calls Tryd.prog 14 #[.string s] w fun e w' => e = .returned (.tuple #[.slice none 0 0, v]) ∧ Below w.heap.size w w' := by
  have q : ((s.size : Int) == 32) = false := beq_eq_false_iff_ne.2 (by omega)
  have q2 : ((s.size : Int) != 32) = true := bne_iff_ne.2 (by omega)
  clear hs
  go_enter Tryd.func14, Tryd.ntmps14
  go_wp2
  go_quiet (fail)
  go_wp2
  go_ret2
  exact ⟨rfl, below_drewN (Below.refl _ _) _⟩

theorem or16 (y n : UInt8) (hy : y.toNat < 16) (hn : n.toNat < 16) : bits .or .u8 ((y.toNat : Int) * 16) (n.toNat : Int) = ((16 * y + n : UInt8).toNat : Int) := by
  have h1 : (y.toNat : Int) * 16 = ((y.toNat * 16 : Nat) : Int) := by omega
  rw [h1, u8_or_nat _ _ (by omega) n.toNat_lt]
  have h2 : y.toNat * 16 ||| n.toNat = y.toNat * 16 + n.toNat := by
    rw [show y.toNat * 16 = y.toNat <<< 4 by rw [Nat.shiftLeft_eq], Nat.shiftLeft_add_eq_or_of_lt (by omega : n.toNat < 2 ^ 4)]
  rw [h2, UInt8.toNat_add, UInt8.toNat_mul]
  show ((_ : Nat) : Int) = _
  congr 1
  show _ = (16 * y.toNat % 256 + n.toNat) % 256
  omega

/-- What Bytes answers of 32 figures. -/
def BytesPost (w : World) (l : List UInt8) (v : Value) (e : Ending) (w' : World) : Prop :=
  (l.all isHex = true → ∃ v', e = .returned (.tuple #[v', .nilIface]) ∧ OB w' w.heap.size v' (bytesOf l)) ∧ (l.all isHex = false → e = .returned (.tuple #[.slice none 0 0, v])) ∧ Below w.heap.size w w'

set_option maxHeartbeats 4000000 in
set_option maxRecDepth 100000 in
theorem MacBytes_32 (s : ByteArray) (w : World) (hs : s.size = 32) (v : Value) (hv : w.cell? ⟨0, 0, none⟩ = some v) :
    Calls Tryd.prog 14 #[.string s] w (BytesPost w s.data.toList v) := by
  have Hsl := Lib.hid (show s.data.toList.length = 32 by simpa using hs)
  have Hv := Lib.hid hv
  obtain ⟨i0, hi, hz0, hz1, hz2⟩ := info_parts info_u8
  have hmk : ∀ W, (Instr.makeSlice 22 (.int .i64 16) (.int .i64 16)).run Tryd.prog W = .ok (.slice (some ⟨W.heap.size, 0, none⟩) 16 16) (W.alloc (.cells (bcells zeros16).toArray 5)) := fun W => by
    have h := run_make (P := Tryd.prog) W 22 5 i0 _ Tryd.underlying22 hi hz0 .i64 .i64 16 16 (by omega) (by omega) (by rw [hz2]; omega) (by omega)
    rw [hz1, Nat.mul_one, show (16 : Int).toNat = 16 from rfl, made16] at h
    exact h
  clear hi hz0 hz1 hz2 hv
  have hsi : (s.size : Int) = 32 := by omega
  have q : ((s.size : Int) != 32) = false := by rw [hsi]; rfl
  have q2 : ((s.size : Int) == 32) = true := by rw [hsi]; rfl
  have Hs := Lib.hid hs
  clear hs hsi
  go_enter Tryd.func14, Tryd.ntmps14
  go_wp2_with fail
  obtain ⟨gp, hgp⟩ : ∃ gp, gp = w.heap.size := ⟨_, rfl⟩
  have Hgp := Lib.hid hgp
  have HW := Lib.hid ((Below.refl w.heap.size w).alloc (Nat.le_refl _) (.cells (bcells zeros16).toArray 5))
  have Hr := Lib.hid (heap_alloc_new w (.cells (bcells zeros16).toArray 5))
  generalize hW1 : w.alloc (.cells (bcells zeros16).toArray 5) = w1 at *
  rw [← hgp] at Hr ⊢
  clear hW1 hgp q q2
  go_loopg [14] 32 (fun k s14 wr => ∃ i : Nat, s14 = .int .i64 (i : Int) ∧ i + k = 32 ∧ (∀ j, j < i → isHex (s.data.toList.getD j 0) = true) ∧ wr.heap[gp]? = some (.cells (bcells (outAt 16 s.data.toList i)).toArray 5 (0, 0)) ∧ Below w.heap.size w wr)
  case atStart => exact ⟨0, rfl, rfl, fun j hj => absurd hj (by omega), by rw [outAt_zero]; exact Hr.out, HW.out⟩
  case round =>
    obtain ⟨i, rfl, hik, hall, hrow, hbel⟩ := hrel
    have Hall := Lib.hid hall
    have Hrow := Lib.hid hrow
    have Hbel := Lib.hid hbel
    have Hv2 := Lib.hid (Keeps.of_below hbel _ _ Hv.out)
    clear hall hrow hbel
    by_cases hlt : i < 32
    · have hsz : i < s.size := by rw [Hs.out]; exact hlt
      have HG := Lib.hid (getD_data s i hsz)
      have hsi : (i : Int) < (s.size : Int) := by omega
      have hi0 : (0 : Int) ≤ (i : Int) := by omega
      have Hx := hv_facts s[i]
      cases hh : isHex s[i] with
      | false =>
        have HV : Hid (Lib.indexByte digS.data.toList s[i] = -1) := Lib.hid (hv_not hh)
        have HH := Lib.hid hh
        have cE := Hv2.out
        clear hh Hx
        go_wp2_with (go_at_call 71; refine (Tryd.strings_IndexByte digS _ _).mono ?_; rw [show ((s[i].toNat : Int)).toNat.toUInt8 = s[i] by simp, HV.out]; rintro e w' ⟨rfl, rfl⟩)
        go_quiet (fail)
        go_wp2
        go_ret2
        refine ⟨fun h => ?_, fun _ => rfl, below_drewN Hbel.out _⟩
        have := List.all_eq_true.1 h s[i] (by rw [← HG.out, List.getD_eq_getElem?_getD, List.getElem?_eq_getElem (by rw [Hsl.out]; exact hlt)]; exact List.getElem_mem _)
        rw [HH.out] at this
        cases this
      | true =>
        have HV : Hid (Lib.indexByte digS.data.toList s[i] = ((hn s[i]).toNat : Int)) := Lib.hid (hv_hex hh)
        have HH := Lib.hid hh
        have hn16 := Hx.2.1
        have HS := Lib.hid (outAt_step 16 s.data.toList i (by omega))
        rw [HG.out] at HS
        have HE : Hid ((if i % 2 = 0 then hn s[i] else 16 * (outAt 16 s.data.toList i).getD (i / 2) 0 + hn s[i]) = 16 * (outAt 16 s.data.toList i).getD (i / 2) 0 + hn s[i] ∧ ((outAt 16 s.data.toList i).getD (i / 2) 0).toNat < 16) := Lib.hid (by
          have hg : (outAt 16 s.data.toList i).getD (i / 2) 0 = if i % 2 = 0 then 0 else hn (s.data.toList.getD (2 * (i / 2)) 0) := by
            rw [List.getD_eq_getElem?_getD, List.getElem?_eq_getElem (by rw [outAt_length]; omega)]
            simp only [outAt, List.getElem_map, List.getElem_range, Option.getD_some]
            rw [if_neg (by omega)]
            rcases Nat.mod_two_eq_zero_or_one i with h | h
            · rw [if_neg (by omega), if_pos h]
            · rw [if_pos (by omega), if_neg (by omega)]
          rw [hg]
          split
          · exact ⟨by simp, by decide⟩
          · exact ⟨rfl, (hv_facts _).2.1⟩)
        rw [HE.out.1] at HS
        have c0 : wr.cell? ⟨gp, i / 2, none⟩ = some (.int .u8 (((outAt 16 s.data.toList i).getD (i / 2) 0).toNat : Int)) := by
          rw [cell_of_row _ _ _ _ _ _ Hrow.out, List.getElem?_toArray]; exact bcells_get (by rw [outAt_length]; omega)
        have f0 : wr.frozen? ⟨gp, i / 2, none⟩ = false := frozen_of_row _ _ _ _ _ Hrow.out
        have hy := HE.out.2
        generalize (outAt 16 s.data.toList i).getD (i / 2) 0 = y at *
        generalize hn s[i] = nn at *
        have ho := or16 y nn hy hn16
        have hn0 : decide ((nn.toNat : Int) < 0) = false := decide_eq_false (by omega)
        have HC : Hid ((16 * (y.toNat : Int) + (nn.toNat : Int)) % 256 = ((16 * y + nn : UInt8).toNat : Int)) := Lib.hid (by
          rw [UInt8.toNat_add, UInt8.toNat_mul]
          show _ = (((16 * y.toNat % 256 + nn.toNat) % 256 : Nat) : Int)
          omega)
        clear hh Hx
        go_wp2_with (go_at_call 71; refine (Tryd.strings_IndexByte digS _ _).mono ?_; rw [show ((s[i].toNat : Int)).toNat.toUInt8 = s[i] by simp, HV.out]; rintro e w' ⟨rfl, rfl⟩)
        go_roundg (gk - 1)
        case measure => omega
        case rel =>
          refine ⟨i + 1, by go_num, by omega, fun j hj => ?_, ?_, Hbel.out.setCell (by rw [Hgp.out]; exact Nat.le_refl _) _⟩
          · rcases Nat.lt_or_ge j i with h | h
            · exact Hall.out j h
            · obtain rfl : j = i := by omega
              rw [HG.out]
              exact HH.out
          · refine (heap_setCell_same _ _ _ _ _ _ Hrow.out).trans ?_
            rw [HS.out, HC.out, List.setIfInBounds_toArray]
            simp [bcells, List.map_set]
    · obtain rfl : i = 32 := by omega
      have HO : Hid (outAt 16 s.data.toList 32 = bytesOf s.data.toList) := outAt_done 16 s.data.toList Hsl.out
      have HA : Hid (s.data.toList.all isHex = true) := Lib.hid (all_of_getD fun j hj => Hall.out j (by have := Hsl.out; omega))
      rw [HO.out] at Hrow
      have hnlt : decide ((32 : Int) < (s.size : Int)) = false := decide_eq_false (by have := Hs.out; omega)
      have HL : Hid ((bytesOf s.data.toList).length = 16) := bytesOf_length 16 _ Hsl.out
      go_wp2
      go_ret2
      refine ⟨fun _ => ⟨_, rfl, ?_⟩, fun h => ?_, Hbel.out⟩
      · have := OwnS.made (w := wr) (base := w.heap.size) (n := gp) (e := 5) (size := 1) (by rw [Hgp.out]; exact Nat.le_refl _) (g := gp) (cap := 16) (len := 16) Hrow.out rfl (Nat.le_refl _) (by unfold maxLen; omega) (by simp [bcells_length, HL.out])
        unfold OB
        rw [HL.out]
        rw [List.take_of_length_le (by simp [bcells_length, HL.out])] at this
        exact this
      · rw [HA.out] at h
        cases h
end Go.Proofs.YtgiaifglkecdjaaDoor
