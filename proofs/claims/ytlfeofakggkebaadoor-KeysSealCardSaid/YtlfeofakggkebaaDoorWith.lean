/- The reference's with: a key laid out over a block. -/
import Derived.Test.YtlfeofakggkebaaDoorPad
import Derived.Test.YtlfeofakggkebaaDoorRefSum
namespace Go.Proofs.YtlfeofakggkebaaDoor
open Go.RowKit

set_option maxHeartbeats 4000000 in
set_option maxRecDepth 100000 in
theorem with_short (A : Option Addr) (n c B : Nat) (key : List UInt8) (x : UInt8) (w w0 : World) (hb : RB w A n key) (hn : n ≤ 64) (hW : Below B w0 w) (hWb : B ≤ w.heap.size) :
    Calls Tryd.prog 97 #[.slice A n c, .int .u8 (x.toNat : Int)] w fun e w' => ∃ v, e = .returned v ∧ OB w' B v (padL key x) ∧ Below B w0 w' := by
  have Hrb := Lib.hid hb
  have Hn := Lib.hid hb.1
  have HKB : Hid (kb key = key) := by show _ = _; unfold kb; rw [if_neg (by have := hb.1; omega)]
  have HW := Lib.hid hW
  have HWb := Lib.hid hWb
  clear hb hW hWb
  have hlt : decide (64 < (n : Int)) = false := decide_eq_false (by omega)
  go_enter Tryd.func97, Tryd.ntmps97
  go_wp2_with fail
  go_loopg [6, 7] 64 (fun k s6 s7 wr => ∃ (v : Value) (i : Nat), s6 = v ∧ s7 = .int .i64 (i : Int) ∧ i + k = 64 ∧ OB wr w.heap.size v (((base64 key).map (· ^^^ x)).take i) ∧ Below w.heap.size w wr)
  case atStart => exact ⟨_, 0, rfl, rfl, rfl, by rw [List.take_zero]; exact OB.lit w w.heap.size (Nat.le_refl _) [] 0 rfl (by decide), (Below.refl _ w).alloc (Nat.le_refl _) _⟩
  case round =>
    obtain ⟨v, i, rfl, rfl, hik, hown, hbel⟩ := hrel
    have Hown := Lib.hid hown
    have Hbel := Lib.hid hbel
    clear hown hbel
    by_cases hi : i < 64
    · have hl64 : ((base64 key).map (· ^^^ x)).length = 64 := by rw [List.length_map, base64_length _ (by have := Hn.out; omega)]
      have HT := Lib.hid (show ((base64 key).map (· ^^^ x)).take (i + 1) = ((base64 key).map (· ^^^ x)).take i ++ [(base64 key).getD i 0 ^^^ x] by
        rw [List.take_succ_eq_append_getElem (by omega), List.getElem_map, List.getD_eq_getElem?_getD, List.getElem?_eq_getElem (by rw [List.length_map] at hl64; omega)]
        rfl)
      have HLn := Lib.hid (show (((base64 key).map (· ^^^ x)).take i).length ≤ 64 by rw [List.length_take]; omega)
      clear hl64
      have hbase : w.heap.size ≤ wr.heap.size := Hbel.out.size
      have i0 : (0 : Int) ≤ (i : Int) := by omega
      by_cases hin : i < n
      · have i1 : (i : Int) < (n : Int) := by omega
        have Hy := Lib.hid (show (base64 key).getD i 0 = (key).getD i 0 by
          unfold base64
          simp only [List.getD_eq_getElem?_getD]
          rw [List.getElem?_append_left (by have := Hn.out; omega)])
        obtain ⟨b, o, e, hc⟩ := Hrb.out.2 (by omega)
        subst e
        have c0 := Keeps.of_below Hbel.out _ _ (hc i hin)
        rw [Hy.out] at HT
        clear hc Hy
        generalize (key).getD i 0 = y at *
        generalize ((base64 key).map (· ^^^ x)).take i = L0 at *
        go_wp2_with (first
          | (at_builtin; refine wpList_append_b rfl (.tmp 28) (.tmp 32) 22 rfl (Hown.out.alloc _) rfl (Src.lit wr _ [y ^^^ x] ?_ 1 1 rfl) rfl ?_ ?_ ?_; rotate_right; intro v2 w2 hown2 hgr2 hat2)
          | fail)
        case refine_1 => rw [b_xor]; rfl
        case refine_2 => have := HLn.out; simp; omega
        case refine_3 => first | omega | (simp; omega)
        go_roundg (gk - 1)
        case measure => omega
        case rel => exact ⟨_, i + 1, rfl, by go_num, by omega, by rw [HT.out]; exact hown2, below_append (Hbel.out.alloc hbase _) hgr2 (Hown.out.alloc _) (Nat.le_refl _) (by first | omega | (simp; omega))⟩
      · have i1 : ¬ (i : Int) < (n : Int) := by omega
        have Hy := Lib.hid (show (base64 key).getD i 0 = 0 by
          unfold base64
          simp only [List.getD_eq_getElem?_getD]
          rw [List.getElem?_append_right (by have := Hn.out; omega)]
          simp [List.getElem?_replicate]
          split <;> rfl)
        rw [Hy.out, show (0 : UInt8) ^^^ x = x by simp] at HT
        clear Hy
        generalize ((base64 key).map (· ^^^ x)).take i = L0 at *
        go_wp2_with (first
          | (at_builtin; refine wpList_append_b rfl (.tmp 28) (.tmp 32) 22 rfl (Hown.out.alloc _) rfl (Src.lit wr _ [x] ?_ 1 1 rfl) rfl ?_ ?_ ?_; rotate_right; intro v2 w2 hown2 hgr2 hat2)
          | fail)
        case refine_1 => rw [show (0 : Int) = ((0 : UInt8).toNat : Int) by decide, b_xor, show (0 : UInt8) ^^^ x = x by simp]; rfl
        case refine_2 => have := HLn.out; simp; omega
        case refine_3 => first | omega | (simp; omega)
        go_roundg (gk - 1)
        case measure => omega
        case rel => exact ⟨_, i + 1, rfl, by go_num, by omega, by rw [HT.out]; exact hown2, below_append (Hbel.out.alloc hbase _) hgr2 (Hown.out.alloc _) (Nat.le_refl _) (by first | omega | (simp; omega))⟩
    · obtain rfl : i = 64 := by omega
      rw [List.take_of_length_le (by rw [List.length_map, base64_length _ (by have := Hn.out; omega)]; exact Nat.le_refl _)] at Hown
      go_wp2
      go_ret
      exact ⟨_, rfl, by rw [padL, HKB.out]; exact OB.mono Hown.out HWb.out, HW.out.trans (Hbel.out.mono HWb.out)⟩

set_option maxHeartbeats 4000000 in
set_option maxRecDepth 100000 in
theorem with_long (A : Option Addr) (n c B : Nat) (key : List UInt8) (x : UInt8) (w w0 : World) (hb : RB w A n key) (hn : 64 < n) (hn2 : n ≤ 1000000) (hW : Below B w0 w) (hWb : B ≤ w.heap.size) :
    Calls Tryd.prog 97 #[.slice A n c, .int .u8 (x.toNat : Int)] w fun e w' => ∃ v, e = .returned v ∧ OB w' B v (padL key x) ∧ Below B w0 w' := by
  have Hn1 := Lib.hid hb.1
  have Hrb1 := Lib.hid hb
  have HW1 := Lib.hid hW
  have HWb1 := Lib.hid hWb
  clear hb hW hWb
  obtain ⟨dg, hdg⟩ : ∃ dg, dg = shaB kfun htab key := ⟨_, rfl⟩
  have HDg := Lib.hid hdg
  have HKB : Hid (kb key = dg) := by show _ = _; unfold kb; rw [if_pos (by have := Hn1.out; omega), hdg]
  have Hn : Hid (dg.length = 32) := by show _ = _; rw [hdg]; exact shaB_length _ _ _
  obtain ⟨cur, hcur⟩ : ∃ cur, cur = (bcells dg).toArray := ⟨_, rfl⟩
  have HCur := Lib.hid hcur
  have HB1 : Hid (cur.all (·.oneCell') = true) := by
    show _ = true
    rw [hcur, Array.all_eq_true_iff_forall_mem]
    intro y hy
    exact bcells_one _ y (by simpa using hy)
  have Hcs : Hid (cur.size = 32) := by show _ = _; rw [hcur]; simp [bcells, Hn.out]
  clear hcur hdg
  have hlt : decide (64 < (n : Int)) = true := decide_eq_true (by omega)
  go_enter Tryd.func97, Tryd.ntmps97
  go_wp2_with fail
  refine (RefSum_any A n c key w Hrb1.out (by omega)).mono ?_
  rintro e w5 ⟨rfl, hb5⟩
  rw [← HDg.out, ← HCur.out]
  have Hb5' := Lib.hid (HW1.out.trans (hb5.mono HWb1.out))
  have Hs5' := Lib.hid (show B ≤ w5.heap.size by have := hb5.size; have := HWb1.out; omega)
  clear hb5
  go_wp2_with (first
    | (refine wpList_store_row rfl 48 (.tmp 5) (.tmp 13) rfl w5.heap.size cur rfl rfl 48 _ (heap_alloc_new w5 _) (by rw [Hcs.out]; exact info_32) (by rw [Hcs.out]; rfl) HB1.out ?_; obtain ⟨w6, hw6⟩ : ∃ W, W = (w5.alloc (.cells zer32 48)).setRow w5.heap.size cur := ⟨_, rfl⟩; change wpList _ _ _ _ _ ((w5.alloc (.cells zer32 48)).setRow w5.heap.size cur); rw [← hw6]; have Hr6 : Hid (w6.heap[w5.heap.size]? = some (.cells (bcells dg).toArray 48 (0, 0))) := (by show _ = _; rw [hw6, ← HCur.out]; exact setRow_heap _ _ _ _ _ _ (heap_alloc_new w5 _)); have HW : Hid (Below B w0 w6) := (by show Below _ _ _; rw [hw6]; exact below_setRow (Hb5'.out.alloc Hs5'.out _) Hs5'.out cur); have Hrb : Hid (RB w6 (some ⟨w5.heap.size, 0, none⟩) 32 dg) := ⟨Hn.out, fun _ => ⟨_, 0, rfl, fun k hk => (by rw [cell_of_row _ _ _ _ _ _ Hr6.out, Nat.zero_add, List.getElem?_toArray]; exact bcells_get (by rw [Hn.out]; exact hk))⟩⟩; have HWb : Hid (B ≤ w6.heap.size) := (by show B ≤ _; have := (Array.getElem?_eq_some_iff.1 Hr6.out).1; have := Hs5'.out; omega); clear hw6)
    | fail)
  go_loopg [6, 7] 64 (fun k s6 s7 wr => ∃ (v : Value) (i : Nat), s6 = v ∧ s7 = .int .i64 (i : Int) ∧ i + k = 64 ∧ OB wr w6.heap.size v (((base64 dg).map (· ^^^ x)).take i) ∧ Below w6.heap.size w6 wr)
  case atStart => exact ⟨_, 0, rfl, rfl, rfl, by rw [List.take_zero]; exact OB.lit w6 w6.heap.size (Nat.le_refl _) [] 0 rfl (by decide), (Below.refl _ w6).alloc (Nat.le_refl _) _⟩
  case round =>
    obtain ⟨v, i, rfl, rfl, hik, hown, hbel⟩ := hrel
    have Hown := Lib.hid hown
    have Hbel := Lib.hid hbel
    clear hown hbel
    by_cases hi : i < 64
    · have hl64 : ((base64 dg).map (· ^^^ x)).length = 64 := by rw [List.length_map, base64_length _ (by have := Hn.out; omega)]
      have HT := Lib.hid (show ((base64 dg).map (· ^^^ x)).take (i + 1) = ((base64 dg).map (· ^^^ x)).take i ++ [(base64 dg).getD i 0 ^^^ x] by
        rw [List.take_succ_eq_append_getElem (by omega), List.getElem_map, List.getD_eq_getElem?_getD, List.getElem?_eq_getElem (by rw [List.length_map] at hl64; omega)]
        rfl)
      have HLn := Lib.hid (show (((base64 dg).map (· ^^^ x)).take i).length ≤ 64 by rw [List.length_take]; omega)
      clear hl64
      have hbase : w6.heap.size ≤ wr.heap.size := Hbel.out.size
      have i0 : (0 : Int) ≤ (i : Int) := by omega
      by_cases hin : i < 32
      · have i1 : (i : Int) < 32 := by omega
        have Hy := Lib.hid (show (base64 dg).getD i 0 = (dg).getD i 0 by
          unfold base64
          simp only [List.getD_eq_getElem?_getD]
          rw [List.getElem?_append_left (by have := Hn.out; omega)])
        obtain ⟨b, o, e, hc⟩ := Hrb.out.2 (by omega)
        injection e with e
        injection e with e1 e2
        subst e1; subst e2
        have c0 := Keeps.of_below Hbel.out _ _ (hc i hin)
        rw [Nat.zero_add] at c0
        rw [Hy.out] at HT
        clear hc Hy
        generalize (dg).getD i 0 = y at *
        generalize ((base64 dg).map (· ^^^ x)).take i = L0 at *
        go_wp2_with (first
          | (at_builtin; refine wpList_append_b rfl (.tmp 28) (.tmp 32) 22 rfl (Hown.out.alloc _) rfl (Src.lit wr _ [y ^^^ x] ?_ 1 1 rfl) rfl ?_ ?_ ?_; rotate_right; intro v2 w2 hown2 hgr2 hat2)
          | fail)
        case refine_1 => rw [b_xor]; rfl
        case refine_2 => have := HLn.out; simp; omega
        case refine_3 => first | omega | (simp; omega)
        go_roundg (gk - 1)
        case measure => omega
        case rel => exact ⟨_, i + 1, rfl, by go_num, by omega, by rw [HT.out]; exact hown2, below_append (Hbel.out.alloc hbase _) hgr2 (Hown.out.alloc _) (Nat.le_refl _) (by first | omega | (simp; omega))⟩
      · have i1 : ¬ (i : Int) < 32 := by omega
        have Hy := Lib.hid (show (base64 dg).getD i 0 = 0 by
          unfold base64
          simp only [List.getD_eq_getElem?_getD]
          rw [List.getElem?_append_right (by have := Hn.out; omega)]
          simp [List.getElem?_replicate]
          split <;> rfl)
        rw [Hy.out, show (0 : UInt8) ^^^ x = x by simp] at HT
        clear Hy
        generalize ((base64 dg).map (· ^^^ x)).take i = L0 at *
        go_wp2_with (first
          | (at_builtin; refine wpList_append_b rfl (.tmp 28) (.tmp 32) 22 rfl (Hown.out.alloc _) rfl (Src.lit wr _ [x] ?_ 1 1 rfl) rfl ?_ ?_ ?_; rotate_right; intro v2 w2 hown2 hgr2 hat2)
          | fail)
        case refine_1 => rw [show (0 : Int) = ((0 : UInt8).toNat : Int) by decide, b_xor, show (0 : UInt8) ^^^ x = x by simp]; rfl
        case refine_2 => have := HLn.out; simp; omega
        case refine_3 => first | omega | (simp; omega)
        go_roundg (gk - 1)
        case measure => omega
        case rel => exact ⟨_, i + 1, rfl, by go_num, by omega, by rw [HT.out]; exact hown2, below_append (Hbel.out.alloc hbase _) hgr2 (Hown.out.alloc _) (Nat.le_refl _) (by first | omega | (simp; omega))⟩
    · obtain rfl : i = 64 := by omega
      rw [List.take_of_length_le (by rw [List.length_map, base64_length _ (by have := Hn.out; omega)]; exact Nat.le_refl _)] at Hown
      go_wp2
      go_ret
      exact ⟨_, rfl, by rw [padL, HKB.out]; exact OB.mono Hown.out HWb.out, HW.out.trans (Hbel.out.mono HWb.out)⟩

theorem with_any (A : Option Addr) (n c : Nat) (key : List UInt8) (x : UInt8) (w : World) (hb : RB w A n key) (hn : n ≤ 1000000) :
    Calls Tryd.prog 97 #[.slice A n c, .int .u8 (x.toNat : Int)] w fun e w' => ∃ v, e = .returned v ∧ OB w' w.heap.size v (padL key x) ∧ Below w.heap.size w w' := by
  by_cases h : n ≤ 64
  · exact with_short A n c w.heap.size key x w w hb h (Below.refl _ _) (Nat.le_refl _)
  · exact with_long A n c w.heap.size key x w w hb (by omega) hn (Below.refl _ _) (Nat.le_refl _)
end Go.Proofs.YtlfeofakggkebaaDoor
