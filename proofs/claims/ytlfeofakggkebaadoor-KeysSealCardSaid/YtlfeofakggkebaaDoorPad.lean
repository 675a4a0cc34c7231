/- mac.pad: a key laid out over a block. -/
import Derived.Test.YtlfeofakggkebaaDoorShaLaw1
import Derived.Laws.CopyOwn
namespace Go.Proofs.YtlfeofakggkebaaDoor
open Go.RowKit

theorem info_u8s : (Tryd.prog.info? 5).map (·.size) = some 1 := by kernel_rfl
def zer32 : Array Value := Array.replicate 32 (.int .u8 0)
def zeros64 : List UInt8 := List.replicate 64 0
theorem zeros64_length : zeros64.length = 64 := by simp [zeros64]
def kb (key : List UInt8) : List UInt8 := if 64 < key.length then shaB kfun htab key else key
def base64 (k : List UInt8) : List UInt8 := k ++ List.replicate (64 - k.length) 0
def padL (key : List UInt8) (x : UInt8) : List UInt8 := (base64 (kb key)).map (· ^^^ x)
theorem base64_length (k : List UInt8) (h : k.length ≤ 64) : (base64 k).length = 64 := by simp [base64]; omega
theorem kb_length (key : List UInt8) : (kb key).length ≤ 64 := by
  unfold kb
  split
  · rw [shaB_length]; omega
  · omega
theorem padL_length (key : List UInt8) (x : UInt8) : (padL key x).length = 64 := by rw [padL, List.length_map, base64_length _ (kb_length key)]
theorem splice_zeros (k : List UInt8) (_h : k.length ≤ 64) : splice (bcells zeros64) 0 (bcells k) = bcells (base64 k) := by
  show List.take 0 _ ++ (bcells k ++ List.drop (0 + (bcells k).length) (bcells zeros64)) = _
  rw [List.take_zero, List.nil_append, Nat.zero_add, bcells_length, base64, bcells_append]
  congr 1
  show List.drop _ (List.map _ zeros64) = _
  rw [← List.map_drop, zeros64, List.drop_replicate]
  rfl
theorem made64 : madeCells (Value.int .u8 0).cells 64 = (bcells zeros64).toArray := by kernel_rfl

set_option maxHeartbeats 4000000 in
set_option maxRecDepth 100000 in
theorem pad_short (A : Option Addr) (n c B : Nat) (key : List UInt8) (x : UInt8) (w w0 : World) (hb : RB w A n key) (hn : n ≤ 64) (hW : Below B w0 w) (hWb : B ≤ w.heap.size) :
    Calls Tryd.prog 122 #[.slice A n c, .int .u8 (x.toNat : Int)] w fun e w' => ∃ g, e = .returned (.slice (some ⟨g, 0, none⟩) 64 64) ∧ B ≤ g ∧ w'.heap[g]? = some (.cells (bcells (padL key x)).toArray 5 (0, 0)) ∧ Below B w0 w' := by
  have Hrb := Lib.hid hb
  have Hn := Lib.hid hb.1
  have HKB : Hid (kb key = key) := by show _ = _; unfold kb; rw [if_neg (by have := hb.1; omega)]
  have HW := Lib.hid hW
  have HWb := Lib.hid hWb
  clear hb hW hWb
  obtain ⟨i0, hi, hz0, hz1, hz2⟩ := info_parts info_u8
  have hmk : ∀ W, (Instr.makeSlice 22 (.int .i64 64) (.int .i64 64)).run Tryd.prog W = .ok (.slice (some ⟨W.heap.size, 0, none⟩) 64 64) (W.alloc (.cells (bcells zeros64).toArray 5)) := fun W => by
    have h := run_make (P := Tryd.prog) W 22 5 i0 _ Tryd.underlying22 hi hz0 .i64 .i64 64 64 (by omega) (by omega) (by rw [hz2]; omega) (by omega)
    rw [hz1, Nat.mul_one, show (64 : Int).toNat = 64 from rfl, made64] at h
    exact h
  clear hi hz0 hz1 hz2
  have hlt : decide (64 < (n : Int)) = false := decide_eq_false (by omega)
  go_enter Tryd.func122, Tryd.ntmps122
  go_wp2_with (first
    | (refine wpList_copy_splice rfl (.tmp 16) (.tmp 17) 22 22 rfl 5 Tryd.underlying22 info_u8s (some ⟨w.heap.size, 0, none⟩) A 64 64 n c rfl rfl w.heap.size 0 (bcells zeros64) 5 (heap_alloc_new w _) (bcells key) ?_ ?_ ?_ (bcells_one _) B w0 ?_ HWb.out ?_; rotate_right; intro w5 hr5 hb5)
    | fail)
  case refine_1 => rw [bcells_length, Hn.out]; exact (Nat.min_eq_left (by omega)).symm
  case refine_2 =>
    intro h0
    rw [bcells_length] at h0
    obtain ⟨b, o, e, hc⟩ := Hrb.out.2 (by have := Hn.out; omega)
    suffices hkey : ∃ ad : Addr, (A : Option Addr) = some ad ∧ ∀ (j : Nat) (v : Value), (bcells key)[j]? = some v → (w.alloc (.cells (bcells zeros64).toArray 5)).cell? (ad.add j) = some v by
      first | exact ⟨rfl, hkey⟩ | exact hkey | (obtain ⟨ad, e, hk⟩ := hkey; injection e with e; subst e; intro j v hv; have := hk j v hv; rwa [addr_add, Nat.zero_add] at this)
    refine ⟨⟨b, o, none⟩, e, fun j u hu => ?_⟩
    have hj : j < (key).length := by
      rcases Nat.lt_or_ge j (key).length with h' | h'
      · exact h'
      · rw [List.getElem?_eq_none (by rw [bcells_length]; exact h')] at hu; cases hu
    rw [bcells_get hj] at hu
    injection hu with hu
    subst hu
    rw [addr_add]
    exact Keeps.of_below ((Below.refl _ w).alloc (Nat.le_refl _) _) _ _ (hc j (by have := Hn.out; omega))
  case refine_3 => rw [bcells_length, bcells_length, zeros64_length]; have := Hn.out; omega
  case refine_4 => exact HW.out.alloc HWb.out _
  have Hr5 : Hid (w5.heap[w.heap.size]? = some (.cells (bcells (base64 key)).toArray 5 (0, 0))) := by
    show _ = _
    rw [hr5.out, splice_zeros key (by have := Hn.out; omega)]
  have Hb5 := Lib.hid hb5
  have H64 := Lib.hid (base64_length key (by have := Hn.out; omega))
  have HWs := Lib.hid HWb.out
  clear hr5 hb5
  generalize w.heap.size = gp at *
  generalize hB : base64 key = B64l at *
  have HB := Lib.hid hB
  clear hB
  go_wp2_with fail
  go_loopg [21] 64 (fun k s21 wr => ∃ (j : Nat) (l : List UInt8), s21 = .int .i64 (j : Int) ∧ j + k = 64 ∧ l.length = 64 ∧ (∀ i, i < 64 → l.getD i 0 = if i < j then B64l.getD i 0 ^^^ x else B64l.getD i 0) ∧ wr.heap[gp]? = some (.cells (bcells l).toArray 5 (0, 0)) ∧ Below B w0 wr)
  case atStart => exact ⟨0, B64l, rfl, rfl, H64.out, fun i _ => by simp, Hr5.out, Hb5.out⟩
  case round =>
    obtain ⟨j, l, rfl, hjk, hll, hget, hrow, hbel⟩ := hrel
    have Hll := Lib.hid hll
    have Hget := Lib.hid hget
    have Hrow := Lib.hid hrow
    have Hbel := Lib.hid hbel
    clear hll hget hrow hbel
    by_cases hj : j < 64
    · have c0 : wr.cell? ⟨gp, j, none⟩ = some (.int .u8 ((l.getD j 0).toNat : Int)) := by
        rw [cell_of_row _ _ _ _ _ _ Hrow.out, List.getElem?_toArray]; exact bcells_get (by rw [Hll.out]; exact hj)
      have f0 : wr.frozen? ⟨gp, j, none⟩ = false := frozen_of_row _ _ _ _ _ Hrow.out
      have HY := Lib.hid (Hget.out j hj)
      rw [if_neg (by omega)] at HY
      generalize hy : l.getD j 0 = y at *
      have Hy := Lib.hid hy
      clear hy
      have j0 : (0 : Int) ≤ (j : Int) := by omega
      have j1 : (j : Int) < 64 := by omega
      go_wp2
      rw [b_xor]
      go_roundg (gk - 1)
      case measure => omega
      case rel =>
        refine ⟨j + 1, l.set j (y ^^^ x), by go_num, by omega, by rw [List.length_set]; exact Hll.out, fun i hi => ?_, ?_, Hbel.out.setCell HWs.out _⟩
        · rw [List.getD_eq_getElem?_getD, List.getElem?_set, Hll.out]
          by_cases hij : j = i
          · subst hij
            rw [if_pos rfl, if_pos hj, if_pos (by omega), ← HY.out]
            rfl
          · rw [if_neg hij, ← List.getD_eq_getElem?_getD, Hget.out i hi]
            by_cases h1 : i < j
            · rw [if_pos h1, if_pos (by omega)]
            · rw [if_neg h1, if_neg (by omega)]
        · refine (heap_setCell_same _ _ _ _ _ _ Hrow.out).trans ?_
          rw [List.setIfInBounds_toArray]
          simp [bcells, List.map_set]
    · obtain rfl : j = 64 := by omega
      go_wp2
      go_ret
      have hl : l = padL key x := by
        rw [padL, HKB.out, HB.out]
        apply List.ext_getElem (by rw [List.length_map, Hll.out, H64.out])
        intro i h1 h2
        have h := Hget.out i (by rw [Hll.out] at h1; exact h1)
        rw [if_pos (by rw [Hll.out] at h1; exact h1)] at h
        simp only [List.getD_eq_getElem?_getD] at h
        rw [List.getElem?_eq_getElem h1, List.getElem?_eq_getElem (by rw [List.length_map] at h2; exact h2)] at h
        simpa using h
      refine ⟨gp, rfl, HWs.out, ?_, Hbel.out⟩
      rw [← hl]
      exact Hrow.out

set_option maxHeartbeats 4000000 in
set_option maxRecDepth 100000 in
theorem pad_long (A : Option Addr) (n c B : Nat) (key : List UInt8) (x : UInt8) (w w0 : World) (hb : RB w A n key) (hn : 64 < n) (hn2 : n ≤ 1000000) (hnc : n ≤ c) (hc : c ≤ maxLen) (ht : ShaTabs w) (hW : Below B w0 w) (hWb : B ≤ w.heap.size) :
    Calls Tryd.prog 122 #[.slice A n c, .int .u8 (x.toNat : Int)] w fun e w' => ∃ g, e = .returned (.slice (some ⟨g, 0, none⟩) 64 64) ∧ B ≤ g ∧ w'.heap[g]? = some (.cells (bcells (padL key x)).toArray 5 (0, 0)) ∧ Below B w0 w' := by
  have Hrb1 := Lib.hid hb
  have Hn1 := Lib.hid hb.1
  have Ht := Lib.hid ht
  have HW1 := Lib.hid hW
  have HWb1 := Lib.hid hWb
  have Hnc := Lib.hid (And.intro hnc hc)
  clear hb hW hWb ht hnc hc
  obtain ⟨dg, hdg⟩ : ∃ dg, dg = shaB kfun htab key := ⟨_, rfl⟩
  have HDg := Lib.hid hdg
  have HKB : Hid (kb key = dg) := by show _ = _; unfold kb; rw [if_pos (by have := Hn1.out; omega), hdg]
  have Hn : Hid (dg.length = 32) := by show _ = _; rw [hdg]; exact shaB_length _ _ _
  obtain ⟨cur, hcur⟩ : ∃ cur, cur = (bcells dg).toArray := ⟨_, rfl⟩
  have HCur := Lib.hid hcur
  have HB1 : Hid (cur.all (·.oneCell') = true) := by
    show _ = true
    rw [hcur, Array.all_eq_true_iff_forall_mem]
    intro y hy
    exact bcells_one _ y (by simpa using hy)
  have Hcs : Hid (cur.size = 32) := by show _ = _; rw [hcur]; simp [bcells, Hn.out]
  clear hcur hdg
  obtain ⟨i0, hi, hz0, hz1, hz2⟩ := info_parts info_u8
  have hmk : ∀ W, (Instr.makeSlice 22 (.int .i64 64) (.int .i64 64)).run Tryd.prog W = .ok (.slice (some ⟨W.heap.size, 0, none⟩) 64 64) (W.alloc (.cells (bcells zeros64).toArray 5)) := fun W => by
    have h := run_make (P := Tryd.prog) W 22 5 i0 _ Tryd.underlying22 hi hz0 .i64 .i64 64 64 (by omega) (by omega) (by rw [hz2]; omega) (by omega)
    rw [hz1, Nat.mul_one, show (64 : Int).toNat = 64 from rfl, made64] at h
    exact h
  clear hi hz0 hz1 hz2
  have hlt : decide (64 < (n : Int)) = true := decide_eq_true (by omega)
  have hka : Keeps w (w.alloc (.cells #[.slice A n c] 22)) := Keeps.of_below ((Below.refl _ w).alloc (Nat.le_refl _) _)
  have hrbl1 : RBL (w.alloc (.cells #[.slice A n c] 22)) (some ⟨w.heap.size, 0, none⟩) 1 [key] := RBL.lits (vs := [.slice A n c]) (heap_alloc_new w _) rfl (fun k hk => by
    obtain rfl : k = 0 := by omega
    exact ⟨_, rfl, SB.of_rb (Hrb1.out.keep hka) Hnc.out.1 Hnc.out.2⟩)
  have Hka := Lib.hid hka
  have Hrbl1 := Lib.hid hrbl1
  clear hka hrbl1
  go_enter Tryd.func122, Tryd.ntmps122
  go_wp2_with fail
  refine (Sum_any _ 1 1 [key] kfun htab _ Hrbl1.out (Ht.out.k.keep Hka.out) (Ht.out.f.keep Hka.out) (ShaTabs.lt (Ht.out.keep Hka.out)) (by unfold maxLen; omega) (by have := Hn1.out; simp; omega)).mono ?_
  rintro e w5 ⟨rfl, hb5⟩
  rw [show [key].flatten = key by simp, ← HDg.out, ← HCur.out]
  have Hb5' := Lib.hid ((HW1.out.alloc HWb1.out _).trans (hb5.mono (by have := HWb1.out; simp; omega)))
  have Hs5' := Lib.hid (show B ≤ w5.heap.size by have := hb5.size; have := HWb1.out; simp at *; omega)
  clear hb5
  go_wp2_with (first
    | (refine wpList_store_row rfl 48 (.tmp 5) (.tmp 13) rfl w5.heap.size cur rfl rfl 48 _ (heap_alloc_new w5 _) (by rw [Hcs.out]; exact info_32) (by rw [Hcs.out]; rfl) HB1.out ?_; obtain ⟨w6, hw6⟩ : ∃ W, W = (w5.alloc (.cells zer32 48)).setRow w5.heap.size cur := ⟨_, rfl⟩; change wpList _ _ _ _ _ ((w5.alloc (.cells zer32 48)).setRow w5.heap.size cur); rw [← hw6]; have Hr6 : Hid (w6.heap[w5.heap.size]? = some (.cells (bcells dg).toArray 48 (0, 0))) := (by show _ = _; rw [hw6, ← HCur.out]; exact setRow_heap _ _ _ _ _ _ (heap_alloc_new w5 _)); have HW : Hid (Below B w0 w6) := (by show Below _ _ _; rw [hw6]; exact below_setRow (Hb5'.out.alloc Hs5'.out _) Hs5'.out cur); have Hrb : Hid (RB w6 (some ⟨w5.heap.size, 0, none⟩) 32 dg) := ⟨Hn.out, fun _ => ⟨_, 0, rfl, fun k hk => (by rw [cell_of_row _ _ _ _ _ _ Hr6.out, Nat.zero_add, List.getElem?_toArray]; exact bcells_get (by rw [Hn.out]; exact hk))⟩⟩; have HWb : Hid (B ≤ w6.heap.size) := (by show B ≤ _; have := (Array.getElem?_eq_some_iff.1 Hr6.out).1; have := Hs5'.out; omega); clear hw6)
    | (refine wpList_copy_splice rfl (.tmp 16) (.tmp 17) 22 22 rfl 5 Tryd.underlying22 info_u8s (some ⟨w6.heap.size, 0, none⟩) (some ⟨w5.heap.size, 0, none⟩) 64 64 32 32 rfl rfl w6.heap.size 0 (bcells zeros64) 5 (heap_alloc_new w6 _) (bcells dg) ?_ ?_ ?_ (bcells_one _) B w0 ?_ HWb.out ?_; rotate_right; intro w5 hr5 hb5)
    | fail)
  case refine_1 => rw [bcells_length, Hn.out]; exact (Nat.min_eq_left (by omega)).symm
  case refine_2 =>
    intro h0
    rw [bcells_length] at h0
    obtain ⟨b, o, e, hc⟩ := Hrb.out.2 (by have := Hn.out; omega)
    suffices hkey : ∃ ad : Addr, ((some ⟨w5.heap.size, 0, none⟩) : Option Addr) = some ad ∧ ∀ (j : Nat) (v : Value), (bcells dg)[j]? = some v → (w6.alloc (.cells (bcells zeros64).toArray 5)).cell? (ad.add j) = some v by
      first | exact ⟨rfl, hkey⟩ | exact hkey | (obtain ⟨ad, e, hk⟩ := hkey; injection e with e; subst e; intro j v hv; have := hk j v hv; rwa [addr_add, Nat.zero_add] at this)
    refine ⟨⟨b, o, none⟩, e, fun j u hu => ?_⟩
    have hj : j < (dg).length := by
      rcases Nat.lt_or_ge j (dg).length with h' | h'
      · exact h'
      · rw [List.getElem?_eq_none (by rw [bcells_length]; exact h')] at hu; cases hu
    rw [bcells_get hj] at hu
    injection hu with hu
    subst hu
    rw [addr_add]
    exact Keeps.of_below ((Below.refl _ w6).alloc (Nat.le_refl _) _) _ _ (hc j (by have := Hn.out; omega))
  case refine_3 => rw [bcells_length, bcells_length, zeros64_length]; have := Hn.out; omega
  case refine_4 => exact HW.out.alloc HWb.out _
  have Hr5 : Hid (w5.heap[w6.heap.size]? = some (.cells (bcells (base64 dg)).toArray 5 (0, 0))) := by
    show _ = _
    rw [hr5.out, splice_zeros dg (by have := Hn.out; omega)]
  have Hb5 := Lib.hid hb5
  have H64 := Lib.hid (base64_length dg (by have := Hn.out; omega))
  have HWs := Lib.hid HWb.out
  clear hr5 hb5
  generalize w6.heap.size = gp at *
  generalize hB : base64 dg = B64l at *
  have HB := Lib.hid hB
  clear hB
  go_wp2_with fail
  go_loopg [21] 64 (fun k s21 wr => ∃ (j : Nat) (l : List UInt8), s21 = .int .i64 (j : Int) ∧ j + k = 64 ∧ l.length = 64 ∧ (∀ i, i < 64 → l.getD i 0 = if i < j then B64l.getD i 0 ^^^ x else B64l.getD i 0) ∧ wr.heap[gp]? = some (.cells (bcells l).toArray 5 (0, 0)) ∧ Below B w0 wr)
  case atStart => exact ⟨0, B64l, rfl, rfl, H64.out, fun i _ => by simp, Hr5.out, Hb5.out⟩
  case round =>
    obtain ⟨j, l, rfl, hjk, hll, hget, hrow, hbel⟩ := hrel
    have Hll := Lib.hid hll
    have Hget := Lib.hid hget
    have Hrow := Lib.hid hrow
    have Hbel := Lib.hid hbel
    clear hll hget hrow hbel
    by_cases hj : j < 64
    · have c0 : wr.cell? ⟨gp, j, none⟩ = some (.int .u8 ((l.getD j 0).toNat : Int)) := by
        rw [cell_of_row _ _ _ _ _ _ Hrow.out, List.getElem?_toArray]; exact bcells_get (by rw [Hll.out]; exact hj)
      have f0 : wr.frozen? ⟨gp, j, none⟩ = false := frozen_of_row _ _ _ _ _ Hrow.out
      have HY := Lib.hid (Hget.out j hj)
      rw [if_neg (by omega)] at HY
      generalize hy : l.getD j 0 = y at *
      have Hy := Lib.hid hy
      clear hy
      have j0 : (0 : Int) ≤ (j : Int) := by omega
      have j1 : (j : Int) < 64 := by omega
      go_wp2
      rw [b_xor]
      go_roundg (gk - 1)
      case measure => omega
      case rel =>
        refine ⟨j + 1, l.set j (y ^^^ x), by go_num, by omega, by rw [List.length_set]; exact Hll.out, fun i hi => ?_, ?_, Hbel.out.setCell HWs.out _⟩
        · rw [List.getD_eq_getElem?_getD, List.getElem?_set, Hll.out]
          by_cases hij : j = i
          · subst hij
            rw [if_pos rfl, if_pos hj, if_pos (by omega), ← HY.out]
            rfl
          · rw [if_neg hij, ← List.getD_eq_getElem?_getD, Hget.out i hi]
            by_cases h1 : i < j
            · rw [if_pos h1, if_pos (by omega)]
            · rw [if_neg h1, if_neg (by omega)]
        · refine (heap_setCell_same _ _ _ _ _ _ Hrow.out).trans ?_
          rw [List.setIfInBounds_toArray]
          simp [bcells, List.map_set]
    · obtain rfl : j = 64 := by omega
      go_wp2
      go_ret
      have hl : l = padL key x := by
        rw [padL, HKB.out, HB.out]
        apply List.ext_getElem (by rw [List.length_map, Hll.out, H64.out])
        intro i h1 h2
        have h := Hget.out i (by rw [Hll.out] at h1; exact h1)
        rw [if_pos (by rw [Hll.out] at h1; exact h1)] at h
        simp only [List.getD_eq_getElem?_getD] at h
        rw [List.getElem?_eq_getElem h1, List.getElem?_eq_getElem (by rw [List.length_map] at h2; exact h2)] at h
        simpa using h
      refine ⟨gp, rfl, HWs.out, ?_, Hbel.out⟩
      rw [← hl]
      exact Hrow.out

theorem pad_any (A : Option Addr) (n c : Nat) (key : List UInt8) (x : UInt8) (w : World) (hb : RB w A n key) (hn : n ≤ 1000000) (hnc : n ≤ c) (hc : c ≤ maxLen) (ht : ShaTabs w) :
    Calls Tryd.prog 122 #[.slice A n c, .int .u8 (x.toNat : Int)] w fun e w' => ∃ g, e = .returned (.slice (some ⟨g, 0, none⟩) 64 64) ∧ w.heap.size ≤ g ∧ w'.heap[g]? = some (.cells (bcells (padL key x)).toArray 5 (0, 0)) ∧ Below w.heap.size w w' := by
  by_cases h : n ≤ 64
  · exact pad_short A n c w.heap.size key x w w hb h (Below.refl _ _) (Nat.le_refl _)
  · exact pad_long A n c w.heap.size key x w w hb (by omega) hn hnc hc ht (Below.refl _ _) (Nat.le_refl _)
end Go.Proofs.YtlfeofakggkebaaDoor
