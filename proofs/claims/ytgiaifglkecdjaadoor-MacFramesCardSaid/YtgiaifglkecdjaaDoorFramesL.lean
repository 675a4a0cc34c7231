/- MacFrames: its walk. -/
import Derived.Test.YtgiaifglkecdjaaDoorIds
import Derived.Test.YtgiaifglkecdjaaDoorAlive02
import Derived.Test.YtgiaifglkecdjaaDoorLongs
import Derived.Test.YtgiaifglkecdjaaDoorNum
import Derived.Test.YtgiaifglkecdjaaDoorErrsL
import Derived.Test.YtgiaifglkecdjaaDoorFrmLong
import Derived.Test.YtgiaifglkecdjaaDoorSetB
import Derived.Deep.MidRow
import Derived.Deep.RegionHeld3
namespace Go.Proofs.YtgiaifglkecdjaaDoor
open Go.RowKit

theorem below_dr2 {B : Nat} {a w : World} (h : Below B a w) : Below B a w.drew := ⟨h.os, h.tape, h.output, h.size, h.block⟩
theorem range_blk {w : World} {b : Nat} {cs : List Value} {t : TypeId} {fr : Nat × Nat} (h : w.heap[b]? = some (.cells cs.toArray t fr)) : w.rangeAt b 0 cs := fun j v hv => by
  rw [cell_of_row w b (0 + j) _ t fr h, Nat.zero_add, List.getElem?_toArray]
  exact hv

set_option maxHeartbeats 4000000 in
set_option maxRecDepth 100000 in
theorem MacFrames_good (A : Option Addr) (n c : Nat) (key : List UInt8) (s : ByteArray) (A2 : Option Addr) (n2 c2 : Nat) (ls : List (List UInt8)) (w : World) {ea : Nat → Addr} (he : Errs w ea) (hb : RB w A n key) (hnc : n ≤ c) (hc : c ≤ maxLen) (hl : RBL w A2 n2 ls) (ht : ShaTabs w)
    (hbad : (decide (300 < n) || decide (20 < n2) || ls.any partOver) = false) (hs : s.size ≤ 100) (hf : frameBad s.data.toList ls = false) :
    Calls Tryd.prog 5 #[.slice A n c, .string s, .slice A2 n2 c2] w fun e w' => e = .returned (.bool true) ∧ Below w.heap.size w w' := by
  have He := Lib.hid he
  have Hb := Lib.hid hb
  have Hl := Lib.hid hl
  have Hlen := Lib.hid hl.1
  have Ht := Lib.hid ht
  have Hbad := Lib.hid hbad
  have Hnc := Lib.hid (And.intro hnc hc)
  have hn300 : n ≤ 300 := by simp at hbad; omega
  have hn20 : n2 ≤ 20 := by simp at hbad; omega
  have q1 : decide (100 < (s.size : Int)) = false := decide_eq_false (by omega)
  have Hf := Lib.hid hf
  have Hfl := Lib.hid (frameB_length _ _ hf)
  clear he hb hl ht hbad hnc hc hf
  go_enter Tryd.func5, Tryd.ntmps5
  go_wp2_with (first
    | (go_at_call 13; refine (alive02_any _).mono ?_; rintro e w1 ⟨rfl, hb1⟩; have B1 := Lib.hid hb1; clear hb1)
    | (go_at_call 29; refine (long02_any _ _ _ _ _ _ _ ls (Hl.out.keep (Keeps.of_below B1.out)) (by unfold maxLen; omega)).mono ?_; rintro e w' ⟨rfl, rfl⟩; rw [Hbad.out])
    | (go_at_call 30; refine (Frame_good s A2 n2 c2 ls w1 (Hl.out.keep (Keeps.of_below B1.out)) Hf.out).mono ?_; rintro e w2 ⟨v2, rfl, hown2, hb2⟩; obtain ⟨A3, c3, rfl, hc3, hm3, hr3⟩ := hown2.form; have R2 := Lib.hid hr3; have B2 := Lib.hid (B1.out.trans (hb2.mono B1.out.size)); clear hb2 hown2 hr3)
    | (go_at_call 31; refine (RefFrame_good s A2 n2 c2 ls w2 (Hl.out.keep (Keeps.of_below B2.out)) Hf.out).mono ?_; rintro e w3 ⟨v3, rfl, hown3, hb3⟩; obtain ⟨A4, c4, rfl, hc4, hm4, hr4⟩ := hown3.form; have R3 := Lib.hid hr4; have R23 := Lib.hid (R2.out.keep (Keeps.of_below hb3)); have B3 := Lib.hid (B2.out.trans (hb3.mono B2.out.size)); clear hb3 hown3 hr4)
    | fail)
  refine (Tagged_good A n c key s A2 n2 c2 ls w3 (Hb.out.keep (Keeps.of_below B3.out)) (by omega) Hnc.out.1 Hnc.out.2 (Hl.out.keep (Keeps.of_below B3.out)) Hf.out (Ht.out.keep (Keeps.of_below B3.out))).mono ?_
  rintro e w4 ⟨rfl, hb4⟩
  have R4 := Lib.hid (R23.out.keep (Keeps.of_below hb4))
  have R5 := Lib.hid (R3.out.keep (Keeps.of_below hb4))
  have B4 := Lib.hid (B3.out.trans (hb4.mono B3.out.size))
  clear hb4
  generalize hfr : frameB s.data.toList ls = fr at *
  generalize hm : fr.length = m at *
  have Hm6 := Hfl.out
  have Hm32 : Hid ((hmacF key fr).length = 32) := by show _ = _; exact shaB_length _ _ _
  generalize hmac : hmacF key fr = mac at *
  have Hmac := Lib.hid hmac
  obtain ⟨cur, hcur⟩ : ∃ cur, cur = (bcells mac).toArray := ⟨_, rfl⟩
  rw [← hcur]
  have HCur := Lib.hid hcur
  have HC2 : Hid (cur.size = 32) := by show _ = _; rw [hcur]; simp [bcells, Hm32.out]
  have HB2 : Hid (cur.all (·.oneCell') = true) := by
    show _ = true
    rw [hcur, Array.all_eq_true_iff_forall_mem]
    intro y hy
    exact bcells_one _ y (by simpa using hy)
  clear hcur hmac hfr hm
  go_wp2_with (first
    | (refine wpList_store_row rfl 57 (.tmp 11) (.tmp 40) rfl w4.heap.size cur rfl rfl 57 _ (heap_alloc_new w4 _) (by rw [HC2.out]; exact info_32) (by rw [HC2.out]; rfl) HB2.out ?_; obtain ⟨w6, hw6⟩ : ∃ W, W = (w4.alloc (.cells zer32 57)).setRow w4.heap.size cur := ⟨_, rfl⟩; change wpList _ _ _ _ _ ((w4.alloc (.cells zer32 57)).setRow w4.heap.size cur); rw [← hw6]; have Hr6 : Hid (w6.heap[w4.heap.size]? = some (.cells cur 57 (0, 0))) := (by show _ = _; rw [hw6]; exact setRow_heap _ _ _ _ _ _ (heap_alloc_new w4 _)); have B64 : Hid (Below w4.heap.size w4 w6) := (by show Below _ _ _; rw [hw6]; exact below_setRow ((Below.refl _ w4).alloc (Nat.le_refl _) _) (Nat.le_refl _) cur); have B6 := Lib.hid (B4.out.trans (B64.out.mono B4.out.size)); have cx := run_bytes_string (P := Tryd.prog) Tryd.underlying22 Tryd.underlying5 Tryd.underlying9 (c := c3) (R4.out.keep (Keeps.of_below B64.out)); have cy := run_bytes_string (P := Tryd.prog) Tryd.underlying22 Tryd.underlying5 Tryd.underlying9 (c := c4) (R5.out.keep (Keeps.of_below B64.out)); clear hw6)
    | (go_at_call 16; (with_reducible refine (Num_nil w6).mono ?_); rintro e w' ⟨rfl, rfl⟩))
  obtain ⟨csl, hcsl⟩ : ∃ csl, csl = bcells mac := ⟨_, rfl⟩
  have HCs := Lib.hid hcsl
  have Hcl : csl.length = 32 := by rw [hcsl, bcells_length, Hm32.out]
  have hin : (Tryd.prog.info? 57).map (·.size) = some csl.length := by rw [Hcl]; exact info_32
  have hu := Tryd.underlying57
  have hone : ∀ v ∈ csl, v.oneCell' = true := by rw [hcsl]; exact bcells_one _
  have hblk : w6.heap[w4.heap.size]? = some (.cells csl.toArray 57 (0, 0)) := by rw [hcsl, ← HCur.out]; exact Hr6.out
  have Hkb := Lib.hid hblk
  have hrg := range_blk (w := w6.drew) hblk
  have heq : ∀ W, (binOp .eql 57 (.agg csl.toArray) (.agg csl.toArray)).run Tryd.prog W = .ok (.bool true) W := fun W => by
    have h := run_eql_bytes (P := Tryd.prog) W 57 5 32 Tryd.underlying57 Tryd.underlying5 (fun _ => by kernel_rfl) mac mac Hm32.out Hm32.out
    rw [beq_self_eq_true] at h
    rw [HCs.out]
    exact h
  have Kb := Keeps.of_below (B4.out.trans (B64.out.mono B4.out.size))
  have R6 := Lib.hid (R5.out.keep (Keeps.of_below B64.out))
  have Hk6 := Lib.hid (Hb.out.keep Kb)
  clear Kb hcsl hblk
  go_region_held3 (fun w' => w'.rangeAt w4.heap.size 0 csl) (first | assumption | go_keep_ranges)
    (first | (go_at_call 33; (with_reducible refine (RefMac_any A n c key A4 m c4 fr w6.drew (Hk6.out.keep (Keeps.drew _)) (by omega) (R6.out.keep (Keeps.drew _)) (by omega)).mono ?_); rw [Hmac.out, ← HCs.out]; rintro e w7 ⟨rfl, hb7⟩; have hr7 := range_blk (w := w7) ((hb7.block w4.heap.size (Array.getElem?_eq_some_iff.1 Hkb.out).1).trans Hkb.out); have B7 := Lib.hid ((below_dr2 B6.out).trans (hb7.mono B6.out.size)); clear hb7))
  all_goals
    go_wp2
    go_ret
    exact ⟨rfl, B7.out⟩

set_option maxHeartbeats 4000000 in
set_option maxRecDepth 100000 in
theorem MacFrames_text (A : Option Addr) (n c : Nat) (s : ByteArray) (A2 : Option Addr) (n2 c2 : Nat) (ls : List (List UInt8)) (w : World) {ea : Nat → Addr} (he : Errs w ea) (hl : RBL w A2 n2 ls)
    (hbad : (decide (300 < n) || decide (20 < n2) || ls.any partOver) = false) (hs : s.size ≤ 100) (hw : wordBad s.data.toList = true) :
    Calls Tryd.prog 5 #[.slice A n c, .string s, .slice A2 n2 c2] w fun e w' => e = .returned (.bool true) ∧ Below w.heap.size w w' := by
  have He := Lib.hid he
  have Hl := Lib.hid hl
  have Hlen := Lib.hid hl.1
  have Hbad := Lib.hid hbad
  have hn300 : n ≤ 300 := by simp at hbad; omega
  have hn20 : n2 ≤ 20 := by simp at hbad; omega
  have hsm : s.size ≤ maxLen := by unfold maxLen; omega
  have hnm : n2 ≤ maxLen := by unfold maxLen; omega
  have q1 : decide (100 < (s.size : Int)) = false := decide_eq_false (by omega)
  have Hw := Lib.hid hw
  have Hf : Hid (frameBad s.data.toList ls = true) := Lib.hid (by unfold frameBad; rw [hw]; rfl)
  have HIf : Hid ((if wordBad s.data.toList then ErrVal (ea 8) else ErrVal (ea 3)) = ErrVal (ea 8)) := Lib.hid (by rw [Hw.out]; rfl)
  have HF : Hid (∀ W, Errs W ea → RBL W A2 n2 ls → Calls Tryd.prog 30 #[.string s, .slice A2 n2 c2] W fun e w' => e = .returned (.tuple #[.slice none 0 0, .iface 221 (.pointer (some (ea 8)))]) ∧ Below W.heap.size W w') := Lib.hid fun W he hl => by
    have := Frame_bad s A2 n2 c2 ls W hl hsm hnm (t := ErrVal (ea 8)) (l := ErrVal (ea 3)) ⟨he.cell 8 (by omega) (by omega), he.cell 3 (by omega) (by omega)⟩ Hf.out
    rw [HIf.out] at this
    exact this
  have HTg : Hid (∀ W, Errs W ea → RBL W A2 n2 ls → Calls Tryd.prog 32 #[.slice A n c, .string s, .slice A2 n2 c2] W fun e w' => e = .returned (.tuple #[.agg zer32, .iface 221 (.pointer (some (ea 8)))]) ∧ Below W.heap.size W w') := Lib.hid fun W he hl =>
    Tagged_bad A n c s A2 n2 c2 ls W hl hsm hnm (at_ := ea 8) (al := ea 3) ⟨he.cell 8 (by omega) (by omega), he.cell 3 (by omega) (by omega)⟩ Hf.out HIf.out
  have HC2 : Hid (zer32.size = 32) := by show _ = _; decide
  have HB2 : Hid (zer32.all (·.oneCell') = true) := by show _ = _; decide +kernel
  have heq : ∀ W, (binOp .eql 57 (.agg zer32) (.agg #[.int .u8 0, .int .u8 0, .int .u8 0, .int .u8 0, .int .u8 0, .int .u8 0, .int .u8 0, .int .u8 0, .int .u8 0, .int .u8 0, .int .u8 0, .int .u8 0, .int .u8 0, .int .u8 0, .int .u8 0, .int .u8 0, .int .u8 0, .int .u8 0, .int .u8 0, .int .u8 0, .int .u8 0, .int .u8 0, .int .u8 0, .int .u8 0, .int .u8 0, .int .u8 0, .int .u8 0, .int .u8 0, .int .u8 0, .int .u8 0, .int .u8 0, .int .u8 0])).run Tryd.prog W = .ok (.bool true) W := fun W => by
    have h := run_eql_bytes (P := Tryd.prog) W 57 5 32 Tryd.underlying57 Tryd.underlying5 (fun _ => by kernel_rfl) (List.replicate 32 0) (List.replicate 32 0) rfl rfl
    rw [beq_self_eq_true] at h
    exact h
  have cx := fun (W : World) => run_bytes_string (P := Tryd.prog) Tryd.underlying22 Tryd.underlying5 Tryd.underlying9 (c := 0) (RB.nil W none)
  clear he hl hbad hw hsm hnm
  go_enter Tryd.func5, Tryd.ntmps5
  go_wp2_with (first
    | (go_at_call 13; refine (alive02_any _).mono ?_; rintro e w1 ⟨rfl, hb1⟩; have B1 := Lib.hid hb1; clear hb1)
    | (go_at_call 29; refine (long02_any _ _ _ _ _ _ _ ls (Hl.out.keep (Keeps.of_below B1.out)) (by unfold maxLen; omega)).mono ?_; rintro e w' ⟨rfl, rfl⟩; rw [Hbad.out])
    | (go_at_call 30; (with_reducible refine (HF.out w1 (He.out.below B1.out) (Hl.out.keep (Keeps.of_below B1.out))).mono ?_); rintro e w2 ⟨rfl, hb2⟩; have B2 := Lib.hid (B1.out.trans (hb2.mono B1.out.size)); clear hb2)
    | (go_at_call 31; (with_reducible refine (RefFrame_text s A2 n2 c2 w2 (by omega) Hw.out).mono ?_); rintro e w3 ⟨rfl, h3⟩; replace h3 := h3.symm; subst h3)
    | (go_at_call 32; (with_reducible refine (HTg.out w2 (He.out.below B2.out) (Hl.out.keep (Keeps.of_below B2.out))).mono ?_); rintro e w4 ⟨rfl, hb4⟩; have B4 := Lib.hid (B2.out.trans (hb4.mono B2.out.size)); clear hb4)
    | (refine wpList_store_row rfl 57 (.tmp 11) (.tmp 40) rfl w4.heap.size zer32 rfl rfl 57 _ (heap_alloc_new w4 _) (by rw [HC2.out]; exact info_32) (by first | rfl | rw [HC2.out]) HB2.out ?_; obtain ⟨w6, hw6⟩ : ∃ W, W = (w4.alloc (.cells zer32 57)).setRow w4.heap.size zer32 := ⟨_, rfl⟩; change wpList _ _ _ _ _ ((w4.alloc (.cells zer32 57)).setRow w4.heap.size zer32); rw [← hw6]; have Hr6 : Hid (w6.heap[w4.heap.size]? = some (.cells zer32 57 (0, 0))) := (by show _ = _; rw [hw6]; exact setRow_heap _ _ _ _ _ _ (heap_alloc_new w4 _)); have B64 : Hid (Below w4.heap.size w4 w6) := (by show Below _ _ _; rw [hw6]; exact below_setRow ((Below.refl _ w4).alloc (Nat.le_refl _) _) (Nat.le_refl _) zer32); have B6 := Lib.hid (B4.out.trans (B64.out.mono B4.out.size)); clear hw6)
    | (go_at_call 16; (with_reducible refine (Num_err (He.out.below B6.out) 8 (by omega) (by omega)).mono ?_); rintro e w7 ⟨rfl, hb7⟩; have B7 := Lib.hid (B6.out.trans (hb7.mono B6.out.size)); have B67 := Lib.hid hb7; clear hb7)
    | (go_at_call 16; (with_reducible refine (Num_err (He.out.below B7.out) 8 (by omega) (by omega)).mono ?_); rintro e w8 ⟨rfl, hb8⟩; have B8 := Lib.hid (B7.out.trans (hb8.mono B7.out.size)); have B68 := Lib.hid (B67.out.trans (hb8.mono B67.out.size)); have Hr8 := Lib.hid ((B68.out.block _ (Array.getElem?_eq_some_iff.1 Hr6.out).1).trans Hr6.out); clear hb8)
    | (refine wpList_load_row rfl 57 (.tmp 11) rfl w4.heap.size rfl 57 zer32 (0, 0) _ Hr8.out Tryd.underlying57 rfl (by rw [HC2.out]; exact info_32) ?_))
  go_ret
  exact ⟨rfl, B8.out⟩

set_option maxHeartbeats 4000000 in
set_option maxRecDepth 100000 in
theorem MacFrames_many (A : Option Addr) (n c : Nat) (s : ByteArray) (A2 : Option Addr) (n2 c2 : Nat) (ls : List (List UInt8)) (w : World) {ea : Nat → Addr} (he : Errs w ea) (hl : RBL w A2 n2 ls)
    (hbad : (decide (300 < n) || decide (20 < n2) || ls.any partOver) = false) (hs : s.size ≤ 100) (hw : wordBad s.data.toList = false) (h16 : 16 < n2) :
    Calls Tryd.prog 5 #[.slice A n c, .string s, .slice A2 n2 c2] w fun e w' => e = .returned (.bool true) ∧ Below w.heap.size w w' := by
  have He := Lib.hid he
  have Hl := Lib.hid hl
  have Hlen := Lib.hid hl.1
  have Hbad := Lib.hid hbad
  have hn300 : n ≤ 300 := by simp at hbad; omega
  have hn20 : n2 ≤ 20 := by simp at hbad; omega
  have hsm : s.size ≤ maxLen := by unfold maxLen; omega
  have hnm : n2 ≤ maxLen := by unfold maxLen; omega
  have q1 : decide (100 < (s.size : Int)) = false := decide_eq_false (by omega)
  have Hw := Lib.hid hw
  have Hf : Hid (frameBad s.data.toList ls = true) := Lib.hid (by unfold frameBad; rw [hw]; simp only [partsBad, hl.1, decide_eq_true h16]; rfl)
  have HIf : Hid ((if wordBad s.data.toList then ErrVal (ea 8) else ErrVal (ea 3)) = ErrVal (ea 3)) := Lib.hid (by rw [Hw.out]; rfl)
  have HF : Hid (∀ W, Errs W ea → RBL W A2 n2 ls → Calls Tryd.prog 30 #[.string s, .slice A2 n2 c2] W fun e w' => e = .returned (.tuple #[.slice none 0 0, .iface 221 (.pointer (some (ea 3)))]) ∧ Below W.heap.size W w') := Lib.hid fun W he hl => by
    have := Frame_bad s A2 n2 c2 ls W hl hsm hnm (t := ErrVal (ea 8)) (l := ErrVal (ea 3)) ⟨he.cell 8 (by omega) (by omega), he.cell 3 (by omega) (by omega)⟩ Hf.out
    rw [HIf.out] at this
    exact this
  have HTg : Hid (∀ W, Errs W ea → RBL W A2 n2 ls → Calls Tryd.prog 32 #[.slice A n c, .string s, .slice A2 n2 c2] W fun e w' => e = .returned (.tuple #[.agg zer32, .iface 221 (.pointer (some (ea 3)))]) ∧ Below W.heap.size W w') := Lib.hid fun W he hl =>
    Tagged_bad A n c s A2 n2 c2 ls W hl hsm hnm (at_ := ea 8) (al := ea 3) ⟨he.cell 8 (by omega) (by omega), he.cell 3 (by omega) (by omega)⟩ Hf.out HIf.out
  have HC2 : Hid (zer32.size = 32) := by show _ = _; decide
  have HB2 : Hid (zer32.all (·.oneCell') = true) := by show _ = _; decide +kernel
  have heq : ∀ W, (binOp .eql 57 (.agg zer32) (.agg #[.int .u8 0, .int .u8 0, .int .u8 0, .int .u8 0, .int .u8 0, .int .u8 0, .int .u8 0, .int .u8 0, .int .u8 0, .int .u8 0, .int .u8 0, .int .u8 0, .int .u8 0, .int .u8 0, .int .u8 0, .int .u8 0, .int .u8 0, .int .u8 0, .int .u8 0, .int .u8 0, .int .u8 0, .int .u8 0, .int .u8 0, .int .u8 0, .int .u8 0, .int .u8 0, .int .u8 0, .int .u8 0, .int .u8 0, .int .u8 0, .int .u8 0, .int .u8 0])).run Tryd.prog W = .ok (.bool true) W := fun W => by
    have h := run_eql_bytes (P := Tryd.prog) W 57 5 32 Tryd.underlying57 Tryd.underlying5 (fun _ => by kernel_rfl) (List.replicate 32 0) (List.replicate 32 0) rfl rfl
    rw [beq_self_eq_true] at h
    exact h
  have cx := fun (W : World) => run_bytes_string (P := Tryd.prog) Tryd.underlying22 Tryd.underlying5 Tryd.underlying9 (c := 0) (RB.nil W none)
  clear he hl hbad hw hsm hnm
  go_enter Tryd.func5, Tryd.ntmps5
  go_wp2_with (first
    | (go_at_call 13; refine (alive02_any _).mono ?_; rintro e w1 ⟨rfl, hb1⟩; have B1 := Lib.hid hb1; clear hb1)
    | (go_at_call 29; refine (long02_any _ _ _ _ _ _ _ ls (Hl.out.keep (Keeps.of_below B1.out)) (by unfold maxLen; omega)).mono ?_; rintro e w' ⟨rfl, rfl⟩; rw [Hbad.out])
    | (go_at_call 30; (with_reducible refine (HF.out w1 (He.out.below B1.out) (Hl.out.keep (Keeps.of_below B1.out))).mono ?_); rintro e w2 ⟨rfl, hb2⟩; have B2 := Lib.hid (B1.out.trans (hb2.mono B1.out.size)); clear hb2)
    | (go_at_call 31; (with_reducible refine (RefFrame_many s A2 n2 c2 w2 h16 Hw.out).mono ?_); rintro e w3 ⟨rfl, h3⟩; replace h3 := h3.symm; subst h3)
    | (go_at_call 32; (with_reducible refine (HTg.out w2 (He.out.below B2.out) (Hl.out.keep (Keeps.of_below B2.out))).mono ?_); rintro e w4 ⟨rfl, hb4⟩; have B4 := Lib.hid (B2.out.trans (hb4.mono B2.out.size)); clear hb4)
    | (refine wpList_store_row rfl 57 (.tmp 11) (.tmp 40) rfl w4.heap.size zer32 rfl rfl 57 _ (heap_alloc_new w4 _) (by rw [HC2.out]; exact info_32) (by first | rfl | rw [HC2.out]) HB2.out ?_; obtain ⟨w6, hw6⟩ : ∃ W, W = (w4.alloc (.cells zer32 57)).setRow w4.heap.size zer32 := ⟨_, rfl⟩; change wpList _ _ _ _ _ ((w4.alloc (.cells zer32 57)).setRow w4.heap.size zer32); rw [← hw6]; have Hr6 : Hid (w6.heap[w4.heap.size]? = some (.cells zer32 57 (0, 0))) := (by show _ = _; rw [hw6]; exact setRow_heap _ _ _ _ _ _ (heap_alloc_new w4 _)); have B64 : Hid (Below w4.heap.size w4 w6) := (by show Below _ _ _; rw [hw6]; exact below_setRow ((Below.refl _ w4).alloc (Nat.le_refl _) _) (Nat.le_refl _) zer32); have B6 := Lib.hid (B4.out.trans (B64.out.mono B4.out.size)); clear hw6)
    | (go_at_call 16; (with_reducible refine (Num_err (He.out.below B6.out) 3 (by omega) (by omega)).mono ?_); rintro e w7 ⟨rfl, hb7⟩; have B7 := Lib.hid (B6.out.trans (hb7.mono B6.out.size)); have B67 := Lib.hid hb7; clear hb7)
    | (go_at_call 16; (with_reducible refine (Num_err (He.out.below B7.out) 3 (by omega) (by omega)).mono ?_); rintro e w8 ⟨rfl, hb8⟩; have B8 := Lib.hid (B7.out.trans (hb8.mono B7.out.size)); have B68 := Lib.hid (B67.out.trans (hb8.mono B67.out.size)); have Hr8 := Lib.hid ((B68.out.block _ (Array.getElem?_eq_some_iff.1 Hr6.out).1).trans Hr6.out); clear hb8)
    | (refine wpList_load_row rfl 57 (.tmp 11) rfl w4.heap.size rfl 57 zer32 (0, 0) _ Hr8.out Tryd.underlying57 rfl (by rw [HC2.out]; exact info_32) ?_))
  go_ret
  exact ⟨rfl, B8.out⟩
end Go.Proofs.YtgiaifglkecdjaaDoor
