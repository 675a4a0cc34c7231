/- Layer 20 (store): named, asked, row, key, copied. -/
import Derived.Test.YtfmagnpmjlppiaaGreatDoorLabel
import Derived.Test.YtfmagnpmjlppiaaGreatDoorTabSO
import Derived.Test.YtfmagnpmjlppiaaGreatDoorErrs
import Derived.Test.YtfmagnpmjlppiaaGreatDoorSha
import Derived.Test.YtfmagnpmjlppiaaGreatDoorDiskOps
namespace Go.Proofs.YtfmagnpmjlppiaaGreatDoor
open Go.RowKit SO

set_option maxHeartbeats 1000000 in
theorem named_0 (v : OV) (w : World) (hI : inSp v.kind = true) (ha : labB v.space.data.toList = false) :
  Calls Tryz.prog 54 #[.agg #[.int .i64 v.kind, .string v.space, .string v.name, .int .i64 v.ver, .slice v.A v.n v.c]] w fun e w' => e = .returned (.bool (false)) ∧ Below w.heap.size w w' := by
 obtain ⟨w1, hw1, B, hB, hb1, hr1⟩ := box_obj w v
 have HB1 := Hj hb1
 have HRow := Hj hr1
 have HW1 := Hj hw1
 have HBE := Hj hB
 have HV1 : Hid (VB w1 B v) := Hj (VB.of_row hr1)
 obtain ⟨vb0, vb1, vb2, vb3, vb4⟩ := HV1.out
 clear hb1 hr1 hw1 hB
 have HIn := Hj (inSp_any v.kind w1)
 rw [hI] at HIn
 clear hI
 have HLs := Hj (Label_any v.space w1)
 rw [ha] at HLs
 clear ha
 go_enter Tryz.func54, Tryz.ntmps54
 go_wp2_with (first
  | (go_at_call 41; rw [← HW1.out, ← HBE.out]; (with_reducible refine HIn.out.mono ?_); rintro e w' ⟨rfl, rfl⟩)
  | (go_at_call 102; (with_reducible refine HLs.out.mono ?_); rintro e w2 ⟨rfl, k2, hk2⟩; have HK2 := Hj hk2; have HV2 : VB w2 B v := (by rw [hk2]; exact HV1.out); obtain ⟨v20, v21, v22, v23, v24⟩ := HV2; clear hk2))
 go_ret
 exact ⟨rfl, (by rw [HK2.out]; exact below_drewN HB1.out _)⟩

set_option maxHeartbeats 1000000 in
theorem named_1 (v : OV) (w : World) (hI : inSp v.kind = true) (ha : labB v.space.data.toList = true) (hb : ¬ 1 ≤ v.kind) :
  Calls Tryz.prog 54 #[.agg #[.int .i64 v.kind, .string v.space, .string v.name, .int .i64 v.ver, .slice v.A v.n v.c]] w fun e w' => e = .returned (.bool (false)) ∧ Below w.heap.size w w' := by
 obtain ⟨w1, hw1, B, hB, hb1, hr1⟩ := box_obj w v
 have HB1 := Hj hb1
 have HRow := Hj hr1
 have HW1 := Hj hw1
 have HBE := Hj hB
 have HV1 : Hid (VB w1 B v) := Hj (VB.of_row hr1)
 obtain ⟨vb0, vb1, vb2, vb3, vb4⟩ := HV1.out
 clear hb1 hr1 hw1 hB
 have HIn := Hj (inSp_any v.kind w1)
 rw [hI] at HIn
 clear hI
 have HLs := Hj (Label_any v.space w1)
 rw [ha] at HLs
 clear ha
 go_enter Tryz.func54, Tryz.ntmps54
 go_wp2_with (first
  | (go_at_call 41; rw [← HW1.out, ← HBE.out]; (with_reducible refine HIn.out.mono ?_); rintro e w' ⟨rfl, rfl⟩)
  | (go_at_call 102; (with_reducible refine HLs.out.mono ?_); rintro e w2 ⟨rfl, k2, hk2⟩; have HK2 := Hj hk2; have HV2 : VB w2 B v := (by rw [hk2]; exact HV1.out); obtain ⟨v20, v21, v22, v23, v24⟩ := HV2; clear hk2))
 go_ret
 exact ⟨rfl, (by rw [HK2.out]; exact below_drewN HB1.out _)⟩

set_option maxHeartbeats 1000000 in
theorem named_2 (v : OV) (w : World) (hI : inSp v.kind = true) (ha : labB v.space.data.toList = true) (hb : 1 ≤ v.kind) (hc : ¬ v.kind ≤ 7) :
  Calls Tryz.prog 54 #[.agg #[.int .i64 v.kind, .string v.space, .string v.name, .int .i64 v.ver, .slice v.A v.n v.c]] w fun e w' => e = .returned (.bool (false)) ∧ Below w.heap.size w w' := by
 obtain ⟨w1, hw1, B, hB, hb1, hr1⟩ := box_obj w v
 have HB1 := Hj hb1
 have HRow := Hj hr1
 have HW1 := Hj hw1
 have HBE := Hj hB
 have HV1 : Hid (VB w1 B v) := Hj (VB.of_row hr1)
 obtain ⟨vb0, vb1, vb2, vb3, vb4⟩ := HV1.out
 clear hb1 hr1 hw1 hB
 have HIn := Hj (inSp_any v.kind w1)
 rw [hI] at HIn
 clear hI
 have HLs := Hj (Label_any v.space w1)
 rw [ha] at HLs
 clear ha
 go_enter Tryz.func54, Tryz.ntmps54
 go_wp2_with (first
  | (go_at_call 41; rw [← HW1.out, ← HBE.out]; (with_reducible refine HIn.out.mono ?_); rintro e w' ⟨rfl, rfl⟩)
  | (go_at_call 102; (with_reducible refine HLs.out.mono ?_); rintro e w2 ⟨rfl, k2, hk2⟩; have HK2 := Hj hk2; have HV2 : VB w2 B v := (by rw [hk2]; exact HV1.out); obtain ⟨v20, v21, v22, v23, v24⟩ := HV2; clear hk2))
 go_ret
 exact ⟨rfl, (by rw [HK2.out]; exact below_drewN HB1.out _)⟩

set_option maxHeartbeats 1000000 in
theorem named_3 (v : OV) (w : World) (hI : inSp v.kind = true) (ha : labB v.space.data.toList = true) (hb : 1 ≤ v.kind) (hc : v.kind ≤ 7) :
  Calls Tryz.prog 54 #[.agg #[.int .i64 v.kind, .string v.space, .string v.name, .int .i64 v.ver, .slice v.A v.n v.c]] w fun e w' => e = .returned (.bool (labB v.name.data.toList)) ∧ Below w.heap.size w w' := by
 obtain ⟨w1, hw1, B, hB, hb1, hr1⟩ := box_obj w v
 have HB1 := Hj hb1
 have HRow := Hj hr1
 have HW1 := Hj hw1
 have HBE := Hj hB
 have HV1 : Hid (VB w1 B v) := Hj (VB.of_row hr1)
 obtain ⟨vb0, vb1, vb2, vb3, vb4⟩ := HV1.out
 clear hb1 hr1 hw1 hB
 have HIn := Hj (inSp_any v.kind w1)
 rw [hI] at HIn
 clear hI
 have HLs := Hj (Label_any v.space w1)
 rw [ha] at HLs
 clear ha
 have HLn : Hid (∀ W, Calls Tryz.prog 102 #[.string v.name] W fun e w' => e = .returned (.bool (labB v.name.data.toList)) ∧ ∃ k, w' = W.drewN k) := Hj fun W => Label_any v.name W
 go_enter Tryz.func54, Tryz.ntmps54
 go_wp2_with (first
  | (go_at_call 41; rw [← HW1.out, ← HBE.out]; (with_reducible refine HIn.out.mono ?_); rintro e w' ⟨rfl, rfl⟩)
  | (go_at_call 102; (with_reducible refine HLs.out.mono ?_); rintro e w2 ⟨rfl, k2, hk2⟩; have HK2 := Hj hk2; have HV2 : VB w2 B v := (by rw [hk2]; exact HV1.out); obtain ⟨v20, v21, v22, v23, v24⟩ := HV2; clear hk2)
  | (go_at_call 102; (with_reducible refine (HLn.out _).mono ?_); rintro e w3 ⟨rfl, k3, hk3⟩; have HK3 := Hj hk3; clear hk3))
 go_ret
 exact ⟨rfl, (by rw [HK3.out, HK2.out]; exact below_drewN (below_drewN HB1.out _) _)⟩

set_option maxHeartbeats 1000000 in
theorem named_4 (v : OV) (w : World) (hI : inSp v.kind = false) (ha : (v.space.toList == []) = false) :
  Calls Tryz.prog 54 #[.agg #[.int .i64 v.kind, .string v.space, .string v.name, .int .i64 v.ver, .slice v.A v.n v.c]] w fun e w' => e = .returned (.bool (false)) ∧ Below w.heap.size w w' := by
 obtain ⟨w1, hw1, B, hB, hb1, hr1⟩ := box_obj w v
 have HB1 := Hj hb1
 have HRow := Hj hr1
 have HW1 := Hj hw1
 have HBE := Hj hB
 have HV1 : Hid (VB w1 B v) := Hj (VB.of_row hr1)
 obtain ⟨vb0, vb1, vb2, vb3, vb4⟩ := HV1.out
 clear hb1 hr1 hw1 hB
 have HIn := Hj (inSp_any v.kind w1)
 rw [hI] at HIn
 clear hI
 go_enter Tryz.func54, Tryz.ntmps54
 go_wp2_with (first
  | (go_at_call 41; rw [← HW1.out, ← HBE.out]; (with_reducible refine HIn.out.mono ?_); rintro e w' ⟨rfl, rfl⟩))
 go_ret
 exact ⟨rfl, HB1.out⟩

set_option maxHeartbeats 1000000 in
theorem named_5 (v : OV) (w : World) (hI : inSp v.kind = false) (ha : (v.space.toList == []) = true) (hb : ¬ 1 ≤ v.kind) :
  Calls Tryz.prog 54 #[.agg #[.int .i64 v.kind, .string v.space, .string v.name, .int .i64 v.ver, .slice v.A v.n v.c]] w fun e w' => e = .returned (.bool (false)) ∧ Below w.heap.size w w' := by
 obtain ⟨w1, hw1, B, hB, hb1, hr1⟩ := box_obj w v
 have HB1 := Hj hb1
 have HRow := Hj hr1
 have HW1 := Hj hw1
 have HBE := Hj hB
 have HV1 : Hid (VB w1 B v) := Hj (VB.of_row hr1)
 obtain ⟨vb0, vb1, vb2, vb3, vb4⟩ := HV1.out
 clear hb1 hr1 hw1 hB
 have HIn := Hj (inSp_any v.kind w1)
 rw [hI] at HIn
 clear hI
 go_enter Tryz.func54, Tryz.ntmps54
 go_wp2_with (first
  | (go_at_call 41; rw [← HW1.out, ← HBE.out]; (with_reducible refine HIn.out.mono ?_); rintro e w' ⟨rfl, rfl⟩))
 go_ret
 exact ⟨rfl, HB1.out⟩

set_option maxHeartbeats 1000000 in
theorem named_6 (v : OV) (w : World) (hI : inSp v.kind = false) (ha : (v.space.toList == []) = true) (hb : 1 ≤ v.kind) (hc : ¬ v.kind ≤ 7) :
  Calls Tryz.prog 54 #[.agg #[.int .i64 v.kind, .string v.space, .string v.name, .int .i64 v.ver, .slice v.A v.n v.c]] w fun e w' => e = .returned (.bool (false)) ∧ Below w.heap.size w w' := by
 obtain ⟨w1, hw1, B, hB, hb1, hr1⟩ := box_obj w v
 have HB1 := Hj hb1
 have HRow := Hj hr1
 have HW1 := Hj hw1
 have HBE := Hj hB
 have HV1 : Hid (VB w1 B v) := Hj (VB.of_row hr1)
 obtain ⟨vb0, vb1, vb2, vb3, vb4⟩ := HV1.out
 clear hb1 hr1 hw1 hB
 have HIn := Hj (inSp_any v.kind w1)
 rw [hI] at HIn
 clear hI
 go_enter Tryz.func54, Tryz.ntmps54
 go_wp2_with (first
  | (go_at_call 41; rw [← HW1.out, ← HBE.out]; (with_reducible refine HIn.out.mono ?_); rintro e w' ⟨rfl, rfl⟩))
 go_ret
 exact ⟨rfl, HB1.out⟩

set_option maxHeartbeats 1000000 in
theorem named_7 (v : OV) (w : World) (hI : inSp v.kind = false) (ha : (v.space.toList == []) = true) (hb : 1 ≤ v.kind) (hc : v.kind ≤ 7) :
  Calls Tryz.prog 54 #[.agg #[.int .i64 v.kind, .string v.space, .string v.name, .int .i64 v.ver, .slice v.A v.n v.c]] w fun e w' => e = .returned (.bool (labB v.name.data.toList)) ∧ Below w.heap.size w w' := by
 obtain ⟨w1, hw1, B, hB, hb1, hr1⟩ := box_obj w v
 have HB1 := Hj hb1
 have HRow := Hj hr1
 have HW1 := Hj hw1
 have HBE := Hj hB
 have HV1 : Hid (VB w1 B v) := Hj (VB.of_row hr1)
 obtain ⟨vb0, vb1, vb2, vb3, vb4⟩ := HV1.out
 clear hb1 hr1 hw1 hB
 have HIn := Hj (inSp_any v.kind w1)
 rw [hI] at HIn
 clear hI
 have HLn : Hid (∀ W, Calls Tryz.prog 102 #[.string v.name] W fun e w' => e = .returned (.bool (labB v.name.data.toList)) ∧ ∃ k, w' = W.drewN k) := Hj fun W => Label_any v.name W
 go_enter Tryz.func54, Tryz.ntmps54
 go_wp2_with (first
  | (go_at_call 41; rw [← HW1.out, ← HBE.out]; (with_reducible refine HIn.out.mono ?_); rintro e w' ⟨rfl, rfl⟩)
  | (go_at_call 102; (with_reducible refine (HLn.out _).mono ?_); rintro e w3 ⟨rfl, k3, hk3⟩; have HK3 := Hj hk3; clear hk3))
 go_ret
 exact ⟨rfl, (by rw [HK3.out]; exact below_drewN HB1.out _)⟩

theorem named_any (v : OV) (w : World) : Calls Tryz.prog 54 #[.agg #[.int .i64 v.kind, .string v.space, .string v.name, .int .i64 v.ver, .slice v.A v.n v.c]] w fun e w' => e = .returned (.bool (namB v.kind v.space v.name)) ∧ Below w.heap.size w w' := by
 have hsp : decide (v.space.size = 0) = (v.space.toList == []) := by
  rw [ByteArray.toList_eq, ← size_data]
  cases v.space.data.toList with
  | nil => rfl
  | cons a b => rfl
 by_cases hb : 1 ≤ v.kind
 ·by_cases hc : v.kind ≤ 7
  ·skip
   cases hI : inSp v.kind with
   | true =>
    cases ha : labB v.space.data.toList with
    | true =>
     have e : namB v.kind v.space v.name = (labB v.name.data.toList) := by unfold namB; rw [hsp, hI]; simp [ha, hb, hc]
     rw [e]; exact named_3 v w hI ha hb hc
    | false =>
     have e : namB v.kind v.space v.name = false := by unfold namB; rw [hsp, hI]; simp [ha]
     rw [e]; exact named_0 v w hI ha
   | false =>
    cases ha : (v.space.toList == []) with
    | true =>
     have e : namB v.kind v.space v.name = (labB v.name.data.toList) := by unfold namB; rw [hsp, hI]; simp [ha, hb, hc]
     rw [e]; exact named_7 v w hI ha hb hc
    | false =>
     have e : namB v.kind v.space v.name = false := by unfold namB; rw [hsp, hI]; simp [ha]
     rw [e]; exact named_4 v w hI ha
  ·skip
   cases hI : inSp v.kind with
   | true =>
    cases ha : labB v.space.data.toList with
    | true =>
     have e : namB v.kind v.space v.name = (false) := by unfold namB; rw [hsp, hI]; simp [ha, hc]
     rw [e]; exact named_2 v w hI ha hb hc
    | false =>
     have e : namB v.kind v.space v.name = false := by unfold namB; rw [hsp, hI]; simp [ha]
     rw [e]; exact named_0 v w hI ha
   | false =>
    cases ha : (v.space.toList == []) with
    | true =>
     have e : namB v.kind v.space v.name = (false) := by unfold namB; rw [hsp, hI]; simp [ha, hc]
     rw [e]; exact named_6 v w hI ha hb hc
    | false =>
     have e : namB v.kind v.space v.name = false := by unfold namB; rw [hsp, hI]; simp [ha]
     rw [e]; exact named_4 v w hI ha
 ·skip
  cases hI : inSp v.kind with
  | true =>
   cases ha : labB v.space.data.toList with
   | true =>
    have e : namB v.kind v.space v.name = (false) := by unfold namB; rw [hsp, hI]; simp [ha, hb]
    rw [e]; exact named_1 v w hI ha hb
   | false =>
    have e : namB v.kind v.space v.name = false := by unfold namB; rw [hsp, hI]; simp [ha]
    rw [e]; exact named_0 v w hI ha
  | false =>
   cases ha : (v.space.toList == []) with
   | true =>
    have e : namB v.kind v.space v.name = (false) := by unfold namB; rw [hsp, hI]; simp [ha, hb]
    rw [e]; exact named_5 v w hI ha hb
   | false =>
    have e : namB v.kind v.space v.name = false := by unfold namB; rw [hsp, hI]; simp [ha]
    rw [e]; exact named_4 v w hI ha

/-- What is asked of an object. -/
def askE (v : OV) : Nat := if namB v.kind v.space v.name = true then (if 8192 < v.n then 3 else 0) else 9

set_option maxHeartbeats 1000000 in
theorem asked_any (v : OV) (w : World) (ea : Nat → Addr) (hE : Errs w ea) :
  Calls Tryz.prog 40 #[.agg #[.int .i64 v.kind, .string v.space, .string v.name, .int .i64 v.ver, .slice v.A v.n v.c]] w fun e w' => e = .returned (errOf ea (askE v)) ∧ Below w.heap.size w w' := by
 obtain ⟨w1, hw1, B, hB, hb1, hr1⟩ := box_obj w v
 have HB1 := Hj hb1
 have HRow := Hj hr1
 have HW1 := Hj hw1
 have HBE := Hj hB
 have HV1 : Hid (VB w1 B v) := Hj (VB.of_row hr1)
 obtain ⟨vb0, vb1, vb2, vb3, vb4⟩ := HV1.out
 clear hb1 hr1 hw1 hB
 have HE := Hj hE
 have HN := Hj (named_any v w1)
 have HAsk : Hid (askE v = if namB v.kind v.space v.name = true then (if 8192 < v.n then 3 else 0) else 9) := Hj rfl
 clear hE
 have HArm : Hid (∀ w2, Below w1.heap.size w1 w2 → VB w2 B v ∧ w2.cell? ⟨13, 0, none⟩ = some (ErrVal (ea 9)) ∧ w2.cell? ⟨7, 0, none⟩ = some (ErrVal (ea 3))) := Hj fun w2 h2 => by
  have hE2 := HE.out.below (HB1.out.trans (h2.mono HB1.out.size))
  exact ⟨VB.of_row ((h2.block B (Cz HRow.out)).trans HRow.out), hE2.cell 9 (by omega) (by omega), hE2.cell 3 (by omega) (by omega)⟩
 cases hn : namB v.kind v.space v.name with
 | false =>
  rw [hn] at HN HAsk
  clear hn
  go_enter Tryz.func40, Tryz.ntmps40
  go_wp2_with (go_at_call 54; rw [← HW1.out]; (with_reducible refine HN.out.mono ?_); rintro e w2 ⟨rfl, hb2⟩; have HB2 := Hj hb2; obtain ⟨⟨v20, v21, v22, v23, v24⟩, c9, c3⟩ := HArm.out w2 hb2; unfold ErrVal at c9 c3; try (rw [← HBE.out]); clear hb2)
  go_ret
  exact ⟨by rw [HAsk.out]; rfl, HB1.out.trans (HB2.out.mono HB1.out.size)⟩
 | true =>
  rw [hn] at HN HAsk
  clear hn
  by_cases hl : 8192 < v.n
  ·have HAsk2 : Hid (askE v = 3) := Hj (by rw [HAsk.out, if_pos rfl, if_pos hl])
   have hl2 : (8192 : Int) < (v.n : Int) := by omega
   clear hl
   go_enter Tryz.func40, Tryz.ntmps40
   go_wp2_with (go_at_call 54; rw [← HW1.out]; (with_reducible refine HN.out.mono ?_); rintro e w2 ⟨rfl, hb2⟩; have HB2 := Hj hb2; obtain ⟨⟨v20, v21, v22, v23, v24⟩, c9, c3⟩ := HArm.out w2 hb2; unfold ErrVal at c9 c3; try (rw [← HBE.out]); clear hb2)
   go_ret
   exact ⟨by rw [HAsk2.out]; rfl, HB1.out.trans (HB2.out.mono HB1.out.size)⟩
  ·have HAsk2 : Hid (askE v = 0) := Hj (by rw [HAsk.out, if_pos rfl, if_neg hl])
   have hl2 : ¬ (8192 : Int) < (v.n : Int) := by omega
   clear hl
   go_enter Tryz.func40, Tryz.ntmps40
   go_wp2_with (go_at_call 54; rw [← HW1.out]; (with_reducible refine HN.out.mono ?_); rintro e w2 ⟨rfl, hb2⟩; have HB2 := Hj hb2; obtain ⟨⟨v20, v21, v22, v23, v24⟩, c9, c3⟩ := HArm.out w2 hb2; unfold ErrVal at c9 c3; try (rw [← HBE.out]); clear hb2)
   go_ret
   exact ⟨by rw [HAsk2.out]; rfl, HB1.out.trans (HB2.out.mono HB1.out.size)⟩

theorem serL_len {k : Int} (h : k ≤ 9223372036854775807) : (serL k).length ≤ 19 := by
 unfold serL
 split
 ·simp
 ·rw [List.length_reverse]; exact lowD_len 18 _ (by omega)
theorem strB_size (l : List UInt8) : (strB l).size = l.length := by rw [← size_data, strB_data]
theorem rowL_len {k : Int} (h : k ≤ 9223372036854775807) {space : ByteArray} (hs : space.size ≤ 1000) : (rowL k space).length ≤ 1021 := by
 have := serL_len h
 unfold rowL
 simp [List.length_append]
 omega
theorem row_any (kind : Int) (space : ByteArray) (w : World) (hk : kind ≤ 9223372036854775807) (hs : space.size ≤ 1000) :
  Calls Tryz.prog 51 #[.int .i64 kind, .string space] w fun e w' => e = .returned (.string (strB (rowL kind space))) ∧ Below w.heap.size w w' := by
 have HS := Hj (Serial_any kind w hk)
 have hs1 : (strB (serL kind)).size ≤ 19 := by rw [strB_size]; exact serL_len hk
 obtain ⟨s1, hs1e⟩ : ∃ s, s = strB (serL kind) := ⟨_, rfl⟩
 rw [← hs1e] at HS hs1
 have HS1 := Hj hs1e
 clear hk hs1e
 go_enter Tryz.func51, Tryz.ntmps51
 go_wp2_with (go_at_call 99; (with_reducible refine HS.out.mono ?_); rintro e w2 ⟨rfl, hb2⟩; have HB2 := Hj hb2; clear hb2)
 go_ret
 refine ⟨congrArg (fun s => Ending.returned (.string s)) ?_, HB2.out⟩
 rw [HS1.out]
 exact ByteArray.ext (by simp [strB, rowL])

set_option maxHeartbeats 1000000 in
theorem key_any (v : OV) (w : World) (hk : v.kind ≤ 9223372036854775807) (hs : v.space.size ≤ 1000) (hn : v.name.size ≤ 1000) :
  Calls Tryz.prog 38 #[.agg #[.int .i64 v.kind, .string v.space, .string v.name, .int .i64 v.ver, .slice v.A v.n v.c]] w fun e w' => e = .returned (.string (keyB v.kind v.space v.name)) ∧ Below w.heap.size w w' := by
 obtain ⟨w1, hw1, B, hB, hb1, hr1⟩ := box_obj w v
 have HB1 := Hj hb1
 have HRow := Hj hr1
 have HW1 := Hj hw1
 have HBE := Hj hB
 have HV1 : Hid (VB w1 B v) := Hj (VB.of_row hr1)
 obtain ⟨vb0, vb1, vb2, vb3, vb4⟩ := HV1.out
 clear hb1 hr1 hw1 hB
 have HR : Hid (∀ W, Calls Tryz.prog 51 #[.int .i64 v.kind, .string v.space] W fun e w' => e = .returned (.string (strB (rowL v.kind v.space))) ∧ Below W.heap.size W w') := Hj fun W => row_any v.kind v.space W hk hs
 have hs1 : (strB (rowL v.kind v.space)).size ≤ 1021 := by rw [strB_size]; exact rowL_len hk hs
 obtain ⟨s1, hs1e⟩ : ∃ s, s = strB (rowL v.kind v.space) := ⟨_, rfl⟩
 rw [← hs1e] at HR hs1
 have HS1 := Hj hs1e
 have hcat : ¬ 9223372036854775807 < s1.size + v.name.size := by omega
 clear hk hs1e hs hn
 go_enter Tryz.func38, Tryz.ntmps38
 go_wp2
 rw [← HW1.out, ← HBE.out]
 refine wp_region_noPanic ?_
 refine wp_region_held_drew (S := (fun w' => w'.cell? ⟨B, 0, none⟩ = some (.int .i64 v.kind) ∧ w'.cell? ⟨B, 1, none⟩ = some (.string v.space) ∧ w'.cell? ⟨B, 2, none⟩ = some (.string v.name) ∧ w'.cell? ⟨B, 3, none⟩ = some (.int .i64 v.ver) ∧ w'.cell? ⟨B, 4, none⟩ = some (.slice v.A v.n v.c))) (by kernel_rfl) ?_ (fun hHeld => ?_)
 ·exact HV1.out
 refine tk 0 hHeld ?_
 try simp only [pa]
 refine tk 1 hHeld ?_
 try simp only [pa]
 refine tk 2 hHeld ?_
 try simp only [pa]
 refine tk 3 hHeld ?_
 try simp only [pa]
 refine tk 5 hHeld ?_
 try simp only [pa]
 refine tk 6 hHeld ?_
 try simp only [pa]
 refine rd1 4 rfl (fun K hK => ?_)
 go_simp
 refine (HR.out w1.drew).mono ?_
 rintro e w5 ⟨rfl, hb5⟩
 have HB5 : Hid (Below w1.heap.size w1 w5) := Hj ⟨hb5.os, hb5.tape, hb5.output, hb5.size, hb5.block⟩
 have HV5 : Hid (VB w5 B v) := Hj (VB.of_row ((hb5.block B (Cz HRow.out)).trans HRow.out))
 clear hb5
 refine hK.out _ _ ?_ (fun hHeld => ?_)
 ·exact HV5.out
 clear hK K
 try simp only [pa]
 refine tk 7 hHeld ?_
 try simp only [pa]
 refine tk 8 hHeld ?_
 try simp only [pa]
 refine wpAnyH_done (by kernel_rfl) ?_ _
 refine NoPanic.normal ?_
 go_wp2
 go_ret
 refine ⟨congrArg (fun s => Ending.returned (.string s)) ?_, HB1.out.trans (HB5.out.mono HB1.out.size)⟩
 rw [HS1.out]
 exact ByteArray.ext (by simp [strB, keyB])

theorem results_cell1 {fn : Func} {p : Tmp} {ty : TypeId} (tmps : Array Value) {w : World} {g : Nat} {t : TypeId} {cs : Array Value} {fr : Nat × Nat} {P : Program} {fields : Array Field} (h : fn.results = #[.cell p ty]) (hp : tmps.getD p undef = .pointer (some ⟨g, 0, none⟩)) (hg : w.heap[g]? = some (.cells cs t fr))
  (hu : P.underlying ty = some (.struct fields)) (hi : (P.info? ty).map (·.size) = some cs.size) : (results fn tmps).run P w = .ok (.agg cs) w := by
 have hp' : tmps[p]?.getD undef = .pointer (some ⟨g, 0, none⟩) := by simpa using hp
 simp [results, h, hp', asAddr, run_loadVar_row (P := P) w g t ty cs fr _ hg hu rfl hi]

set_option maxHeartbeats 1000000 in
theorem copied_obj (v : OV) (w : World) (data : List UInt8) (hd : RB w v.A v.n data) (hn : v.n ≤ 1000000) :
  Calls Tryz.prog 39 #[.agg #[.int .i64 v.kind, .string v.space, .string v.name, .int .i64 v.ver, .slice v.A v.n v.c]] w fun e w' => ∃ A1 c1, e = .returned (.agg #[.int .i64 v.kind, .string v.space, .string v.name, .int .i64 v.ver, .slice A1 v.n c1]) ∧ OB w' w.heap.size (.slice A1 v.n c1) data ∧ Below w.heap.size w w' := by
 obtain ⟨w1, hw1, B, hB, hb1, hr1⟩ := box_obj w v
 have HB1 := Hj hb1
 have HRow := Hj hr1
 have HW1 := Hj hw1
 have HBE := Hj hB
 have HV1 : Hid (VB w1 B v) := Hj (VB.of_row hr1)
 obtain ⟨vb0, vb1, vb2, vb3, vb4⟩ := HV1.out
 clear hb1 hr1 hw1 hB
 have hb2 := (Below.refl w1.heap.size w1).alloc Kj (.cells #[.int .i64 0, .string ⟨#[]⟩, .string ⟨#[]⟩, .int .i64 0, .slice none 0 0] 26)
 have hr2 := heap_alloc_new w1 (.cells #[.int .i64 0, .string ⟨#[]⟩, .string ⟨#[]⟩, .int .i64 0, .slice none 0 0] 26)
 obtain ⟨w2, hw2⟩ : ∃ W, W = w1.alloc (.cells #[.int .i64 0, .string ⟨#[]⟩, .string ⟨#[]⟩, .int .i64 0, .slice none 0 0] 26) := ⟨_, rfl⟩
 rw [← hw2] at hb2 hr2
 have hs1 : w1.heap.size = B + 1 := by rw [HW1.out, HBE.out]; simp
 rw [hs1] at hr2
 have HB2 : Hid (Below w.heap.size w w2) := Hj (HB1.out.trans (hb2.mono HB1.out.size))
 have hrow2 : w2.heap[B]? = some (.cells #[.int .i64 v.kind, .string v.space, .string v.name, .int .i64 v.ver, .slice v.A v.n v.c] 26 (0, 0)) := (hb2.block B (Cz HRow.out)).trans HRow.out
 have HC := Hj (Clone_any v.A v.n v.c data w2 (hd.keep (Kz (HB2.out))) (by omega))
 have HDL : Hid (data.length = v.n) := Hj hd.1
 have HR2 := Hj hr2
 have HRow2 := Hj hrow2
 have HW2 : Hid (w2 = (w.alloc (.cells #[.int .i64 v.kind, .string v.space, .string v.name, .int .i64 v.ver, .slice v.A v.n v.c] 26)).alloc (.cells #[.int .i64 0, .string ⟨#[]⟩, .string ⟨#[]⟩, .int .i64 0, .slice none 0 0] 26)) := Hj (by rw [hw2, HW1.out])
 obtain ⟨b20, b21, b22, b23, b24⟩ := VB.of_row hrow2
 rw [HDL.out] at HC
 have HS1 := Hj hs1
 clear hb2 hr2 hw2 hs1 hrow2 hd hn vb0 vb1 vb2 vb3 vb4
 go_enter Tryz.func39, Tryz.ntmps39
 go_wp2_with (go_at_call 78; rw [← HW2.out]; (with_reducible refine HC.out.mono ?_); rintro e w3 ⟨A1, c1, rfl, ho3, hb3⟩; have HO3 := Hj ho3; have HB3 := Hj hb3; have hrow3 := (hb3.block B (Cz HRow2.out)).trans HRow2.out; have HR3 := Hj ((hb3.block (B + 1) (Cz HR2.out)).trans HR2.out); have HRow3 := Hj hrow3; obtain ⟨b30, b31, b32, b33, b34⟩ := VB.of_row hrow3; obtain ⟨d30, d31, d32, d33, d34⟩ := VB.of_row (v := ⟨0, ⟨#[]⟩, ⟨#[]⟩, 0, none, 0, 0⟩) HR3.out; have f3 : ∀ k, w3.frozen? ⟨B, k, none⟩ = false := (fun k => Kx hrow3); have g3 : ∀ k, w3.frozen? ⟨B + 1, k, none⟩ = false := (fun k => Kx HR3.out); rw [← HBE.out]; clear ho3 hb3 hrow3)
 have hF : Fr (fun k => k = B ∨ k = B + 1) w3 ((((((w3.setCell ⟨B, 4, none⟩ (.slice A1 v.n c1)).setCell ⟨B + 1, 0, none⟩ (.int .i64 v.kind)).setCell ⟨B + 1, 1, none⟩ (.string v.space)).setCell ⟨B + 1, 2, none⟩ (.string v.name)).setCell ⟨B + 1, 3, none⟩ (.int .i64 v.ver)).setCell ⟨B + 1, 4, none⟩ (.slice A1 v.n c1)) :=
  ((((((Fr.refl _ w3).setCell (p := ⟨B, 4, none⟩) (fun _ => .inl rfl) _).setCell (p := ⟨B + 1, 0, none⟩) (fun _ => .inr rfl) _).setCell (p := ⟨B + 1, 1, none⟩) (fun _ => .inr rfl) _).setCell (p := ⟨B + 1, 2, none⟩) (fun _ => .inr rfl) _).setCell (p := ⟨B + 1, 3, none⟩) (fun _ => .inr rfl) _).setCell (p := ⟨B + 1, 4, none⟩) (fun _ => .inr rfl) _
 have hR3' := (Below.heap_setCell w3 ⟨B, 4, none⟩ (.slice A1 v.n c1) (B + 1) (fun e => Nat.succ_ne_self B e)).trans HR3.out
 refine bodyPost_ret (results_cell1 _ rfl rfl (st5 hR3') Tryz.underlying26 info_obj) rfl ⟨A1, c1, rfl, ?_, ?_⟩
 ·refine OB.mono (OB.keepB HO3.out fun k hk => hF.block k (HO3.out.lt k hk).2 fun e => ?_) HB2.out.size
  obtain ⟨cur, hcur⟩ := own_type HO3.out hk
  rcases e with rfl | rfl
  ·exact absurd (types_ne hcur HRow3.out) (by decide)
  ·exact absurd (types_ne hcur HR3.out) (by decide)
 ·have hbw := HB2.out.trans (HB3.out.mono HB2.out.size)
  exact hbw.trans (hF.below hbw.size fun i _ e => by rw [← HBE.out]; omega)

end Go.Proofs.YtfmagnpmjlppiaaGreatDoor
