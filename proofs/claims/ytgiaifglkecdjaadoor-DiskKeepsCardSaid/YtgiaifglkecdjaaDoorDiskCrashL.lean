/- disk: Crash, whole. -/
import Derived.Test.YtgiaifglkecdjaaDoorDiskCrash
namespace Go.Proofs.YtgiaifglkecdjaaDoor
open Go.RowKit
section
variable {w w1 w' : World} {O O' : Nat → Prop} {g : Nat} {m m' : DM} {bv bv' : Nat → Value} {wv : Value} {ws : List (DChg × Value)} {ea : Nat → Addr}

theorem DM.crash_eq (m : DM) (kept s torn : Int) (n first : Nat) (hn : m.waits.length = n) (hf : firstOf kept n = first) : m.crash kept s torn = { room := m.room, b := fun i => if i < 3 then (m.mid first s torn n).b i else (m.mid first s torn n).b (i - 3), waits := [], armed := false, left := 0, gone := false } := by
  subst hn
  subst hf
  rfl

theorem crash_cells (M : DM) (bv : Nat → Value) (wv v0 v1 v2 : Value) (f : Nat → List UInt8) : (((((((dcells M bv wv).setIfInBounds 4 v0).setIfInBounds 5 v1).setIfInBounds 6 v2).setIfInBounds 7 (.slice none 0 0)).setIfInBounds 8 (.bool false)).setIfInBounds 9 (.int .i64 0)).setIfInBounds 10 (.bool false) = dcells { room := M.room, b := f, waits := [], armed := false, left := 0, gone := false } (Go.Proofs.YtgiaifglkecdjaaDoor.putV 3 bv v0 v1 v2) (.slice none 0 0) := by
  simp [dcells, Go.Proofs.YtgiaifglkecdjaaDoor.putV]

/-- All that is sure is seen, nothing waits. -/
theorem crash_fin {W w2 : World} {M : DM} {v0 v1 v2 : Value} (h : DiskV w1 O g M bv wv ws) (hb : Below w1.heap.size w1 w2) (hrow : w2.heap[g]? = some (.cells (dcells M bv wv) 133 (0, 0)))
    (o0 : OB w2 w1.heap.size v0 (M.b 0)) (o1 : OB w2 w1.heap.size v1 (M.b 1)) (o2 : OB w2 w1.heap.size v2 (M.b 2)) (a0 : ∀ q, v0.ownBlock = some q → v1.ownBlock ≠ some q ∧ v2.ownBlock ≠ some q) (a1 : ∀ q, v1.ownBlock = some q → v2.ownBlock ≠ some q) (hW : W = ((((((w2.setCell ⟨g, 4, none⟩ v0).setCell ⟨g, 5, none⟩ v1).setCell ⟨g, 6, none⟩ v2).setCell ⟨g, 7, none⟩ (.slice none 0 0)).setCell ⟨g, 8, none⟩ (.bool false)).setCell ⟨g, 9, none⟩ (.int .i64 0)).setCell ⟨g, 10, none⟩ (.bool false)) :
    DiskV W (ext O w1 W) g { room := M.room, b := fun i => if i < 3 then M.b i else M.b (i - 3), waits := [], armed := false, left := 0, gone := false } (Go.Proofs.YtgiaifglkecdjaaDoor.putV 3 bv v0 v1 v2) (.slice none 0 0) [] ∧ Fr (fun k => k = g) w2 W := by
  subst hW
  have HFr := ((((((Fr.refl (fun k => k = g) w2).setCell (p := ⟨g, 4, none⟩) (fun _ => rfl) v0).setCell (p := ⟨g, 5, none⟩) (fun _ => rfl) v1).setCell (p := ⟨g, 6, none⟩) (fun _ => rfl) v2).setCell (p := ⟨g, 7, none⟩) (fun _ => rfl) (.slice none 0 0)).setCell (p := ⟨g, 8, none⟩) (fun _ => rfl) (.bool false)).setCell (p := ⟨g, 9, none⟩) (fun _ => rfl) (.int .i64 0)
  have HFr := HFr.setCell (p := ⟨g, 10, none⟩) (fun _ => rfl) (.bool false)
  have hc := heap_setCell_same _ g 10 _ _ (.bool false) (heap_setCell_same _ g 9 _ _ (.int .i64 0) (heap_setCell_same _ g 8 _ _ (.bool false) (heap_setCell_same _ g 7 _ _ (.slice none 0 0) (heap_setCell_same _ g 6 _ _ v2 (heap_setCell_same _ g 5 _ _ v1 (heap_setCell_same _ g 4 _ _ v0 hrow))))))
  rw [crash_cells M bv wv v0 v1 v2 (fun i => if i < 3 then M.b i else M.b (i - 3))] at hc
  exact ⟨h.putV (m' := { room := M.room, b := fun i => if i < 3 then M.b i else M.b (i - 3), waits := [], armed := false, left := 0, gone := false }) (off := 3) hb HFr hc o0 o1 o2 a0 a1
      (fun i h6 hi => by show (if i < 3 then M.b i else M.b (i - 3)) = M.b i; rw [if_pos (by omega)]) rfl, HFr⟩

set_option maxHeartbeats 2000000 in
set_option maxRecDepth 100000 in
theorem Crash_any (hV : DiskAt w O g m) (hok : m.Ok) (hw : m.waits.length ≤ 1000) (kept s torn : Int) (hs0 : 0 ≤ s) (hs1 : s ≤ 18446744073709551615) :
    Calls Tryd.prog 26 #[.pointer (some ⟨g, 0, none⟩), .int .i64 kept, .int .u64 s, .int .i64 torn] w fun e w' => e = .returned (.tuple #[]) ∧ DiskAt w' (ext O w w') g (m.crash kept s torn) ∧ Fr O w w' := by
  obtain ⟨bv, wv, ws, h⟩ := hV
  obtain ⟨A7, cw, e7, _, _⟩ := OwnS.form h.wts
  subst e7
  obtain ⟨n, hn⟩ : ∃ n, n = ws.length := ⟨_, rfl⟩
  have hnw : m.waits.length = n := by rw [← h.eq, List.length_map, hn]
  rw [← hn] at h
  have hn1 : n ≤ 1000 := by omega
  have c7 : w.cell? ⟨g, 7, none⟩ = some (.slice A7 n cw) := h.cell 7
  have H := Lib.hid h
  have HOK := Lib.hid hok
  have HN := Lib.hid hn
  have HNW := Lib.hid hnw
  clear h hok hw hn hnw
  have key : (((n : Int) < kept) = False ∧ ((0 : Int) < kept) = False ∧ Hid (firstOf kept n = 0)) ∨ (∃ k : Nat, kept = k ∧ (n < k) = False ∧ (0 < k) = True ∧ Hid (k ≤ n) ∧ Hid (firstOf kept n = k)) ∨ (((n : Int) < kept) = True ∧ (0 < n) = True ∧ Hid (firstOf kept n = n)) ∨ (((0 : Int) < kept) = True ∧ n = 0 ∧ Hid (firstOf kept n = 0)) := by
    by_cases k0 : kept ≤ 0
    · exact .inl ⟨eq_false (by omega), eq_false (by omega), Lib.hid (by unfold firstOf; omega)⟩
    · by_cases k1 : kept ≤ n
      · exact .inr (.inl ⟨kept.toNat, by omega, eq_false (by omega), eq_true (by omega), Lib.hid (by omega), Lib.hid (by unfold firstOf; omega)⟩)
      · by_cases k2 : n = 0
        · exact .inr (.inr (.inr ⟨eq_true (by omega), k2, Lib.hid (by unfold firstOf; omega)⟩))
        · exact .inr (.inr (.inl ⟨eq_true (by omega), eq_true (by omega), Lib.hid (by unfold firstOf; omega)⟩))
  have HFL : Hid (firstOf kept n ≤ n) := Lib.hid (by unfold firstOf; omega)
  have HCE := Lib.hid (m.crash_eq kept s torn n _ HNW.out rfl)
  rcases key with ⟨qa, qb, HF⟩ | ⟨k, rfl, qa, qb, HK, HF⟩ | ⟨qa, qb, HF⟩ | ⟨qa, rfl, HF⟩
  all_goals
    go_enter Tryd.func26, Tryd.ntmps26
    go_wp2
    refine crash_loop _ A7 _ cw (firstOf _ _) s torn w _ rfl rfl (by rw [HF.out]; rfl) rfl rfl rfl rfl rfl hn1 HFL.out hs0 hs1 H.out HN.out.symm HOK.out ?_
    intro fr1 w1 bv1 d0 e0 hv1 hf1
    clear qa
    have hh : ∃ M : DM, DiskV w1 (ext O w w1) g M bv1 _ ws ∧ M.Ok ∧ m.crash _ s torn = { room := M.room, b := fun i => if i < 3 then M.b i else M.b (i - 3), waits := [], armed := false, left := 0, gone := false } := ⟨_, hv1, HOK.out.mid _ _ _ _, HCE.out⟩
    obtain ⟨M, hv2, hMok, hMe⟩ := hh
    clear hv1 HCE
    have HME := Lib.hid hMe
    have l0 := hMok.len 0 (by omega)
    have l1 := hMok.len 1 (by omega)
    have l2 := hMok.len 2 (by omega)
    obtain ⟨A0, k0, z0, _, _⟩ := hv2.lenB (i := 0) (by omega)
    obtain ⟨A1, k1, z1, _, _⟩ := hv2.lenB (i := 1) (by omega)
    obtain ⟨A2, k2, z2, _, _⟩ := hv2.lenB (i := 2) (by omega)
    have c1 : w1.cell? ⟨g, 1, none⟩ = some (.slice A0 (M.b 0).length k0) := (hv2.cell 1).trans (congrArg some z0)
    have c2 : w1.cell? ⟨g, 2, none⟩ = some (.slice A1 (M.b 1).length k1) := (hv2.cell 2).trans (congrArg some z1)
    have c3 : w1.cell? ⟨g, 3, none⟩ = some (.slice A2 (M.b 2).length k2) := (hv2.cell 3).trans (congrArg some z2)
    have hr0 : RB w1 A0 (M.b 0).length (M.b 0) := by have := hv2.areas 0 (by omega); rw [z0] at this; exact RB.of_ownS this
    have hr1 : RB w1 A1 (M.b 1).length (M.b 1) := by have := hv2.areas 1 (by omega); rw [z1] at this; exact RB.of_ownS this
    have hr2 : RB w1 A2 (M.b 2).length (M.b 2) := by have := hv2.areas 2 (by omega); rw [z2] at this; exact RB.of_ownS this
    have HC := Lib.hid (copied_any A0 A1 A2 k0 k1 k2 _ _ _ w1 hr0 hr1 hr2 l0 l1 l2)
    have HV2 := Lib.hid hv2
    have HF1 := Lib.hid hf1
    have HOG := Lib.hid H.out.ownG
    have HGL := Lib.hid H.out.lt
    clear hr0 hr1 hr2 hMe hMok z0 z1 z2 hv2 hf1
    unfold IsC at d0
    generalize slotC fr1 = f at *
    subst d0
    unfold CF
    rw [e0]
    clear e0
    go_wp2_with (go_at_call 78; refine HC.out.mono ?_; rintro e w2 ⟨B0, B1, B2, d0, d1, d2, rfl, o0, o1, o2, a0, a1, hb2⟩; have hrow := row_below HV2.out.cells hb2; have m4 : w2.cell? ⟨g, 4, none⟩ = some (bv1 3) := cell_of_row _ _ 4 _ _ _ hrow; have m5 : w2.cell? ⟨g, 5, none⟩ = some (bv1 4) := cell_of_row _ _ 5 _ _ _ hrow; have m6 : w2.cell? ⟨g, 6, none⟩ = some (bv1 5) := cell_of_row _ _ 6 _ _ _ hrow; have m7 : w2.cell? ⟨g, 7, none⟩ = some _ := cell_of_row _ _ 7 _ _ _ hrow; have m8 : w2.cell? ⟨g, 8, none⟩ = some (.bool M.armed) := cell_of_row _ _ 8 _ _ _ hrow; have m9 : w2.cell? ⟨g, 9, none⟩ = some (.int .i64 M.left) := cell_of_row _ _ 9 _ _ _ hrow; have m10 : w2.cell? ⟨g, 10, none⟩ = some (.bool M.gone) := cell_of_row _ _ 10 _ _ _ hrow; have f4 : ∀ j, w2.frozen? ⟨g, j, none⟩ = false := fun j => frozen_of_row _ _ _ _ _ hrow; replace hrow := Lib.hid hrow; replace o0 := Lib.hid o0; replace o1 := Lib.hid o1; replace o2 := Lib.hid o2; replace a0 := Lib.hid a0; replace a1 := Lib.hid a1; replace hb2 := Lib.hid hb2)
    refine bodyPost_end (results_none rfl _ _ _) rfl ?_
    obtain ⟨hV, HFr⟩ := crash_fin HV2.out hb2.out hrow.out o0.out o1.out o2.out a0.out a1.out rfl
    have z1 := HF1.out.size
    have z2 := hb2.out.size
    have z3 := HFr.size
    rw [HME.out]
    refine ⟨rfl, ⟨_, _, _, hV.mono fun q hq ho => ?_⟩, ?_⟩
    · rcases ho with (ho | ho) | ho
      · exact .inl ho
      · exact .inr ⟨ho.1, hq⟩
      · exact .inr ⟨Nat.le_trans z1 ho.1, hq⟩
    · exact (HF1.out.trans (Fr.of_below (S := O) hb2.out) fun _ _ h => h).trans HFr fun q _ e => by subst e; exact HOG.out
end
end Go.Proofs.YtgiaifglkecdjaaDoor
