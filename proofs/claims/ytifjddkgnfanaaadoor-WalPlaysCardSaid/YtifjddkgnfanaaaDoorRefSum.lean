/- The reference's Sum. -/
import Derived.Test.YtifjddkgnfanaaaDoorRefP
namespace Go.Proofs.YtifjddkgnfanaaaDoor
open Go.RowKit

def zeros32 : Array Value := Array.replicate 32 (.int .u8 0)

set_option maxHeartbeats 4000000 in
set_option maxRecDepth 100000 in
theorem RefSum_any (A : Option Addr) (n c : Nat) (l : List UInt8) (w : World) (hb : RB w A n l) (hn : n ≤ 549755813888) :
    Calls Tryd.prog 76 #[.slice A n c] w fun e w' => e = .returned (.agg (bcells (shaB kfun htab l)).toArray) ∧ Below w.heap.size w w' := by
  have Hb := Lib.hid hb
  have Hl := Lib.hid hb.1
  clear hb
  have ka : ∀ o p, Keeps w ((w.alloc o).alloc p) := fun o p => Keeps.of_below (((Below.refl _ w).alloc (Nat.le_refl _) o).alloc (by simp) p)
  have hl0 : ∀ o, Hid (OB ((w.alloc o).alloc (.cells (bcells []).toArray 5)) (w.heap.size + 1) (.slice (some ⟨w.heap.size + 1, 0, none⟩) 0 0) []) := fun o => by
    have := OB.lit (w.alloc o) (w.heap.size + 1) (by simp) [] 0 rfl (by decide)
    simp only [show (w.alloc o).heap.size = w.heap.size + 1 by simp] at this
    exact this
  go_enter Tryd.func76, Tryd.ntmps76
  go_wp2_with (first
    | (at_builtin; (refine wpList_append_b rfl (.tmp 28) (.tmp 29) 28 rfl (hl0 _).out rfl (RB.src Tryd.underlying28 (Hb.out.keep (ka _ _))) rfl (by have := Hl.out; simp; omega) (by simp) ?_; intro v1 w1 hown1 hgr1 hat1; rw [List.nil_append] at hown1; obtain ⟨A1, cap1, hv1, hc1, hm1, hr1⟩ := hown1.form; rw [Hl.out] at hv1 hc1; subst hv1; have Hown1 := Lib.hid hown1; have Hgr1 := Lib.hid hgr1; have Hat1 := Lib.hid hat1; have hs1 := Lib.hid (show w.heap.size + 2 ≤ w1.heap.size by have := hgr1.size; simpa using this); clear hown1 hgr1 hat1 hr1))
    | (at_builtin; (refine wpList_append_b rfl (.tmp 31) (.tmp 32) 28 rfl (Hown1.out.alloc _) rfl (Src.lit w1 _ [128] rfl 1 1 rfl) rfl (by have := Hl.out; simp; omega) (by have := hs1.out; simp; omega) ?_; intro v2 w2 hown2 hgr2 hat2; obtain ⟨A2, cap2, hv2, hc2, hm2, hr2⟩ := hown2.form; rw [show (l ++ [(128 : UInt8)]).length = n + 1 by rw [List.length_append, Hl.out]; rfl] at hv2 hc2; subst hv2; have Hown2 := Lib.hid hown2; have Hgr2 := Lib.hid hgr2; have hs2 := Lib.hid (show w.heap.size + 2 ≤ w2.heap.size by have := hgr2.size; have := hs1.out; simp at *; omega); clear hown2 hgr2 hat2 hr2))
    | fail)
  have Hb2 : Hid (Below (w.heap.size + 1) (w.alloc (.cells zeros32 114)) w2) := by
    have h1 := below_append (B := w.heap.size + 1) ((Below.refl _ _).alloc (by simp) _) Hgr1.out (hl0 _).out (Nat.le_refl _) (by simp)
    exact below_append (h1.alloc (by have := hs1.out; omega) _) Hgr2.out (Hown1.out.alloc _) (Nat.le_refl _) (by have := hs1.out; simp; omega)
  clear Hgr1 Hgr2 Hat1 Hown1 hl0 ka
  refine refP _ A2 cap2 (w.heap.size + 1) n l w2 _ (.slice A n c) (.pointer (some ⟨w.heap.size, 0, none⟩)) rfl rfl rfl rfl Hl.out hn (by have := hs2.out; omega) Hown2.out ?_
  intro fr3 w3 A3 cap3 b0 b00 b2 b3 hown3 hbel3
  have Hown3 := Lib.hid hown3
  have Hb3 := Lib.hid (Hb2.out.trans hbel3)
  have Hs3 := Lib.hid (show w.heap.size + 2 ≤ w3.heap.size by have := hbel3.size; have := hs2.out; omega)
  clear hown3 hbel3 Hb2 hs2 Hown2
  as_aux_lemma =>
    unfold IsF at b0
    generalize Act.slot fr3 = f3 at *
    subst b0
    unfold FR
    rw [b00, b2, b3]
    clear b00 b2 b3
    have h8 : IntKind.i64.wrap ((n : Int) * 8) = (n : Int) * 8 := by rw [IntWalk.i64_in _ (by omega)]
    go_wp2_with fail
    refine refQ _ A3 cap3 (w.heap.size + 1) n l w3 _ (.pointer (some ⟨w.heap.size, 0, none⟩)) rfl rfl rfl rfl rfl Hl.out hn (by have := Hs3.out; omega) Hown3.out ?_
    clear h8
    intro fr4 w4 A4 cap4 b0 b2 b3 hown4 hbel4
    have Hown4 := Lib.hid hown4
    have Hb4 := Lib.hid (Hb3.out.trans hbel4)
    have Hs4 := Lib.hid (show w.heap.size + 2 ≤ w4.heap.size by have := hbel4.size; have := Hs3.out; omega)
    clear hown4 hbel4 Hb3 Hs3 Hown3
    as_aux_lemma =>
      unfold IsF at b0
      generalize Act.slot fr4 = f4 at *
      subst b0
      unfold FR
      rw [b2, b3]
      clear b2 b3
      have Hall : Hid ((l ++ padOf n n).length = n + 1 + padZ n + 8) := by
        show _ = _
        have := Hl.out
        simp [padOf, lenBytes]; omega
      have Hfin : Hid (shaB kfun htab l = digest (blocks kfun htab (l ++ padOf n n)).1) := by
        show _ = _
        rw [shaB, Hl.out]
      generalize l ++ padOf n n = all at *
      have hM : ∃ M, n + 1 + padZ n + 8 = 64 * M := ⟨(n + 1 + padZ n + 8) / 64, by unfold padZ; omega⟩
      obtain ⟨M, hM⟩ := hM
      have HN : Hid (1 ≤ n + 1 + padZ n + 8 ∧ n + 1 + padZ n + 8 ≤ 549755814400) := by
        show _ ∧ _
        unfold padZ
        omega
      generalize n + 1 + padZ n + 8 = N at *
      have HM := Lib.hid hM
      clear hM
      obtain ⟨A5, cap5, hv5, _, _, hr5⟩ := Hown4.out.form
      rw [Hall.out] at hr5
      injection hv5 with e1 e2 e3
      subst e1
      clear e2 e3
      obtain ⟨ba, oa, e5, hc5⟩ := hr5.2 (by have := HN.out.1; omega)
      subst e5
      have Hc5 := Lib.hid hc5
      clear hr5 hc5
      go_wp2_with (first
        | (go_at_call 80; refine (Table_any w4).mono ?_; rintro e w5 ⟨rfl, hown5, hbel5⟩; have Hown5 := Lib.hid hown5; have Hbel5 := Lib.hid hbel5; clear hown5 hbel5)
        | (go_at_call 81; refine (First_any w5).mono ?_; rintro e w6 ⟨rfl, hw6⟩; have Hw6 := Lib.hid hw6; clear hw6)
        | fail)
      have Hk6 := Lib.hid (Hown5.out.ir rfl)
      have hcell6 : ∀ k, k < N → w6.cell? ⟨ba, oa + k, none⟩ = some (.int .u8 ((all.getD k 0).toNat : Int)) := fun k hk => by
        rw [Hw6.out]; exact Keeps.of_below ((Below.refl _ w5).alloc (Nat.le_refl _) _) _ _ (Keeps.of_below Hbel5.out _ _ (Hc5.out k hk))
      have hk5 : ∀ i, i < 64 → w5.cell? ⟨w4.heap.size, 0 + i, none⟩ = some (.int .i64 ((kfun i).toNat : Int)) := fun i hi => by
        obtain ⟨b', o', e, hc⟩ := Hk6.out.2 (by decide)
        injection e with e
        injection e with e1 e2
        subst e1; subst e2
        exact hc i hi
      have hk6 : ∀ i, i < 64 → w6.cell? ⟨w4.heap.size, 0 + i, none⟩ = some (.int .i64 ((kfun i).toNat : Int)) := fun i hi => by
        rw [Hw6.out]; exact Keeps.of_below ((Below.refl _ w5).alloc (Nat.le_refl _) _) _ _ (hk5 i hi)
      have hrow6 : w6.heap[w5.heap.size]? = some (.cells (icells htab.list).toArray 3 (0, 0)) := by
        rw [Hw6.out]
        exact heap_alloc_new w5 _
      have hlt5 : w4.heap.size < w5.heap.size := World.block_lt_of_cell? w5 _ (hk5 0 (by decide))
      have hba : ba < w4.heap.size := World.block_lt_of_cell? w4 _ (Hc5.out 0 (by have := HN.out.1; omega))
      have hb6 : Below (w.heap.size + 1) (w.alloc (.cells zeros32 114)) w6 := by
        rw [Hw6.out]
        exact (Hb4.out.trans (Hbel5.out.mono (by have := Hs4.out; omega))).alloc (by have := Hs4.out; omega) _
      refine refE _ _ _ _ w5.heap.size ba oa N M cap4 w4.heap.size 0 64 all w6 _ rfl HM.out HN.out.2 Hall.out hcell6 hk6 (by omega) (by omega) hrow6 ?_
      intro fr7 w7 t8 t9 t17 hfr7 hh7 hf7
      have Hh7 := Lib.hid hh7
      have Hb7 := Lib.hid (hb6.trans (hf7.below (B := w.heap.size + 1) (by have := hb6.size; simp at this; omega) (fun i hi e => by have := Hs4.out; omega)))
      have Hlt := Lib.hid (show w5.heap.size < w7.heap.size from (Array.getElem?_eq_some_iff.1 hh7).1)
      have Hs7 := Lib.hid (show w.heap.size + 2 ≤ w7.heap.size by have := hf7.size; have := Hs4.out; have := (Array.getElem?_eq_some_iff.1 hrow6).1; omega)
      clear hh7 hf7 hcell6 hk5 hk6 hrow6 hlt5 hba hb6 Hk6 Hown5 Hbel5 Hc5 Hown4 Hb4 Hs4 Hb
      as_aux_lemma =>
        unfold IsFR at hfr7
        generalize Act.slot fr7 = f7 at *
        subst hfr7
        unfold FR
        have HZ1 : Hid (zeros32.size = 32) := by show _ = _; rfl
        have HZ2 : Hid (zeros32.all (·.oneCell') = true) := by
          show _ = true
          rw [Array.all_eq_true_iff_forall_mem]
          intro y hy
          rw [Array.eq_of_mem_replicate hy]
          rfl
        go_wp2_with (first
          | (refine wpList_store_row rfl 114 (.tmp 24) (.tmp 295) rfl w7.heap.size zeros32 rfl rfl 114 _ (heap_alloc_new w7 _) (by rw [HZ1.out]; exact info_32) (by rw [HZ1.out]; rfl) HZ2.out ?_)
          | fail)
        refine refH _ w7.heap.size w5.heap.size (blocks kfun htab all).1 _ _ (.pointer (some ⟨w.heap.size, 0, none⟩)) rfl rfl rfl rfl rfl rfl (by have := Hlt.out; omega) ((setRow_other _ _ _ _ (by have := Hlt.out; omega)).trans ((Below.heap_alloc w7 _ _ Hlt.out).trans Hh7.out)) (setRow_heap _ _ _ _ _ _ (heap_alloc_new w7 _)) ?_
        intro fr8 w8 b0 b2 b24 hr8 hf8
        have Hz : Hid (w8.heap[w.heap.size]? = some (.cells zeros32 114 (0, 0))) := by
          show _ = _
          have h7 := (Hb7.out.block w.heap.size (by omega)).trans (heap_alloc_new w _)
          have h7' := (Array.getElem?_eq_some_iff.1 h7).1
          exact (hf8.block _ (by simp [World.setRow]; omega) (by have := Hs7.out; omega)).trans ((setRow_other _ _ _ _ (by have := Hs7.out; omega)).trans ((Below.heap_alloc w7 _ _ h7').trans h7))
        have Hb8 : Hid (Below w.heap.size w w8) := by
          have h1 : Below w.heap.size w w7 := ((Below.refl _ w).alloc (Nat.le_refl _) _).trans (Hb7.out.mono (by omega))
          have h2 := below_setRow (h1.alloc h1.size (Obj.cells zeros32 114)) (g := w7.heap.size) h1.size zeros32
          exact h2.trans (hf8.below (B := w.heap.size) (Nat.le_trans h1.size (by simp [World.setRow])) (fun i hi e => by have := Hs7.out; omega))
        have Hcur := Lib.hid hr8
        clear hr8 hf8
        have Hcs : Hid ((bcells (digest (blocks kfun htab all).1)).toArray.size = 32) := by
          show _ = _
          simp [bcells, digest_length]
        have HB1 : Hid ((bcells (digest (blocks kfun htab all).1)).toArray.all (·.oneCell') = true) := by
          show _ = true
          rw [Array.all_eq_true_iff_forall_mem]
          intro y hy
          exact bcells_one _ y (by simpa using hy)
        obtain ⟨cur, hcur⟩ : ∃ cur, cur = (bcells (digest (blocks kfun htab all).1)).toArray := ⟨_, rfl⟩
        rw [← hcur] at Hcur Hcs HB1
        have HCur := Lib.hid hcur
        clear hcur
        unfold IsF at b0
        generalize Act.slot fr8 = f8 at *
        subst b0
        unfold FR
        rw [b2, b24]
        clear b2 b24
        go_wp2_with (first
          | (refine wpList_load_row rfl 114 (.tmp 24) rfl w7.heap.size rfl 114 cur (0, 0) _ Hcur.out Tryd.underlying114 rfl (by rw [Hcs.out]; exact info_32) ?_)
          | (refine wpList_store_row rfl 114 (.tmp 2) (.tmp 320) rfl w.heap.size cur rfl rfl 114 _ Hz.out (by rw [Hcs.out]; exact info_32) (by rw [Hcs.out]; rfl) HB1.out ?_)
          | fail)
        refine bodyPost_ret (results_cell_row rfl _ _ w.heap.size 114 cur (0, 0) _ rfl (setRow_heap _ _ _ _ _ _ Hz.out) Tryd.underlying114 rfl (by rw [Hcs.out]; exact info_32)) rfl ⟨by rw [HCur.out, Hfin.out], ?_⟩
        have hb2 := Hb8.out
        exact ⟨hb2.os, hb2.tape, hb2.output, by simpa [World.setRow] using hb2.size, fun i hi => (setRow_other _ _ _ _ (by omega)).trans (hb2.block i hi)⟩
end Go.Proofs.YtifjddkgnfanaaaDoor
