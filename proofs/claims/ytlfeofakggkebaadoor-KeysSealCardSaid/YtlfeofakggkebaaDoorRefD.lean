/- The reference's Sum: the rounds' words are added. -/
import Derived.Test.YtlfeofakggkebaaDoorRefC
namespace Go.Proofs.YtlfeofakggkebaaDoor
open Go.RowKit

def IsFRd (a : Act) (s2 s3 s6 s7 s8 s9 s17 s277 s278 : Value) : Prop := IsFR a s2 s3 s6 s7 s8 s9 s17 ∧ Act.slot a 277 = s277 ∧ Act.slot a 278 = s278

set_option maxHeartbeats 4000000 in
set_option maxRecDepth 100000 in
theorem refD_exit (fr : Act) (s2 s3 s6 s7 s8 s9 s17 : Value) (w : World) (Q : Exit → Act → World → Prop)
    (hfr : IsFRd fr s2 s3 s6 s7 s8 s9 s17 (.int .i64 8) (.int .i64 (8 : Nat)))
    (hQ : ∀ (fr' : Act), IsFR fr' s2 s3 s6 s7 s8 s9 s17 → Q (.exit 12) fr' w) :
    Code.wp Tryd.prog (lpOf Tryd.f96.body 6) Q fr w := by
  have HQ := Lib.hid hQ
  clear hQ
  obtain ⟨hfr, h7, h8⟩ := hfr
  unfold IsFR at hfr
  generalize Act.slot fr = f at *
  subst hfr
  unfold FR
  rw [h7, h8]
  conv => arg 2; whnf
  clear h7 h8
  go_wp2
  exact HQ.out _ rfl

set_option maxHeartbeats 4000000 in
set_option maxRecDepth 100000 in
theorem refD_body (fr : Act) (s2 s3 s6 s8 s9 : Value) (bh b o c i : Nat) (S v : W8) (w : World) (Q : Exit → Act → World → Prop)
    (hfr : IsFRd fr s2 s3 s6 (.slice (some ⟨bh, 0, none⟩) 8 8) s8 s9 (.slice (some ⟨b, o, none⟩) 8 c) (.int .i64 8) (.int .i64 (i : Int)))
    (hi : i < 8) (hv : ∀ k, k < 8 → w.cell? ⟨b, o + k, none⟩ = some (.int .i64 ((v.list.getD k 0).toNat : Int)))
    (hh : w.heap[bh]? = some (.cells (icells (mix S v i)).toArray 3 (0, 0)))
    (hQ : ∀ (fr' : Act) (w' : World), IsFRd fr' s2 s3 s6 (.slice (some ⟨bh, 0, none⟩) 8 8) s8 s9 (.slice (some ⟨b, o, none⟩) 8 c) (.int .i64 8) (.int .i64 ((i : Int) + 1)) →
      w'.heap[bh]? = some (.cells (icells (mix S v (i + 1))).toArray 3 (0, 0)) → Fr (· = bh) w w' → Q .normal fr' w') :
    Code.wp Tryd.prog (lpOf Tryd.f96.body 6) Q fr w := by
  have HQ := Lib.hid hQ
  have HH := Lib.hid hh
  have v0 := hv i hi
  have h0 : w.cell? ⟨bh, i, none⟩ = some (.int .i64 ((S.list.getD i 0).toNat : Int)) := by
    rw [cell_of_row _ _ _ _ _ _ hh]
    have := mix_get S v i hi
    simp [icells, this]
  have f0 : w.frozen? ⟨bh, i, none⟩ = false := frozen_of_row _ _ _ _ _ hh
  have HX := Lib.hid (mix_succ S v i hi)
  have HZ := Lib.hid (mix_size S v i hi)
  clear hQ hv hh
  generalize v.list.getD i 0 = vk at *
  generalize S.list.getD i 0 = sk at *
  obtain ⟨hfr, h7, h8⟩ := hfr
  unfold IsFR at hfr
  generalize Act.slot fr = f at *
  subst hfr
  unfold FR
  rw [h7, h8]
  conv => arg 2; whnf
  clear h7 h8
  have i0 : (0 : Int) ≤ (i : Int) := by omega
  have i1 : (i : Int) < 8 := by omega
  have mv := vk.toNat_lt
  have ms := sk.toNat_lt
  have y1 : IntKind.i64.wrap ((sk.toNat : Int) + (vk.toNat : Int)) = (sk.toNat : Int) + (vk.toNat : Int) := IntWalk.i64_in _ (by omega)
  go_wp2_with fail
  go_still_tail 12, (by kernel_rfl)
  change wpList _ _ _ _ _ w.drew
  go_wp2
  refine HQ.out _ _ ⟨rfl, rfl, rfl⟩ ?_ ((Fr.refl (· = bh) w).setCell (p := ⟨bh, i, none⟩) (fun _ => rfl) _).drew
  show (w.setCell ⟨bh, i, none⟩ _).heap[bh]? = _
  refine (heap_setCell_same _ _ _ _ _ _ HH.out).trans ?_
  have e : bits .and .i64 ((sk.toNat : Int) + (vk.toNat : Int)) 4294967295 = ((sk + vk).toNat : Int) := by
    rw [show ((sk.toNat : Int) + (vk.toNat : Int)) = ((sk.toNat + vk.toNat : Nat) : Int) by omega, i64_mask _ (by omega), UInt32.toNat_add]
  rw [e, HX.out, List.setIfInBounds_toArray]
  simp [icells, List.map_set]

set_option maxRecDepth 100000 in
theorem refD (fr : Act) (s2 s3 s6 s8 s9 : Value) (bh b o c : Nat) (S v : W8) (w : World) (Q : Exit → Act → World → Prop)
    (hfr : IsFRd fr s2 s3 s6 (.slice (some ⟨bh, 0, none⟩) 8 8) s8 s9 (.slice (some ⟨b, o, none⟩) 8 c) (.int .i64 8) (.int .i64 0))
    (hne : b ≠ bh) (hv : ∀ k, k < 8 → w.cell? ⟨b, o + k, none⟩ = some (.int .i64 ((v.list.getD k 0).toNat : Int)))
    (hh : w.heap[bh]? = some (.cells (icells S.list).toArray 3 (0, 0)))
    (hQ : ∀ (fr' : Act) (w' : World), IsFR fr' s2 s3 s6 (.slice (some ⟨bh, 0, none⟩) 8 8) s8 s9 (.slice (some ⟨b, o, none⟩) 8 c) →
      w'.heap[bh]? = some (.cells (icells (S.add v).list).toArray 3 (0, 0)) → Fr (· = bh) w w' → Q (.exit 12) fr' w') :
    Code.wp Tryd.prog (.loop (lpOf Tryd.f96.body 6)) Q fr w := by
  refine wp_loop_ghost (fun n a w' => ∃ (i : Nat), i + n = 8 ∧ IsFRd a s2 s3 s6 (.slice (some ⟨bh, 0, none⟩) 8 8) s8 s9 (.slice (some ⟨b, o, none⟩) 8 c) (.int .i64 8) (.int .i64 (i : Int)) ∧
    w'.heap[bh]? = some (.cells (icells (mix S v i)).toArray 3 (0, 0)) ∧ Fr (· = bh) w w') 8 ⟨0, rfl, hfr, hh, Fr.refl _ _⟩ ?_
  rintro n a w1 ⟨i, hin, hfr1, hh1, hf1⟩
  by_cases hi : i < 8
  · refine refD_body a s2 s3 s6 s8 s9 bh b o c i S v w1 _ hfr1 hi (fun k hk => ?_) hh1 ?_
    · exact (hf1.cell (p := ⟨b, o + k, none⟩) (World.block_lt_of_cell? w _ (hv k hk)) hne).trans (hv k hk)
    · intro fr' w2 hfr2 hh2 hf2
      exact ⟨n - 1, by omega, i + 1, by omega, hfr2, hh2, hf1.trans hf2 (fun _ _ h => h)⟩
  · obtain rfl : i = 8 := by omega
    exact refD_exit a _ _ _ _ _ _ _ w1 _ hfr1 (fun fr' h => hQ fr' _ h hh1 hf1)
end Go.Proofs.YtlfeofakggkebaaDoor
