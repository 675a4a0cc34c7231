/- The reference's Sum: one block. -/
import Derived.Test.YtlfeofakggkebaaDoorRefD
namespace Go.Proofs.YtlfeofakggkebaaDoor
open Go.RowKit

set_option maxHeartbeats 4000000 in
set_option maxRecDepth 100000 in
theorem refE_body (fr : Act) (s2 s9 s17 : Value) (bh ba oa N cap b6 o6 c6 a : Nat) (all : List UInt8) (S : W8) (w : World) (Q : Exit → Act → World → Prop)
    (hfr : IsFR fr s2 (.slice (some ⟨ba, oa, none⟩) N cap) (.slice (some ⟨b6, o6, none⟩) 64 c6) (.slice (some ⟨bh, 0, none⟩) 8 8) (.int .i64 (a : Int)) s9 s17)
    (ha : a + 64 ≤ N) (hN : N ≤ 549755814400) (hc : ∀ k, k < N → w.cell? ⟨ba, oa + k, none⟩ = some (.int .u8 ((all.getD k 0).toNat : Int)))
    (hk : ∀ i, i < 64 → w.cell? ⟨b6, o6 + i, none⟩ = some (.int .i64 ((kfun i).toNat : Int)))
    (hh : w.heap[bh]? = some (.cells (icells S.list).toArray 3 (0, 0)))
    (hQ : ∀ (fr' : Act) (w' : World) (s9 s17 : Value), IsFR fr' s2 (.slice (some ⟨ba, oa, none⟩) N cap) (.slice (some ⟨b6, o6, none⟩) 64 c6) (.slice (some ⟨bh, 0, none⟩) 8 8) (.int .i64 ((a : Int) + 64)) s9 s17 →
      w'.heap[bh]? = some (.cells (icells (compress kfun S ((all.drop a).take 64)).list).toArray 3 (0, 0)) → Fr (· = bh) w w' → Q .normal fr' w') :
    Code.wp Tryd.prog (lpOf Tryd.f96.body 2) Q fr w := by
  have HQ := Lib.hid hQ
  have Hc := Lib.hid hc
  have Hk := Lib.hid hk
  have Hh := Lib.hid hh
  clear hQ hc hk hh
  unfold IsFR at hfr
  generalize Act.slot fr = f at *
  subst hfr
  unfold FR
  conv => arg 2; whnf
  have hlt : (a : Int) < (N : Int) := by omega
  have HN := Lib.hid hN
  have Ha := Lib.hid ha
  clear ha hN
  go_wp2_with fail
  refine refA _ s2 (.slice (some ⟨b6, o6, none⟩) 64 c6) (.slice (some ⟨bh, 0, none⟩) 8 8) s17 ba oa N cap a all w _ rfl rfl Ha.out HN.out Hc.out ?_
  intro fr1 w1 A1 c1 hfr1 hown1 hbel1
  have Hown1 := Lib.hid hown1
  have Hbel1 := Lib.hid hbel1
  clear hown1 hbel1
  unfold IsFR at hfr1
  generalize Act.slot fr1 = f1 at *
  subst hfr1
  unfold FR
  go_wp2_with fail
  have Hbw := Lib.hid (show w.heap.size ≤ w1.heap.size from Hbel1.out.size)
  refine refB _ s2 _ (.slice (some ⟨b6, o6, none⟩) 64 c6) (.slice (some ⟨bh, 0, none⟩) 8 8) (.int .i64 (a : Int)) s17 A1 c1 w.heap.size ((all.drop a).take 64) w1 _ rfl rfl Hbw.out Hown1.out ?_
  intro fr2 w2 A2 c2 hfr2 hown2 hbel2
  obtain ⟨_, _, hv2, _, _, hr2⟩ := hown2.form
  injection hv2 with e1 e2 e3
  subst e1
  clear e2 e3
  rw [sched_length] at hr2
  obtain ⟨b9, o9, e9, hw9⟩ := hr2.2 (by omega)
  subst e9
  have hbw2 : Below w.heap.size w w2 := Hbel1.out.trans hbel2
  have Hbw2 := Lib.hid hbw2
  have Hw9 := Lib.hid hw9
  clear hown2 hbel2 hr2 hw9 hbw2 Hown1 Hbel1 Hbw
  have hbh := (Array.getElem?_eq_some_iff.1 Hh.out).1
  have hrow2 : w2.heap[bh]? = some (.cells (icells S.list).toArray 3 (0, 0)) := (Hbw2.out.block bh hbh).trans Hh.out
  have hir : ∀ o, IR (w2.alloc o) (some ⟨bh, 0, none⟩) 8 S.list := fun o => ⟨rfl, fun _ => ⟨bh, 0, rfl, fun k hk => by
    rw [cell_of_row _ _ _ _ _ _ ((Below.heap_alloc w2 o bh (Array.getElem?_eq_some_iff.1 hrow2).1).trans hrow2), Nat.zero_add, List.getElem?_toArray]
    exact icells_get (l := S.list) hk⟩⟩
  have Hir := Lib.hid hir
  have Hlit := Lib.hid (OI.lit w2 w2.heap.size (Nat.le_refl _) [] 0 rfl (by decide))
  clear hir hrow2
  unfold IsFR at hfr2
  generalize Act.slot fr2 = f2 at *
  subst hfr2
  unfold FR
  go_wp2_with (first
    | (at_builtin; (refine wpList_append_i rfl (.tmp 155) (.tmp 156) 198 rfl Hlit.out rfl (IR.src (Hir.out _)) rfl (by simp [W8.list]) (by simp) ?_; intro v3 w3 hown3 hgr3 hat3))
    | fail)
  rw [List.nil_append] at hown3
  have hbel3 : Below w2.heap.size w2 w3 := below_append_i ((Below.refl _ w2).alloc (Nat.le_refl _) _) hgr3 Hlit.out (Nat.le_refl _) (by simp)
  obtain ⟨A3, c3, hv3, _, _, hr3⟩ := hown3.form
  subst hv3
  have hlt3 := hown3.lt
  obtain ⟨b3, o3, e3, hc3⟩ := hr3.2 (by simp [W8.list])
  subst e3
  have hb3 : w2.heap.size ≤ b3 := (hlt3 b3 rfl).1
  have Hbw3 := Lib.hid (Hbw2.out.trans (hbel3.mono Hbw2.out.size))
  have Hk3 := Lib.hid (Keeps.of_below hbel3)
  have Hc3 := Lib.hid hc3
  have Hb3 := Lib.hid hb3
  have Hz3 := Lib.hid hbel3.size
  clear hown3 hgr3 hat3 hbel3 hr3 hlt3 hc3 hb3
  replace Hk := Lib.hid (fun i hi => Keeps.of_below Hbw3.out _ _ (Hk.out i hi))
  refine refC _ s2 _ (.slice (some ⟨bh, 0, none⟩) 8 8) (.int .i64 (a : Int)) w2.heap.size b6 o6 c6 b9 o9 c2 b3 o3 c3 ((all.drop a).take 64) S w3 _ Hz3.out Hb3.out ⟨rfl, rfl⟩ Hk.out (fun i hi => Hk3.out _ _ (Hw9.out i hi)) Hc3.out ?_
  intro fr4 w4 b4 o4 c4 s18 hfr4 hv4 hbel4 hb4
  have Hv4 := Lib.hid hv4
  have Hbw4 := Lib.hid (Hbw3.out.trans (hbel4.mono Hbw3.out.size))
  have Hne := Lib.hid (show b4 ≠ bh by have := Hbw2.out.size; omega)
  clear hv4 hbel4 hb4
  obtain ⟨hfr4, h18⟩ := hfr4
  unfold IsFR at hfr4
  generalize Act.slot fr4 = f4 at *
  subst hfr4
  unfold FR
  clear h18
  go_wp2_with fail
  refine refD _ s2 _ (.slice (some ⟨b6, o6, none⟩) 64 c6) (.int .i64 (a : Int)) _ bh b4 o4 c4 S (rounds kfun (schedF ((all.drop a).take 64)) S 64) w4 _ ⟨rfl, rfl, rfl⟩ Hne.out Hv4.out ((Hbw4.out.block bh hbh).trans Hh.out) ?_
  intro fr5 w5 hfr5 hh5 hf5
  have Hh5 := Lib.hid hh5
  have Hf5 := Lib.hid ((Fr.of_below (S := (· = bh)) Hbw4.out).trans hf5 (fun _ _ h => h))
  clear hh5 hf5
  unfold IsFR at hfr5
  generalize Act.slot fr5 = f5 at *
  subst hfr5
  unfold FR
  have hov : (a : Int) + 64 ≤ 549755814400 := by have := HN.out; have := Ha.out; omega
  go_wp2_with fail
  exact HQ.out _ _ _ _ rfl Hh5.out Hf5.out

set_option maxHeartbeats 4000000 in
set_option maxRecDepth 100000 in
theorem refE_exit (fr : Act) (s2 s6 s7 s9 s17 : Value) (A : Option Addr) (N cap a : Nat) (w : World) (Q : Exit → Act → World → Prop)
    (hfr : IsFR fr s2 (.slice A N cap) s6 s7 (.int .i64 (a : Int)) s9 s17) (ha : N ≤ a)
    (hQ : ∀ (fr' : Act), IsFR fr' s2 (.slice A N cap) s6 s7 (.int .i64 (a : Int)) s9 s17 → Q (.exit 4) fr' w) :
    Code.wp Tryd.prog (lpOf Tryd.f96.body 2) Q fr w := by
  have HQ := Lib.hid hQ
  clear hQ
  unfold IsFR at hfr
  generalize Act.slot fr = f at *
  subst hfr
  unfold FR
  conv => arg 2; whnf
  have hlt : ¬ (a : Int) < (N : Int) := by omega
  go_wp2
  exact HQ.out _ rfl

theorem blocks_at (K : Nat → UInt32) (S0 S : W8) (all : List UInt8) (a N : Nat) (hN : all.length = N) (ha : a + 64 ≤ N) (h : blocks K S (all.drop a) = blocks K S0 all) :
    blocks K (compress K S ((all.drop a).take 64)) (all.drop (a + 64)) = blocks K S0 all := by
  rw [← h, blocks_step K S (all.drop a) (by simp; omega), List.drop_drop]

set_option maxRecDepth 100000 in
theorem refE (fr : Act) (s2 s9 s17 : Value) (bh ba oa N M cap b6 o6 c6 : Nat) (all : List UInt8) (w : World) (Q : Exit → Act → World → Prop)
    (hfr : IsFR fr s2 (.slice (some ⟨ba, oa, none⟩) N cap) (.slice (some ⟨b6, o6, none⟩) 64 c6) (.slice (some ⟨bh, 0, none⟩) 8 8) (.int .i64 0) s9 s17)
    (hM : N = 64 * M) (hN : N ≤ 549755814400) (hall : all.length = N) (hc : ∀ k, k < N → w.cell? ⟨ba, oa + k, none⟩ = some (.int .u8 ((all.getD k 0).toNat : Int)))
    (hk : ∀ i, i < 64 → w.cell? ⟨b6, o6 + i, none⟩ = some (.int .i64 ((kfun i).toNat : Int)))
    (hba : ba ≠ bh) (hb6 : b6 ≠ bh)
    (hh : w.heap[bh]? = some (.cells (icells htab.list).toArray 3 (0, 0)))
    (hQ : ∀ (fr' : Act) (w' : World) (s8 s9 s17 : Value), IsFR fr' s2 (.slice (some ⟨ba, oa, none⟩) N cap) (.slice (some ⟨b6, o6, none⟩) 64 c6) (.slice (some ⟨bh, 0, none⟩) 8 8) s8 s9 s17 →
      w'.heap[bh]? = some (.cells (icells (blocks kfun htab all).1.list).toArray 3 (0, 0)) → Fr (· = bh) w w' → Q (.exit 4) fr' w') :
    Code.wp Tryd.prog (.loop (lpOf Tryd.f96.body 2)) Q fr w := by
  refine wp_loop_ghost (fun n a w' => ∃ (m : Nat) (S : W8) (s9 s17 : Value), m + n = M ∧ IsFR a s2 (.slice (some ⟨ba, oa, none⟩) N cap) (.slice (some ⟨b6, o6, none⟩) 64 c6) (.slice (some ⟨bh, 0, none⟩) 8 8) (.int .i64 ((64 * m : Nat) : Int)) s9 s17 ∧
    w'.heap[bh]? = some (.cells (icells S.list).toArray 3 (0, 0)) ∧ Fr (· = bh) w w' ∧ blocks kfun S (all.drop (64 * m)) = blocks kfun htab all) M ⟨0, htab, s9, s17, by omega, hfr, hh, Fr.refl _ _, rfl⟩ ?_
  rintro n a w1 ⟨m, S, t9, t17, hin, hfr1, hh1, hf1, hbl⟩
  by_cases hm : m < M
  · refine refE_body a s2 t9 t17 bh ba oa N cap b6 o6 c6 (64 * m) all S w1 _ hfr1 (by omega) hN (fun k hk' => ?_) (fun i hi => ?_) hh1 ?_
    · exact (hf1.cell (p := ⟨ba, oa + k, none⟩) (World.block_lt_of_cell? w _ (hc k hk')) hba).trans (hc k hk')
    · exact (hf1.cell (p := ⟨b6, o6 + i, none⟩) (World.block_lt_of_cell? w _ (hk i hi)) hb6).trans (hk i hi)
    · intro fr' w2 u9 u17 hfr2 hh2 hf2
      refine ⟨n - 1, by omega, m + 1, _, u9, u17, by omega, ?_, hh2, hf1.trans hf2 (fun _ _ h => h), ?_⟩
      · rw [show (((64 * (m + 1) : Nat)) : Int) = ((64 * m : Nat) : Int) + 64 by omega]
        exact hfr2
      · rw [show 64 * (m + 1) = 64 * m + 64 by omega]
        exact blocks_at _ _ _ _ _ N hall (by omega) hbl
  · have hmM : m = M := by omega
    subst hmM
    refine refE_exit a _ _ _ _ _ _ _ _ _ w1 _ hfr1 (by omega) (fun fr' h => ?_)
    have e : blocks kfun S (all.drop (64 * m)) = (S, []) := by
      rw [List.drop_of_length_le (by omega)]
      exact blocks_short _ _ _ (by simp)
    refine hQ fr' _ _ _ _ h ?_ hf1
    rw [← hbl, e]
    exact hh1
end Go.Proofs.YtlfeofakggkebaaDoor
