/- The reference's Sum: a block's sixty-four rounds. -/
import Derived.Test.YtlfeofakggkebaaDoorRefB
import Derived.StillTailTactics
namespace Go.Proofs.YtlfeofakggkebaaDoor
open Go.RowKit

theorem choice_or (e f g : UInt32) : e &&& f ||| ~~~e &&& g = choice e f g := by
  unfold choice
  apply UInt32.toBitVec_inj.1
  apply BitVec.eq_of_getLsbD_eq
  intro i hi
  simp only [UInt32.toBitVec_or, UInt32.toBitVec_and, UInt32.toBitVec_not, UInt32.toBitVec_xor, BitVec.getLsbD_or, BitVec.getLsbD_and, BitVec.getLsbD_xor, BitVec.getLsbD_not, hi, decide_true, Bool.true_and]
  cases e.toBitVec.getLsbD i <;> cases f.toBitVec.getLsbD i <;> cases g.toBitVec.getLsbD i <;> rfl
theorem most_or (a b c : UInt32) : a &&& b ||| a &&& c ||| b &&& c = most a b c := by
  unfold most
  apply UInt32.toBitVec_inj.1
  apply BitVec.eq_of_getLsbD_eq
  intro i hi
  simp only [UInt32.toBitVec_or, UInt32.toBitVec_and, UInt32.toBitVec_xor, BitVec.getLsbD_or, BitVec.getLsbD_and, BitVec.getLsbD_xor]
  cases a.toBitVec.getLsbD i <;> cases b.toBitVec.getLsbD i <;> cases c.toBitVec.getLsbD i <;> rfl

/-- Round i's frame: as FR, with slot 18. -/
def IsFR18 (a : Act) (s2 s3 s6 s7 s8 s9 s17 s18 : Value) : Prop := IsFR a s2 s3 s6 s7 s8 s9 s17 ∧ Act.slot a 18 = s18

theorem choice_i (e f g : UInt32) : bits .or .i64 (bits .and .i64 (e.toNat : Int) (f.toNat : Int)) (bits .and .i64 (4294967295 - (e.toNat : Int)) (g.toNat : Int)) = ((choice e f g).toNat : Int) := by
  rw [i_not, i_and, i_and, i_or, choice_or]
theorem most_i (a b c : UInt32) : bits .or .i64 (bits .or .i64 (bits .and .i64 (a.toNat : Int) (b.toNat : Int)) (bits .and .i64 (a.toNat : Int) (c.toNat : Int))) (bits .and .i64 (b.toNat : Int) (c.toNat : Int)) = ((most a b c).toNat : Int) := by
  rw [i_and, i_and, i_and, i_or, i_or, most_or]

theorem t_i (h e cx kk sk : UInt32) : ∃ tn : Nat, tn < 34359738368 ∧ tn = h.toNat + (bsig1 e).toNat + cx.toNat + kk.toNat + sk.toNat ∧
    wrap64 (wrap64 (wrap64 (wrap64 ((h.toNat : Int) + bits .xor .i64 (bits .xor .i64 ((rotr e 6).toNat : Int) ((rotr e 11).toNat : Int)) ((rotr e 25).toNat : Int)) + (cx.toNat : Int)) + (kk.toNat : Int)) + (sk.toNat : Int)) = (tn : Int) := by
  have a1 := h.toNat_lt
  have a2 := (bsig1 e).toNat_lt
  have a3 := cx.toNat_lt
  have a4 := kk.toNat_lt
  have a5 := sk.toNat_lt
  refine ⟨_, ?_, rfl, ?_⟩
  · omega
  · rw [i_xor, i_xor, show rotr e 6 ^^^ rotr e 11 ^^^ rotr e 25 = bsig1 e from rfl, IntWalk.wrap64_in ((h.toNat : Int) + ((bsig1 e).toNat : Int)) (by omega), IntWalk.wrap64_in ((h.toNat : Int) + ((bsig1 e).toNat : Int) + (cx.toNat : Int)) (by omega), IntWalk.wrap64_in ((h.toNat : Int) + ((bsig1 e).toNat : Int) + (cx.toNat : Int) + (kk.toNat : Int)) (by omega), IntWalk.wrap64_in _ (by omega)]
    omega
theorem u_i (a mx : UInt32) : ∃ un : Nat, un < 8589934592 ∧ un = (bsig0 a).toNat + mx.toNat ∧
    wrap64 (bits .xor .i64 (bits .xor .i64 ((rotr a 2).toNat : Int) ((rotr a 13).toNat : Int)) ((rotr a 22).toNat : Int) + (mx.toNat : Int)) = (un : Int) := by
  have a2 := (bsig0 a).toNat_lt
  have a3 := mx.toNat_lt
  refine ⟨_, ?_, rfl, ?_⟩
  · omega
  · rw [i_xor, i_xor, show rotr a 2 ^^^ rotr a 13 ^^^ rotr a 22 = bsig0 a from rfl, IntWalk.wrap64_in _ (by omega)]
    omega

set_option maxHeartbeats 4000000 in
set_option maxRecDepth 100000 in
theorem refC_exit (fr : Act) (s2 s3 s6 s7 s8 s9 s17 : Value) (w : World) (Q : Exit → Act → World → Prop)
    (hfr : IsFR18 fr s2 s3 s6 s7 s8 s9 s17 (.int .i64 (64 : Nat)))
    (hQ : ∀ (fr' : Act), IsFR18 fr' s2 s3 s6 s7 s8 s9 s17 (.int .i64 (64 : Nat)) → Q (.exit 10) fr' w) :
    Code.wp Tryd.prog (lpOf Tryd.f96.body 5) Q fr w := by
  have HQ := Lib.hid hQ
  clear hQ
  obtain ⟨hfr, h18⟩ := hfr
  unfold IsFR at hfr
  generalize Act.slot fr = f at *
  subst hfr
  unfold FR
  rw [h18]
  conv => arg 2; whnf
  clear h18
  go_wp2
  exact HQ.out _ ⟨rfl, rfl⟩

set_option maxHeartbeats 4000000 in
set_option maxRecDepth 100000 in
theorem refC_body (fr : Act) (s2 s3 s7 s8 : Value) (b6 o6 c6 b9 o9 c9 b o c i : Nat) (bl : List UInt8) (v : W8) (w : World) (Q : Exit → Act → World → Prop)
    (hfr : IsFR18 fr s2 s3 (.slice (some ⟨b6, o6, none⟩) 64 c6) s7 s8 (.slice (some ⟨b9, o9, none⟩) 64 c9) (.slice (some ⟨b, o, none⟩) 8 c) (.int .i64 (i : Int)))
    (hi : i < 64)
    (hk : w.cell? ⟨b6, o6 + i, none⟩ = some (.int .i64 ((kfun i).toNat : Int)))
    (hw : w.cell? ⟨b9, o9 + i, none⟩ = some (.int .i64 ((schedF bl i).toNat : Int)))
    (hv : ∀ k, k < 8 → w.cell? ⟨b, o + k, none⟩ = some (.int .i64 ((v.list.getD k 0).toNat : Int)))
    (hQ : ∀ (fr' : Act) (w' : World) (g : Nat), IsFR18 fr' s2 s3 (.slice (some ⟨b6, o6, none⟩) 64 c6) s7 s8 (.slice (some ⟨b9, o9, none⟩) 64 c9) (.slice (some ⟨g, 0, none⟩) 8 8) (.int .i64 ((i : Int) + 1)) →
      (∀ k, k < 8 → w'.cell? ⟨g, 0 + k, none⟩ = some (.int .i64 (((round v (kfun i) (schedF bl i)).list.getD k 0).toNat : Int))) → Below w.heap.size w w' → w.heap.size ≤ g → Q .normal fr' w') :
    Code.wp Tryd.prog (lpOf Tryd.f96.body 5) Q fr w := by
  have HQ := Lib.hid hQ
  have v0 := hv 0 (by omega)
  have v1 := hv 1 (by omega)
  have v2 := hv 2 (by omega)
  have v3 := hv 3 (by omega)
  have v4 := hv 4 (by omega)
  have v5 := hv 5 (by omega)
  have v6 := hv 6 (by omega)
  have v7 := hv 7 (by omega)
  rw [Nat.add_zero] at v0
  clear hQ hv
  generalize schedF bl i = sk at *
  generalize kfun i = kk at *
  obtain ⟨hfr, h18⟩ := hfr
  unfold IsFR at hfr
  generalize Act.slot fr = f at *
  subst hfr
  unfold FR
  rw [h18]
  conv => arg 2; whnf
  clear h18
  replace v0 : w.cell? ⟨b, o, none⟩ = some (.int .i64 (v.a.toNat : Int)) := v0
  replace v1 : w.cell? ⟨b, o + 1, none⟩ = some (.int .i64 (v.b.toNat : Int)) := v1
  replace v2 : w.cell? ⟨b, o + 2, none⟩ = some (.int .i64 (v.c.toNat : Int)) := v2
  replace v3 : w.cell? ⟨b, o + 3, none⟩ = some (.int .i64 (v.d.toNat : Int)) := v3
  replace v4 : w.cell? ⟨b, o + 4, none⟩ = some (.int .i64 (v.e.toNat : Int)) := v4
  replace v5 : w.cell? ⟨b, o + 5, none⟩ = some (.int .i64 (v.f.toNat : Int)) := v5
  replace v6 : w.cell? ⟨b, o + 6, none⟩ = some (.int .i64 (v.g.toNat : Int)) := v6
  replace v7 : w.cell? ⟨b, o + 7, none⟩ = some (.int .i64 (v.h.toNat : Int)) := v7
  have i0 : (0 : Int) ≤ (i : Int) := by omega
  have i1 : (i : Int) < 64 := by omega
  obtain ⟨w0, hw0⟩ : ∃ w0, w0 = w := ⟨_, rfl⟩
  have hbel : Below w.heap.size w w0 := by rw [hw0]; exact Below.refl _ _
  rw [← hw0] at v0 v1 v2 v3 v4 v5 v6 v7 hk hw
  rw [← hw0]
  clear hw0
  go_wp2_with fail
  go_quiet (fail)
  have hq : ∀ p, (w0.drewN nq).cell? p = w0.cell? p := fun _ => rfl
  simp only [← hq] at v0 v1 v2 v3 v4 v5 v6 v7 hk hw
  replace hbel : Below w.heap.size w (w0.drewN nq) := below_drewN hbel nq
  clear hq
  generalize w0.drewN nq = w1 at *
  go_wp2_with fail
  go_quiet (fail)
  have hq : ∀ p, (w1.drewN nq).cell? p = w1.cell? p := fun _ => rfl
  simp only [← hq] at v0 v1 v2 v3 v4 v5 v6 v7 hk hw
  replace hbel : Below w.heap.size w (w1.drewN nq) := below_drewN hbel nq
  clear hq
  generalize w1.drewN nq = w2 at *
  have m1 := v.e.toNat_lt
  rw [show wrap64 (4294967295 - (v.e.toNat : Int)) = 4294967295 - (v.e.toNat : Int) from IntWalk.wrap64_in _ (by omega), choice_i, most_i]
  generalize hx : choice v.e v.f v.g = cx at *
  generalize hy : most v.a v.b v.c = mx at *
  have Hx := Lib.hid hx
  have Hy := Lib.hid hy
  clear hx hy m1
  go_wp2_with fail
  go_quiet ((go_at_call 127; exact Calls.quiet_of_same (turn_i _ _ _ (by decide) (by decide))))
  have hq : ∀ p, (w2.drewN nq).cell? p = w2.cell? p := fun _ => rfl
  simp only [← hq] at v0 v1 v2 v3 v4 v5 v6 v7 hk hw
  replace hbel : Below w.heap.size w (w2.drewN nq) := below_drewN hbel nq
  clear hq
  generalize w2.drewN nq = w3 at *
  go_wp2_with fail
  go_quiet ((go_at_call 127; exact Calls.quiet_of_same (turn_i _ _ _ (by decide) (by decide))))
  have hq : ∀ p, (w3.drewN nq).cell? p = w3.cell? p := fun _ => rfl
  simp only [← hq] at v0 v1 v2 v3 v4 v5 v6 v7 hk hw
  replace hbel : Below w.heap.size w (w3.drewN nq) := below_drewN hbel nq
  clear hq
  generalize w3.drewN nq = w4 at *
  obtain ⟨tn, ht1, ht2, ht3⟩ := t_i v.h v.e cx kk sk
  obtain ⟨un, hu1, hu2, hu3⟩ := u_i v.a mx
  rw [ht3, hu3]
  have Ht := Lib.hid ht2
  have Hu := Lib.hid hu2
  have md := v.d.toNat_lt
  have y1 : IntKind.i64.wrap ((tn : Int) + (un : Int)) = (tn : Int) + (un : Int) := IntWalk.i64_in _ (by omega)
  have y2 : IntKind.i64.wrap ((v.d.toNat : Int) + (tn : Int)) = (v.d.toNat : Int) + (tn : Int) := IntWalk.i64_in _ (by omega)
  clear ht2 hu2 ht3 hu3
  have Hbel := Lib.hid hbel
  clear hbel hk hw i0 i1
  go_wp2_with fail
  go_still_tail 28, (by kernel_rfl)
  change wpList _ _ _ _ _ w4.drew
  go_wp2_with fail
  have e1 : bits .and .i64 ((tn : Int) + (un : Int)) 4294967295 = (((round v kk sk).a).toNat : Int) := by
    have e : ((tn : Int) + (un : Int)) = ((tn + un : Nat) : Int) := by omega
    rw [e, i64_mask _ (by omega)]
    have h := congrArg UInt32.toNat (show (round v kk sk).a = v.h + bsig1 v.e + cx + kk + sk + (bsig0 v.a + mx) by rw [← Hx.out, ← Hy.out]; rfl)
    rw [h, UInt32.toNat_add, UInt32.toNat_add, UInt32.toNat_add, UInt32.toNat_add, UInt32.toNat_add, UInt32.toNat_add, Ht.out, Hu.out]
    omega
  have e2 : bits .and .i64 ((v.d.toNat : Int) + (tn : Int)) 4294967295 = (((round v kk sk).e).toNat : Int) := by
    have e : ((v.d.toNat : Int) + (tn : Int)) = ((v.d.toNat + tn : Nat) : Int) := by omega
    rw [e, i64_mask _ (by omega)]
    have h := congrArg UInt32.toNat (show (round v kk sk).e = v.d + (v.h + bsig1 v.e + cx + kk + sk) by rw [← Hx.out]; rfl)
    rw [h, UInt32.toNat_add, UInt32.toNat_add, UInt32.toNat_add, UInt32.toNat_add, UInt32.toNat_add, Ht.out]
    omega
  rw [e1, e2]
  refine HQ.out _ _ w4.heap.size ⟨rfl, rfl⟩ (fun k hk => ?_) (below_drew (Hbel.out.alloc Hbel.out.size _)) Hbel.out.size
  have hz := heap_alloc_new w4 (.cells (icells (round v kk sk).list).toArray 3)
  have hcell := cell_of_row (w4.alloc (.cells (icells (round v kk sk).list).toArray 3)).drew w4.heap.size (0 + k) _ _ _ hz
  refine hcell.trans ?_
  rw [Nat.zero_add]
  rw [List.getElem?_toArray]
  exact icells_get (l := (round v kk sk).list) (by simpa [W8.list] using hk)

set_option maxRecDepth 100000 in
theorem refC (fr : Act) (s2 s3 s7 s8 : Value) (B b6 o6 c6 b9 o9 c9 b o c : Nat) (bl : List UInt8) (v : W8) (w : World) (Q : Exit → Act → World → Prop) (hB : B ≤ w.heap.size) (hb : B ≤ b)
    (hfr : IsFR18 fr s2 s3 (.slice (some ⟨b6, o6, none⟩) 64 c6) s7 s8 (.slice (some ⟨b9, o9, none⟩) 64 c9) (.slice (some ⟨b, o, none⟩) 8 c) (.int .i64 0))
    (hk : ∀ i, i < 64 → w.cell? ⟨b6, o6 + i, none⟩ = some (.int .i64 ((kfun i).toNat : Int)))
    (hw : ∀ i, i < 64 → w.cell? ⟨b9, o9 + i, none⟩ = some (.int .i64 ((schedF bl i).toNat : Int)))
    (hv : ∀ k, k < 8 → w.cell? ⟨b, o + k, none⟩ = some (.int .i64 ((v.list.getD k 0).toNat : Int)))
    (hQ : ∀ (fr' : Act) (w' : World) (b o c : Nat) (s18 : Value), IsFR18 fr' s2 s3 (.slice (some ⟨b6, o6, none⟩) 64 c6) s7 s8 (.slice (some ⟨b9, o9, none⟩) 64 c9) (.slice (some ⟨b, o, none⟩) 8 c) s18 →
      (∀ k, k < 8 → w'.cell? ⟨b, o + k, none⟩ = some (.int .i64 (((rounds kfun (schedF bl) v 64).list.getD k 0).toNat : Int))) → Below w.heap.size w w' → B ≤ b → Q (.exit 10) fr' w') :
    Code.wp Tryd.prog (.loop (lpOf Tryd.f96.body 5)) Q fr w := by
  refine wp_loop_ghost (fun n a w' => ∃ (i b o c : Nat), i + n = 64 ∧ IsFR18 a s2 s3 (.slice (some ⟨b6, o6, none⟩) 64 c6) s7 s8 (.slice (some ⟨b9, o9, none⟩) 64 c9) (.slice (some ⟨b, o, none⟩) 8 c) (.int .i64 (i : Int)) ∧
    (∀ k, k < 8 → w'.cell? ⟨b, o + k, none⟩ = some (.int .i64 (((rounds kfun (schedF bl) v i).list.getD k 0).toNat : Int))) ∧ Below w.heap.size w w' ∧ B ≤ b) 64 ⟨0, b, o, c, rfl, hfr, hv, Below.refl _ _, hb⟩ ?_
  rintro n a w1 ⟨i, b, o, c, hin, hfr1, hv1, hbel, hb1⟩
  have hkp := Keeps.of_below hbel
  by_cases hi : i < 64
  · refine refC_body a s2 s3 s7 s8 b6 o6 c6 b9 o9 c9 b o c i bl _ w1 _ hfr1 hi (hkp _ _ (hk i hi)) (hkp _ _ (hw i hi)) hv1 ?_
    intro fr' w2 g hfr2 hv2 hbel2 hg
    exact ⟨n - 1, by omega, i + 1, g, 0, 8, by omega, hfr2, hv2, hbel.trans (hbel2.mono hbel.size), by have := hbel.size; omega⟩
  · obtain rfl : i = 64 := by omega
    exact refC_exit a _ _ _ _ _ _ _ w1 _ hfr1 (fun fr' h => hQ fr' _ b o c _ h hv1 hbel hb1)
end Go.Proofs.YtlfeofakggkebaaDoor
