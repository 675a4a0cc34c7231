/- The reference's Sum: the padding. -/
import Derived.Test.YtlfeofakggkebaaDoorRefG
namespace Go.Proofs.YtlfeofakggkebaaDoor
open Go.RowKit

theorem refpad_test (r j : Nat) (hj : j ≤ padZ r) : ((((r : Int) + 1 + (j : Int))) % 64 != 56) = decide (j < padZ r) := by
  unfold padZ at *
  by_cases h : j < (64 - (r + 9) % 64) % 64
  · rw [decide_eq_true h]
    simp
    omega
  · rw [decide_eq_false h]
    simp
    omega

set_option maxHeartbeats 4000000 in
set_option maxRecDepth 100000 in
theorem refP_body (fr : Act) (A : Option Addr) (cap B n j : Nat) (l : List UInt8) (w : World) (Q : Exit → Act → World → Prop)
    (hfr : IsF fr) (h3 : Act.slot fr 3 = .slice A (n + 1 + j) cap) (hl : l.length = n) (hn : n ≤ 549755813888) (hj : j < padZ n) (hB : B ≤ w.heap.size)
    (hown : OB w B (.slice A (n + 1 + j) cap) (l ++ 128 :: List.replicate j 0))
    (hQ : ∀ (fr' : Act) (w' : World) (A : Option Addr) (cap : Nat), IsF fr' → Act.slot fr' 0 = Act.slot fr 0 → Act.slot fr' 2 = Act.slot fr 2 → Act.slot fr' 3 = .slice A (n + 1 + (j + 1)) cap →
      OB w' B (.slice A (n + 1 + (j + 1)) cap) (l ++ 128 :: List.replicate (j + 1) 0) → Below B w w' → Q .normal fr' w') :
    Code.wp Tryd.prog (lpOf Tryd.f96.body 0) Q fr w := by
  have HQ := Lib.hid hQ
  have Hown := Lib.hid hown
  have Hl := Lib.hid hl
  have HB := Lib.hid hB
  clear hQ hown hl hB
  have ht : ((((n : Int) + 1 + (j : Int))) % 64 != 56) = true := by rw [refpad_test n j (Nat.le_of_lt hj)]; exact decide_eq_true hj
  have hp : padZ n ≤ 64 := by unfold padZ; omega
  unfold IsF at hfr
  generalize Act.slot fr = f at *
  subst hfr
  unfold FR
  rw [h3]
  conv => arg 2; whnf
  clear h3
  go_wp2_with (first
    | (at_builtin; (refine wpList_append_b rfl (.tmp 38) (.tmp 39) 22 rfl (OB.alloc Hown.out _) rfl (Src.lit w _ [0] rfl 1 1 rfl) rfl ?_ ?_ ?_; rotate_right; intro v4 w4 hown4 hgr4 hat4; rw [List.append_assoc, show (128 :: List.replicate j (0 : UInt8)) ++ [0] = 128 :: List.replicate (j + 1) 0 by rw [List.replicate_succ', List.cons_append]] at hown4; obtain ⟨A4, cap4, hv4, hc4, hm4, hr4⟩ := hown4.form; rw [show (l ++ (128 : UInt8) :: List.replicate (j + 1) 0).length = n + 1 + (j + 1) by rw [List.length_append, Hl.out]; simp; omega] at hv4; subst hv4))
    | fail)
  case refine_1 => have := Hl.out; simp; omega
  case refine_2 => have := HB.out; simp; omega
  exact HQ.out _ _ A4 cap4 rfl rfl rfl rfl hown4 (below_append ((Below.refl _ w).alloc HB.out _ ) hgr4 (Hown.out.alloc _) (Nat.le_refl _) (by have := HB.out; simp; omega))

set_option maxHeartbeats 4000000 in
set_option maxRecDepth 100000 in
theorem refP_exit (fr : Act) (A : Option Addr) (cap n : Nat) (w : World) (Q : Exit → Act → World → Prop)
    (hfr : IsF fr) (h3 : Act.slot fr 3 = .slice A (n + 1 + padZ n) cap) (hn : n ≤ 549755813888)
    (hQ : ∀ (fr' : Act), IsF fr' → Act.slot fr' 0 = Act.slot fr 0 → Act.slot fr' 2 = Act.slot fr 2 → Act.slot fr' 3 = .slice A (n + 1 + padZ n) cap → Q (.exit 0) fr' w) :
    Code.wp Tryd.prog (lpOf Tryd.f96.body 0) Q fr w := by
  have HQ := Lib.hid hQ
  clear hQ
  have ht : ((((n : Int) + 1 + (padZ n : Int))) % 64 != 56) = false := by rw [refpad_test n (padZ n) (by omega)]; exact decide_eq_false (by omega)
  have hp : padZ n ≤ 64 := by unfold padZ; omega
  generalize padZ n = p at *
  unfold IsF at hfr
  generalize Act.slot fr = f at *
  subst hfr
  unfold FR
  rw [h3]
  conv => arg 2; whnf
  clear h3
  go_wp2
  exact HQ.out _ rfl rfl rfl rfl

set_option maxRecDepth 100000 in
theorem refP (fr : Act) (A : Option Addr) (cap B n : Nat) (l : List UInt8) (w : World) (Q : Exit → Act → World → Prop) (s0 s2 : Value)
    (hfr : IsF fr) (h0 : Act.slot fr 0 = s0) (h2 : Act.slot fr 2 = s2) (h3 : Act.slot fr 3 = .slice A (n + 1) cap) (hl : l.length = n) (hn : n ≤ 549755813888) (hB : B ≤ w.heap.size)
    (hown : OB w B (.slice A (n + 1) cap) (l ++ [128]))
    (hQ : ∀ (fr' : Act) (w' : World) (A : Option Addr) (cap : Nat), IsF fr' → Act.slot fr' 0 = s0 → Act.slot fr' 2 = s2 → Act.slot fr' 3 = .slice A (n + 1 + padZ n) cap →
      OB w' B (.slice A (n + 1 + padZ n) cap) (l ++ 128 :: List.replicate (padZ n) 0) → Below B w w' → Q (.exit 0) fr' w') :
    Code.wp Tryd.prog (.loop (lpOf Tryd.f96.body 0)) Q fr w := by
  refine wp_loop_ghost (fun m a w' => ∃ (j : Nat) (A : Option Addr) (cap : Nat), j + m = padZ n ∧ IsF a ∧ Act.slot a 0 = s0 ∧ Act.slot a 2 = s2 ∧ Act.slot a 3 = .slice A (n + 1 + j) cap ∧
    OB w' B (.slice A (n + 1 + j) cap) (l ++ 128 :: List.replicate j 0) ∧ Below B w w') (padZ n) ⟨0, A, cap, by omega, hfr, h0, h2, h3, hown, Below.refl _ _⟩ ?_
  rintro m a w1 ⟨j, A, cap, hj, a0, a1, a2, a3, ho, hb⟩
  by_cases hlt : j < padZ n
  · refine refP_body a A cap B n j l w1 _ a0 a3 hl hn hlt (Nat.le_trans hB hb.size) ho ?_
    intro fr' w2 A' cap' b0 b1 b2 b3 ho2 hb2
    exact ⟨m - 1, by omega, j + 1, A', cap', by omega, b0, b1.trans a1, b2.trans a2, b3, ho2, hb.trans hb2⟩
  · have hj' : j = padZ n := by omega
    rw [hj'] at a3 ho
    exact refP_exit a A cap n w1 _ a0 a3 hn (fun fr' b0 b1 b2 b3 => hQ fr' w1 A cap b0 (b1.trans a1) (b2.trans a2) b3 ho hb)

def lenL (l : List UInt8) (n i : Nat) : List UInt8 := l ++ ((128 :: List.replicate (padZ n) 0) ++ (lenBytes (n * 8)).take i)
theorem lenL_length (l : List UInt8) (n i : Nat) (hl : l.length = n) (hi : i ≤ 8) : (lenL l n i).length = n + 1 + padZ n + i := by simp [lenL, lenBytes]; omega
theorem lenL_succ (l : List UInt8) (n i : Nat) (hi : i < 8) : lenL l n i ++ [UInt8.ofNat (n * 8 / 2 ^ (8 * (7 - i)))] = lenL l n (i + 1) := by
  unfold lenL
  rw [lenBytes_take _ _ hi, List.append_assoc, List.append_assoc]

set_option maxHeartbeats 4000000 in
set_option maxRecDepth 100000 in
theorem refQ_body (fr : Act) (A : Option Addr) (cap B n i : Nat) (l : List UInt8) (w : World) (Q : Exit → Act → World → Prop)
    (hfr : IsF fr) (h3 : Act.slot fr 3 = .slice A (n + 1 + padZ n + i) cap) (h4 : Act.slot fr 4 = .int .i64 ((n : Int) * 8)) (h5 : Act.slot fr 5 = .int .i64 (7 - (i : Int))) (hl : l.length = n) (hn : n ≤ 549755813888) (hi : i < 8) (hB : B ≤ w.heap.size)
    (hown : OB w B (.slice A (n + 1 + padZ n + i) cap) (lenL l n i))
    (hQ : ∀ (fr' : Act) (w' : World) (A : Option Addr) (cap : Nat), IsF fr' → Act.slot fr' 2 = Act.slot fr 2 → Act.slot fr' 3 = .slice A (n + 1 + padZ n + (i + 1)) cap → Act.slot fr' 4 = .int .i64 ((n : Int) * 8) → Act.slot fr' 5 = .int .i64 (7 - (i : Int) - 1) →
      OB w' B (.slice A (n + 1 + padZ n + (i + 1)) cap) (lenL l n (i + 1)) → Below B w w' → Q .normal fr' w') :
    Code.wp Tryd.prog (lpOf Tryd.f96.body 1) Q fr w := by
  have HQ := Lib.hid hQ
  have Hown := Lib.hid hown
  have Hl := Lib.hid hl
  have HB := Lib.hid hB
  clear hQ hown hl hB
  have hp : padZ n ≤ 64 := by unfold padZ; omega
  have m0 : (0 : Int) ≤ 7 - (i : Int) := by omega
  have m2 : IntKind.i64.wrap (8 * (7 - (i : Int))) = 8 * (7 - (i : Int)) := IntWalk.i64_in _ (by omega)
  have n0 : (0 : Int) ≤ 8 * (7 - (i : Int)) := by omega
  have n1 : 8 * (7 - (i : Int)) < 64 := by omega
  unfold IsF at hfr
  generalize Act.slot fr = f at *
  subst hfr
  unfold FR
  rw [h3, h4, h5]
  conv => arg 2; whnf
  clear h3 h4 h5
  go_wp2_with (first
    | (at_builtin; (refine wpList_append_b rfl (.tmp 48) (.tmp 55) 22 rfl (OB.alloc Hown.out _) rfl (Src.lit w _ [UInt8.ofNat (n * 8 / 2 ^ (8 * (7 - i)))] ?_ 1 1 rfl) rfl ?_ ?_ ?_; rotate_right; intro v2 w2 hown2 hgr2 hat2; rw [lenL_succ l n i hi] at hown2; obtain ⟨A2, cap2, hv2, hc2, hm2, hr2⟩ := hown2.form; rw [lenL_length l n (i + 1) Hl.out (by omega)] at hv2; subst hv2))
    | fail)
  case refine_1 => rw [lenByte_cell]; simp
  case refine_2 => rw [lenL_length l n i Hl.out (by omega)]; simp; omega
  case refine_3 => have := HB.out; simp; omega
  exact HQ.out _ _ A2 cap2 rfl rfl rfl rfl rfl hown2 (below_append ((Below.refl _ w).alloc HB.out _ ) hgr2 (Hown.out.alloc _) (Nat.le_refl _) (by have := HB.out; simp; omega))

set_option maxHeartbeats 4000000 in
set_option maxRecDepth 100000 in
theorem refQ_exit (fr : Act) (w : World) (Q : Exit → Act → World → Prop)
    (hfr : IsF fr) (h5 : Act.slot fr 5 = .int .i64 (7 - ((8 : Nat) : Int)))
    (hQ : ∀ (fr' : Act), IsF fr' → Act.slot fr' 2 = Act.slot fr 2 → Act.slot fr' 3 = Act.slot fr 3 → Q (.exit 2) fr' w) :
    Code.wp Tryd.prog (lpOf Tryd.f96.body 1) Q fr w := by
  have HQ := Lib.hid hQ
  clear hQ
  unfold IsF at hfr
  generalize Act.slot fr = f at *
  subst hfr
  unfold FR
  rw [h5]
  conv => arg 2; whnf
  clear h5
  go_wp2
  exact HQ.out _ rfl rfl rfl

set_option maxRecDepth 100000 in
theorem refQ (fr : Act) (A : Option Addr) (cap B n : Nat) (l : List UInt8) (w : World) (Q : Exit → Act → World → Prop) (s2 : Value)
    (hfr : IsF fr) (h2 : Act.slot fr 2 = s2) (h3 : Act.slot fr 3 = .slice A (n + 1 + padZ n) cap) (h4 : Act.slot fr 4 = .int .i64 ((n : Int) * 8)) (h5 : Act.slot fr 5 = .int .i64 7) (hl : l.length = n) (hn : n ≤ 549755813888) (hB : B ≤ w.heap.size)
    (hown : OB w B (.slice A (n + 1 + padZ n) cap) (l ++ 128 :: List.replicate (padZ n) 0))
    (hQ : ∀ (fr' : Act) (w' : World) (A : Option Addr) (cap : Nat), IsF fr' → Act.slot fr' 2 = s2 → Act.slot fr' 3 = .slice A (n + 1 + padZ n + 8) cap →
      OB w' B (.slice A (n + 1 + padZ n + 8) cap) (l ++ padOf n n) → Below B w w' → Q (.exit 2) fr' w') :
    Code.wp Tryd.prog (.loop (lpOf Tryd.f96.body 1)) Q fr w := by
  refine wp_loop_ghost (fun m a w' => ∃ (i : Nat) (A : Option Addr) (cap : Nat), i + m = 8 ∧ IsF a ∧ Act.slot a 2 = s2 ∧ Act.slot a 3 = .slice A (n + 1 + padZ n + i) cap ∧ Act.slot a 4 = .int .i64 ((n : Int) * 8) ∧ Act.slot a 5 = .int .i64 (7 - (i : Int)) ∧
    OB w' B (.slice A (n + 1 + padZ n + i) cap) (lenL l n i) ∧ Below B w w') 8 ⟨0, A, cap, by omega, hfr, h2, h3, h4, h5, by simpa [lenL] using hown, Below.refl _ _⟩ ?_
  rintro m a w1 ⟨i, A, cap, hi, a0, a2, a3, a4, a5, ho, hb⟩
  by_cases hlt : i < 8
  · refine refQ_body a A cap B n i l w1 _ a0 a3 a4 a5 hl hn hlt (Nat.le_trans hB hb.size) ho ?_
    intro fr' w2 A' cap' b0 b2 b3 b4 b5 ho2 hb2
    exact ⟨m - 1, by omega, i + 1, A', cap', by omega, b0, b2.trans a2, b3, b4, by rw [b5]; exact congrArg (Value.int .i64) (by omega), ho2, hb.trans hb2⟩
  · obtain rfl : i = 8 := by omega
    refine refQ_exit a w1 _ a0 a5 (fun fr' b0 b2 b3 => hQ fr' w1 A cap b0 (b2.trans a2) (b3.trans a3) ?_ hb)
    have e : lenL l n 8 = l ++ padOf n n := by
      unfold lenL padOf
      rw [List.take_of_length_le (by simp [lenBytes])]
    rw [← e]
    exact ho
end Go.Proofs.YtlfeofakggkebaaDoor
