/- The reference's Sum: the words' bytes go out. -/
import Derived.Test.YtlfeofakggkebaaDoorRefE
namespace Go.Proofs.YtlfeofakggkebaaDoor
open Go.RowKit

/-- A frame of that many slots. -/
def IsF (a : Act) : Prop := a = FR (Act.slot a) (Act.slot a 2) (Act.slot a 3) (Act.slot a 6) (Act.slot a 7) (Act.slot a 8) (Act.slot a 9) (Act.slot a 17)
set_option maxRecDepth 100000 in
theorem IsFR.isF {a : Act} {s2 s3 s6 s7 s8 s9 s17 : Value} (h : IsFR a s2 s3 s6 s7 s8 s9 s17) : IsF a := by
  unfold IsFR at h
  generalize Act.slot a = f at *
  subst h
  rfl

def putB (l : List UInt8) (p : Nat) (bs : List UInt8) : Nat → List UInt8
  | 0 => l
  | k + 1 => (putB l p bs k).set (p + k) (bs.getD k 0)
theorem putB_length (l : List UInt8) (p : Nat) (bs : List UInt8) (k : Nat) : (putB l p bs k).length = l.length := by
  induction k with
  | zero => rfl
  | succ k ih => rw [putB, List.length_set, ih]
theorem putB_outC (x : Nat → UInt32) (i : Nat) (hi : i < 8) : putB (outC x i) (4 * i) (b4 (x i)) 4 = outC x (i + 1) := by
  have hcases : i = 0 ∨ i = 1 ∨ i = 2 ∨ i = 3 ∨ i = 4 ∨ i = 5 ∨ i = 6 ∨ i = 7 := by omega
  rcases hcases with rfl | rfl | rfl | rfl | rfl | rfl | rfl | rfl <;> rfl
theorem b4_get (x : UInt32) (k : Nat) (hk : k < 4) : (((b4 x).getD k 0).toNat : Int) = (x.toNat : Int) / 2 ^ (24 - 8 * k) % 256 := by
  have hcases : k = 0 ∨ k = 1 ∨ k = 2 ∨ k = 3 := by omega
  rcases hcases with rfl | rfl | rfl | rfl <;> simp [b4, Nat.shiftRight_eq_div_pow]

set_option maxHeartbeats 4000000 in
set_option maxRecDepth 100000 in
theorem refG_body (fr : Act) (go i k : Nat) (x : UInt32) (l : List UInt8) (w : World) (Q : Exit → Act → World → Prop)
    (hfr : IsF fr) (h24 : Act.slot fr 24 = .pointer (some ⟨go, 0, none⟩)) (h25 : Act.slot fr 25 = .int .i64 (i : Int)) (h26 : Act.slot fr 26 = .int .i64 (x.toNat : Int)) (h27 : Act.slot fr 27 = .int .i64 (k : Int))
    (hi : i < 8) (hk : k < 4) (hl : l.length = 32) (hrow : w.heap[go]? = some (.cells (bcells l).toArray 48 (0, 0)))
    (hQ : ∀ (fr' : Act) (w' : World), IsF fr' → Act.slot fr' 2 = Act.slot fr 2 → Act.slot fr' 24 = .pointer (some ⟨go, 0, none⟩) → Act.slot fr' 25 = .int .i64 (i : Int) → Act.slot fr' 26 = .int .i64 (x.toNat : Int) → Act.slot fr' 27 = .int .i64 ((k : Int) + 1) →
      Act.slot fr' 296 = Act.slot fr 296 → Act.slot fr' 297 = Act.slot fr 297 → Act.slot fr' 298 = Act.slot fr 298 →
      w'.heap[go]? = some (.cells (bcells (l.set (4 * i + k) ((b4 x).getD k 0))).toArray 48 (0, 0)) → Fr (· = go) w w' → Q .normal fr' w') :
    Code.wp Tryd.prog (lpOf Tryd.f96.body 8) Q fr w := by
  have HQ := Lib.hid hQ
  have HR := Lib.hid hrow
  have HL := Lib.hid hl
  have f0 : w.frozen? ⟨go, 4 * i + k, none⟩ = false := frozen_of_row _ _ _ _ _ hrow
  have c0 : (w.cell? ⟨go, 4 * i + k, none⟩) = some (.int .u8 ((l.getD (4 * i + k) 0).toNat : Int)) := by
    rw [cell_of_row _ _ _ _ _ _ hrow, List.getElem?_toArray]
    exact bcells_get (by omega)
  clear hQ hrow hl
  generalize (Value.int IntKind.u8 ((l.getD (4 * i + k) 0).toNat : Int)) = v0 at *
  unfold IsF at hfr
  generalize Act.slot fr = f at *
  subst hfr
  unfold FR
  rw [h24, h25, h26, h27]
  conv => arg 2; whnf
  clear h24 h25 h26 h27
  have i0 : (0 : Int) ≤ 4 * (i : Int) + (k : Int) := by omega
  have i1 : 4 * (i : Int) + (k : Int) < 32 := by omega
  have n0 : (0 : Int) ≤ 24 - 8 * (k : Int) := by omega
  have n1 : 24 - 8 * (k : Int) < 64 := by omega
  go_wp2
  refine HQ.out _ _ rfl rfl rfl rfl rfl rfl rfl rfl rfl ?_ ((Fr.refl (· = go) w).setCell (p := ⟨go, 4 * i + k, none⟩) (fun _ => rfl) _)
  refine (heap_setCell_same _ _ _ _ _ _ HR.out).trans ?_
  rw [← b4_get x k hk, List.setIfInBounds_toArray]
  simp [bcells, List.map_set]

set_option maxHeartbeats 4000000 in
set_option maxRecDepth 100000 in
theorem refG_exit (fr : Act) (w : World) (Q : Exit → Act → World → Prop)
    (hfr : IsF fr) (h27 : Act.slot fr 27 = .int .i64 (4 : Nat))
    (hQ : ∀ (fr' : Act), IsF fr' → Act.slot fr' 2 = Act.slot fr 2 → Act.slot fr' 24 = Act.slot fr 24 → 
      Act.slot fr' 296 = Act.slot fr 296 → Act.slot fr' 297 = Act.slot fr 297 → Act.slot fr' 298 = Act.slot fr 298 → Q (.exit 16) fr' w) :
    Code.wp Tryd.prog (lpOf Tryd.f96.body 8) Q fr w := by
  have HQ := Lib.hid hQ
  clear hQ
  unfold IsF at hfr
  generalize Act.slot fr = f at *
  subst hfr
  unfold FR
  rw [h27]
  conv => arg 2; whnf
  clear h27
  go_wp2
  exact HQ.out _ rfl rfl rfl rfl rfl rfl

set_option maxRecDepth 100000 in
theorem refG (fr : Act) (go i : Nat) (x : UInt32) (l : List UInt8) (w : World) (Q : Exit → Act → World → Prop) (s2 s296 s297 s298 : Value)
    (hfr : IsF fr) (h2 : Act.slot fr 2 = s2) (h24 : Act.slot fr 24 = .pointer (some ⟨go, 0, none⟩)) (h25 : Act.slot fr 25 = .int .i64 (i : Int)) (h26 : Act.slot fr 26 = .int .i64 (x.toNat : Int)) (h27 : Act.slot fr 27 = .int .i64 0)
    (h296 : Act.slot fr 296 = s296) (h297 : Act.slot fr 297 = s297) (h298 : Act.slot fr 298 = s298)
    (hi : i < 8) (hl : l.length = 32) (hrow : w.heap[go]? = some (.cells (bcells l).toArray 48 (0, 0)))
    (hQ : ∀ (fr' : Act) (w' : World), IsF fr' → Act.slot fr' 2 = s2 → Act.slot fr' 24 = .pointer (some ⟨go, 0, none⟩) → Act.slot fr' 296 = s296 → Act.slot fr' 297 = s297 → Act.slot fr' 298 = s298 →
      w'.heap[go]? = some (.cells (bcells (putB l (4 * i) (b4 x) 4)).toArray 48 (0, 0)) → Fr (· = go) w w' → Q (.exit 16) fr' w') :
    Code.wp Tryd.prog (.loop (lpOf Tryd.f96.body 8)) Q fr w := by
  refine wp_loop_ghost (fun n a w' => ∃ (k : Nat), k + n = 4 ∧ IsF a ∧ Act.slot a 2 = s2 ∧ Act.slot a 24 = .pointer (some ⟨go, 0, none⟩) ∧ Act.slot a 25 = .int .i64 (i : Int) ∧ Act.slot a 26 = .int .i64 (x.toNat : Int) ∧ Act.slot a 27 = .int .i64 (k : Int) ∧
    Act.slot a 296 = s296 ∧ Act.slot a 297 = s297 ∧ Act.slot a 298 = s298 ∧ w'.heap[go]? = some (.cells (bcells (putB l (4 * i) (b4 x) k)).toArray 48 (0, 0)) ∧ Fr (· = go) w w') 4
    ⟨0, rfl, hfr, h2, h24, h25, h26, h27, h296, h297, h298, hrow, Fr.refl _ _⟩ ?_
  rintro n a w1 ⟨k, hkn, a0, a2, a24, a25, a26, a27, a296, a297, a298, hr1, hf1⟩
  by_cases hk : k < 4
  · refine refG_body a go i k x _ w1 _ a0 a24 a25 a26 a27 hi hk (by rw [putB_length, hl]) hr1 ?_
    intro fr' w2 b0 b2 b24 b25 b26 b27 b296 b297 b298 hr2 hf2
    exact ⟨n - 1, by omega, k + 1, by omega, b0, b2.trans a2, b24, b25, b26, b27, b296.trans a296, b297.trans a297, b298.trans a298, hr2, hf1.trans hf2 (fun _ _ h => h)⟩
  · obtain rfl : k = 4 := by omega
    exact refG_exit a w1 _ a0 a27 (fun fr' b0 b2 b24 b296 b297 b298 => hQ fr' w1 b0 (b2.trans a2) (b24.trans a24) (b296.trans a296) (b297.trans a297) (b298.trans a298) hr1 hf1)

set_option maxHeartbeats 4000000 in
set_option maxRecDepth 100000 in
theorem refH_body (fr : Act) (go bh i : Nat) (S : W8) (w : World) (Q : Exit → Act → World → Prop) (s2 : Value)
    (hfr : IsF fr) (h2 : Act.slot fr 2 = s2) (h24 : Act.slot fr 24 = .pointer (some ⟨go, 0, none⟩))
    (h296 : Act.slot fr 296 = .slice (some ⟨bh, 0, none⟩) 8 8) (h297 : Act.slot fr 297 = .int .i64 8) (h298 : Act.slot fr 298 = .int .i64 (i : Int))
    (hi : i < 8) (hh : w.cell? ⟨bh, i, none⟩ = some (.int .i64 ((S.list[i]?.getD 0).toNat : Int)))
    (hrow : w.heap[go]? = some (.cells (bcells (outC (fun i => S.list[i]?.getD 0) i)).toArray 48 (0, 0)))
    (hQ : ∀ (fr' : Act) (w' : World), IsF fr' → Act.slot fr' 2 = s2 → Act.slot fr' 24 = .pointer (some ⟨go, 0, none⟩) → Act.slot fr' 296 = .slice (some ⟨bh, 0, none⟩) 8 8 → Act.slot fr' 297 = .int .i64 8 → Act.slot fr' 298 = .int .i64 ((i : Int) + 1) →
      w'.heap[go]? = some (.cells (bcells (outC (fun i => S.list[i]?.getD 0) (i + 1))).toArray 48 (0, 0)) → Fr (· = go) w w' → Q .normal fr' w') :
    Code.wp Tryd.prog (lpOf Tryd.f96.body 7) Q fr w := by
  have HQ := Lib.hid hQ
  have HR := Lib.hid hrow
  have HP := Lib.hid (show putB (outC (fun i => S.list[i]?.getD 0) i) (4 * i) (b4 (S.list[i]?.getD 0)) 4 = outC (fun i => S.list[i]?.getD 0) (i + 1) from putB_outC (fun i => S.list[i]?.getD 0) i hi)
  clear hQ hrow
  generalize S.list[i]?.getD 0 = x at *
  have HL := Lib.hid (outC_length (fun i => S.list[i]?.getD 0) i)
  generalize outC (fun i => S.list[i]?.getD 0) i = l0 at *
  generalize outC (fun i => S.list[i]?.getD 0) (i + 1) = l1 at *
  unfold IsF at hfr
  generalize Act.slot fr = f at *
  subst hfr
  unfold FR
  rw [h2, h24, h296, h297, h298]
  conv => arg 2; whnf
  clear h2 h24 h296 h297 h298
  have i0 : (0 : Int) ≤ (i : Int) := by omega
  have i1 : (i : Int) < 8 := by omega
  go_wp2_with fail
  refine refG _ go i x l0 w _ s2 (.slice (some ⟨bh, 0, none⟩) 8 8) (.int .i64 8) (.int .i64 (i : Int)) rfl rfl rfl rfl rfl rfl rfl rfl rfl hi HL.out HR.out ?_
  intro fr1 w1 b0 b2 b24 b296 b297 b298 hr1 hf1
  have Hr1 := Lib.hid hr1
  have Hf1 := Lib.hid hf1
  clear hr1 hf1
  unfold IsF at b0
  generalize Act.slot fr1 = f1 at *
  subst b0
  unfold FR
  rw [b2, b24, b296, b297, b298]
  clear b2 b24 b296 b297 b298
  go_wp2_with fail
  refine HQ.out _ _ rfl rfl rfl rfl rfl rfl ?_ Hf1.out
  rw [← HP.out]
  exact Hr1.out

set_option maxHeartbeats 4000000 in
set_option maxRecDepth 100000 in
theorem refH_exit (fr : Act) (w : World) (Q : Exit → Act → World → Prop)
    (hfr : IsF fr) (h297 : Act.slot fr 297 = .int .i64 8) (h298 : Act.slot fr 298 = .int .i64 (8 : Nat))
    (hQ : ∀ (fr' : Act), IsF fr' → Act.slot fr' 2 = Act.slot fr 2 → Act.slot fr' 24 = Act.slot fr 24 → Q (.exit 14) fr' w) :
    Code.wp Tryd.prog (lpOf Tryd.f96.body 7) Q fr w := by
  have HQ := Lib.hid hQ
  clear hQ
  unfold IsF at hfr
  generalize Act.slot fr = f at *
  subst hfr
  unfold FR
  rw [h297, h298]
  conv => arg 2; whnf
  clear h297 h298
  go_wp2
  exact HQ.out _ rfl rfl rfl

set_option maxRecDepth 100000 in
theorem refH (fr : Act) (go bh : Nat) (S : W8) (w : World) (Q : Exit → Act → World → Prop) (s2 : Value)
    (hfr : IsF fr) (h2 : Act.slot fr 2 = s2) (h24 : Act.slot fr 24 = .pointer (some ⟨go, 0, none⟩))
    (h296 : Act.slot fr 296 = .slice (some ⟨bh, 0, none⟩) 8 8) (h297 : Act.slot fr 297 = .int .i64 8) (h298 : Act.slot fr 298 = .int .i64 0)
    (hne : bh ≠ go) (hh : w.heap[bh]? = some (.cells (icells S.list).toArray 3 (0, 0)))
    (hrow : w.heap[go]? = some (.cells (Array.replicate 32 (.int .u8 0)) 48 (0, 0)))
    (hQ : ∀ (fr' : Act) (w' : World), IsF fr' → Act.slot fr' 2 = s2 → Act.slot fr' 24 = .pointer (some ⟨go, 0, none⟩) →
      w'.heap[go]? = some (.cells (bcells (digest S)).toArray 48 (0, 0)) → Fr (· = go) w w' → Q (.exit 14) fr' w') :
    Code.wp Tryd.prog (.loop (lpOf Tryd.f96.body 7)) Q fr w := by
  refine wp_loop_ghost (fun n a w' => ∃ (i : Nat), i + n = 8 ∧ IsF a ∧ Act.slot a 2 = s2 ∧ Act.slot a 24 = .pointer (some ⟨go, 0, none⟩) ∧ Act.slot a 296 = .slice (some ⟨bh, 0, none⟩) 8 8 ∧ Act.slot a 297 = .int .i64 8 ∧ Act.slot a 298 = .int .i64 (i : Int) ∧
    w'.heap[go]? = some (.cells (bcells (outC (fun i => S.list[i]?.getD 0) i)).toArray 48 (0, 0)) ∧ Fr (· = go) w w') 8
    ⟨0, rfl, hfr, h2, h24, h296, h297, h298, hrow, Fr.refl _ _⟩ ?_
  rintro n a w1 ⟨i, hin, a0, a2, a24, a296, a297, a298, hr1, hf1⟩
  by_cases hi : i < 8
  · refine refH_body a go bh i S w1 _ s2 a0 a2 a24 a296 a297 a298 hi ?_ hr1 ?_
    · rw [cell_of_row _ _ _ _ _ _ ((hf1.block bh (Array.getElem?_eq_some_iff.1 hh).1 hne).trans hh), List.getElem?_toArray]
      exact (icells_get (l := S.list) hi).trans (by rw [List.getD_eq_getElem?_getD])
    · intro fr' w2 b0 b2 b24 b296 b297 b298 hr2 hf2
      exact ⟨n - 1, by omega, i + 1, by omega, b0, b2, b24, b296, b297, b298, hr2, hf1.trans hf2 (fun _ _ h => h)⟩
  · obtain rfl : i = 8 := by omega
    refine refH_exit a w1 _ a0 a297 a298 (fun fr' b0 b2 b24 => hQ fr' w1 b0 (b2.trans a2) (b24.trans a24) ?_ hf1)
    rw [← outC_all]
    exact hr1
end Go.Proofs.YtlfeofakggkebaaDoor
