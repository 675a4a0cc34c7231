/- The reference's Sum: a block's first sixteen words. -/
import Derived.Test.YtlfeofakggkebaaDoorRefFrame
import Derived.Deep.RegionHeld3
namespace Go.Proofs.YtlfeofakggkebaaDoor
open Go.RowKit

theorem below_drew {B : Nat} {a w : World} (h : Below B a w) : Below B a w.drew := ⟨h.os, h.tape, h.output, h.size, h.block⟩
theorem be4_sum (a b c d : UInt8) : (a.toNat : Int) * 16777216 + (b.toNat : Int) * 65536 + (c.toNat : Int) * 256 + (d.toNat : Int) = ((be4 a b c d).toNat : Int) := by
  have h0 := a.toNat_lt
  have h1 := b.toNat_lt
  have h2 := c.toNat_lt
  have h3 := d.toNat_lt
  have e : (be4 a b c d).toNat = a.toNat * 16777216 + b.toNat * 65536 + c.toNat * 256 + d.toNat := by
    unfold be4
    rw [UInt32.toNat_or, UInt32.toNat_or, UInt32.toNat_or, UInt32.toNat_shiftLeft, UInt32.toNat_shiftLeft, UInt32.toNat_shiftLeft, UInt8.toNat_toUInt32, UInt8.toNat_toUInt32, UInt8.toNat_toUInt32, UInt8.toNat_toUInt32]
    show (a.toNat <<< 24 % 2 ^ 32 ||| b.toNat <<< 16 % 2 ^ 32 ||| c.toNat <<< 8 % 2 ^ 32) ||| d.toNat = _
    rw [Nat.shiftLeft_eq, Nat.shiftLeft_eq, Nat.shiftLeft_eq, Nat.mod_eq_of_lt (by omega), Nat.mod_eq_of_lt (by omega), Nat.mod_eq_of_lt (by omega)]
    rw [← Nat.shiftLeft_eq a.toNat 24, ← Nat.shiftLeft_add_eq_or_of_lt (by omega : b.toNat * 2 ^ 16 < 2 ^ 24), Nat.shiftLeft_eq]
    rw [show a.toNat * 2 ^ 24 + b.toNat * 2 ^ 16 = (a.toNat * 256 + b.toNat) * 2 ^ 16 by omega, ← Nat.shiftLeft_eq (a.toNat * 256 + b.toNat) 16, ← Nat.shiftLeft_add_eq_or_of_lt (by omega : c.toNat * 2 ^ 8 < 2 ^ 16), Nat.shiftLeft_eq]
    rw [show (a.toNat * 256 + b.toNat) * 2 ^ 16 + c.toNat * 2 ^ 8 = (a.toNat * 65536 + b.toNat * 256 + c.toNat) * 2 ^ 8 by omega, ← Nat.shiftLeft_eq (a.toNat * 65536 + b.toNat * 256 + c.toNat) 8, ← Nat.shiftLeft_add_eq_or_of_lt (by omega : d.toNat < 2 ^ 8), Nat.shiftLeft_eq]
  rw [e]
  omega
theorem icells_be4 (a b c d : UInt8) : icells [be4 a b c d] = [Value.int .i64 ((a.toNat : Int) * 16777216 + (b.toNat : Int) * 65536 + (c.toNat : Int) * 256 + (d.toNat : Int))] := by
  rw [be4_sum]
  rfl
theorem be4_wraps (x0 x1 x2 x3 : UInt8) : #[Value.int IntKind.i64 (IntKind.i64.wrap (IntKind.i64.wrap (IntKind.i64.wrap (IntKind.i64.wrap (IntKind.i64.wrap (x0.toNat : Int) * 16777216) + IntKind.i64.wrap (IntKind.i64.wrap (x1.toNat : Int) * 65536)) + IntKind.i64.wrap (IntKind.i64.wrap (x2.toNat : Int) * 256)) + IntKind.i64.wrap (x3.toNat : Int)))].toList =
    [Value.int IntKind.i64 ((x0.toNat : Int) * 16777216 + (x1.toNat : Int) * 65536 + (x2.toNat : Int) * 256 + (x3.toNat : Int))] := by
  have h0 := x0.toNat_lt
  have h1 := x1.toNat_lt
  have h2 := x2.toNat_lt
  have h3 := x3.toNat_lt
  rw [IntWalk.i64_in (x0.toNat : Int) (by omega), IntWalk.i64_in (x1.toNat : Int) (by omega), IntWalk.i64_in (x2.toNat : Int) (by omega), IntWalk.i64_in (x3.toNat : Int) (by omega),
    IntWalk.i64_in ((x0.toNat : Int) * 16777216) (by omega), IntWalk.i64_in ((x1.toNat : Int) * 65536) (by omega), IntWalk.i64_in ((x2.toNat : Int) * 256) (by omega),
    IntWalk.i64_in ((x0.toNat : Int) * 16777216 + (x1.toNat : Int) * 65536) (by omega), IntWalk.i64_in ((x0.toNat : Int) * 16777216 + (x1.toNat : Int) * 65536 + (x2.toNat : Int) * 256) (by omega), IntWalk.i64_in _ (by omega)]
theorem block_word (all : List UInt8) (a i : Nat) (hi : i < 16) : sched ((all.drop a).take 64) (i + 1) = sched ((all.drop a).take 64) i ++ [be4 (all.getD (a + 4 * i) 0) (all.getD (a + 4 * i + 1) 0) (all.getD (a + 4 * i + 2) 0) (all.getD (a + 4 * i + 3) 0)] := by
  have e : ∀ k, k < 64 → ((all.drop a).take 64).getD k 0 = all.getD (a + k) 0 := fun k hk => by
    simp only [List.getD_eq_getElem?_getD, List.getElem?_take, List.getElem?_drop, hk, if_true]
  simp only [sched, wNext, hi, if_true]
  rw [e _ (by omega), e _ (by omega), e _ (by omega), e _ (by omega)]
  rfl

set_option maxHeartbeats 4000000 in
set_option maxRecDepth 100000 in
theorem refA (fr : Act) (s2 s6 s7 s17 : Value) (ba oa N cap' a : Nat) (all : List UInt8) (w : World) (Q : Exit → Act → World → Prop)
    (hfr : IsFR fr s2 (.slice (some ⟨ba, oa, none⟩) N cap') s6 s7 (.int .i64 (a : Int)) (.slice (some ⟨w.heap.size, 0, none⟩) 0 0) s17) (h10 : Act.slot fr 10 = .int .i64 0)
    (ha : a + 64 ≤ N) (hN : N ≤ 549755814400) (hc : ∀ k, k < N → w.cell? ⟨ba, oa + k, none⟩ = some (.int .u8 ((all.getD k 0).toNat : Int)))
    (hQ : ∀ (fr' : Act) (w' : World) (A : Option Addr) (c : Nat), IsFR fr' s2 (.slice (some ⟨ba, oa, none⟩) N cap') s6 s7 (.int .i64 (a : Int)) (.slice A 16 c) s17 →
      OI w' w.heap.size (.slice A 16 c) (sched ((all.drop a).take 64) 16) → Below w.heap.size w w' → Q (.exit 6) fr' w') :
    Code.wp Tryd.prog (.loop (lpOf Tryd.f96.body 3)) Q fr (w.alloc (.cells #[] 3)) := by
  have HQ := Lib.hid hQ
  have Hc := Lib.hid hc
  clear hQ hc
  unfold IsFR at hfr
  generalize Act.slot fr = f at *
  subst hfr
  unfold FR
  rw [h10]
  conv => arg 2; arg 1; whnf
  clear h10
  have HN := Lib.hid hN
  go_loopg [9, 10] 16 (fun k s9 s10 wr => ∃ (A : Option Addr) (c i : Nat), s9 = .slice A i c ∧ s10 = .int .i64 (i : Int) ∧ i + k = 16 ∧ OI wr w.heap.size (.slice A i c) (sched ((all.drop a).take 64) i) ∧ Below w.heap.size w wr)
  case atStart => exact ⟨_, _, 0, rfl, rfl, rfl, OI.lit w w.heap.size (Nat.le_refl _) [] 0 rfl (by decide), (Below.refl _ w).alloc (Nat.le_refl _) _⟩
  case round =>
    obtain ⟨A, c, i, rfl, rfl, hik, hown, hbel⟩ := hrel
    have Hown := Lib.hid hown
    have Hbel := Lib.hid hbel
    clear hown hbel
    by_cases hi : i < 16
    · /-S-/
      have hbc : ∀ j, j < 4 → wr.cell? ⟨ba, oa + (a + 4 * i + j), none⟩ = some (.int .u8 ((all.getD (a + 4 * i + j) 0).toNat : Int)) := fun j hj => Keeps.of_below Hbel.out _ _ (Hc.out _ (by omega))
      have b0 := hbc 0 (by omega)
      have b1 := hbc 1 (by omega)
      have b2 := hbc 2 (by omega)
      have b3 := hbc 3 (by omega)
      have Hx := Lib.hid (block_word all a i hi)
      rw [Nat.add_zero] at b0
      clear hbc
      generalize all.getD (a + 4 * i) 0 = x0 at *
      generalize all.getD (a + 4 * i + 1) 0 = x1 at *
      generalize all.getD (a + 4 * i + 2) 0 = x2 at *
      generalize all.getD (a + 4 * i + 3) 0 = x3 at *
      go_wp2_with fail
      have hx0 := x0.toNat_lt
      have hx1 := x1.toNat_lt
      have hx2 := x2.toNat_lt
      have hx3 := x3.toNat_lt
      have m1 : IntKind.i64.wrap ((a : Int) + 4 * (i : Int) + 1) = (a : Int) + 4 * (i : Int) + 1 := IntWalk.i64_in _ (by omega)
      have m2 : IntKind.i64.wrap ((a : Int) + 4 * (i : Int) + 2) = (a : Int) + 4 * (i : Int) + 2 := IntWalk.i64_in _ (by omega)
      have m3 : IntKind.i64.wrap ((a : Int) + 4 * (i : Int) + 3) = (a : Int) + 4 * (i : Int) + 3 := IntWalk.i64_in _ (by omega)
      have p0 : (0 : Int) ≤ (a : Int) + 4 * (i : Int) := by omega
      have p1 : (0 : Int) ≤ (a : Int) + 4 * (i : Int) + 1 := by omega
      have p2 : (0 : Int) ≤ (a : Int) + 4 * (i : Int) + 2 := by omega
      have p3 : (0 : Int) ≤ (a : Int) + 4 * (i : Int) + 3 := by omega
      have q0 : (a : Int) + 4 * (i : Int) < (N : Int) := by omega
      have q1 : (a : Int) + 4 * (i : Int) + 1 < (N : Int) := by omega
      have q2 : (a : Int) + 4 * (i : Int) + 2 < (N : Int) := by omega
      have q3 : (a : Int) + 4 * (i : Int) + 3 < (N : Int) := by omega
      have t0 : ((a : Int) + 4 * (i : Int)).toNat = a + 4 * i := by omega
      have t1 : ((a : Int) + 4 * (i : Int) + 1).toNat = a + 4 * i + 1 := by omega
      have t2 : ((a : Int) + 4 * (i : Int) + 2).toNat = a + 4 * i + 2 := by omega
      have t3 : ((a : Int) + 4 * (i : Int) + 3).toNat = a + 4 * i + 3 := by omega
      have v0 : IntKind.i64.wrap ((x0.toNat : Int) * 16777216) = (x0.toNat : Int) * 16777216 := IntWalk.i64_in _ (by omega)
      have v1 : IntKind.i64.wrap ((x1.toNat : Int) * 65536) = (x1.toNat : Int) * 65536 := IntWalk.i64_in _ (by omega)
      have v2 : IntKind.i64.wrap ((x2.toNat : Int) * 256) = (x2.toNat : Int) * 256 := IntWalk.i64_in _ (by omega)
      have s1 : IntKind.i64.wrap ((x0.toNat : Int) * 16777216 + (x1.toNat : Int) * 65536) = (x0.toNat : Int) * 16777216 + (x1.toNat : Int) * 65536 := IntWalk.i64_in _ (by omega)
      have s2 : IntKind.i64.wrap ((x0.toNat : Int) * 16777216 + (x1.toNat : Int) * 65536 + (x2.toNat : Int) * 256) = (x0.toNat : Int) * 16777216 + (x1.toNat : Int) * 65536 + (x2.toNat : Int) * 256 := IntWalk.i64_in _ (by omega)
      have s3 : IntKind.i64.wrap ((x0.toNat : Int) * 16777216 + (x1.toNat : Int) * 65536 + (x2.toNat : Int) * 256 + (x3.toNat : Int)) = (x0.toNat : Int) * 16777216 + (x1.toNat : Int) * 65536 + (x2.toNat : Int) * 256 + (x3.toNat : Int) := IntWalk.i64_in _ (by omega)
      have hba : ba < w.heap.size := World.block_lt_of_cell? w _ (Hc.out (a + 4 * i) (by omega))
      have Hfar := Lib.hid (fun k (hk : (Value.slice A i c).ownBlock = some k) => (show k ≠ ba by have := (Hown.out.lt k hk).1; omega))
      go_region_held3 (fun w' => w'.cell? ⟨ba, oa + (a + 4 * i), none⟩ = some (.int .u8 (x0.toNat : Int)) ∧ w'.cell? ⟨ba, oa + (a + 4 * i + 1), none⟩ = some (.int .u8 (x1.toNat : Int)) ∧ w'.cell? ⟨ba, oa + (a + 4 * i + 2), none⟩ = some (.int .u8 (x2.toNat : Int)) ∧ w'.cell? ⟨ba, oa + (a + 4 * i + 3), none⟩ = some (.int .u8 (x3.toNat : Int))) (go_keep)
        (first | ((refine step_append_i rfl (.tmp 74) (.tmp 104) 198 rfl (Hown.out.alloc _) rfl (Src.liti wr.drew _ [be4 x0 x1 x2 x3] (by rw [icells_be4]; exact be4_wraps x0 x1 x2 x3) 1 1 rfl) rfl (by simp [sched_length]; omega) (by have := Hbel.out.size; simp; omega) ?_; intro v2 w2 hown2 hgr2 hat2; have k0 := grown_cell hgr2 (Keeps.of_below ((Below.refl _ wr).alloc (Nat.le_refl _) _) _ _ b0) (fun e => Hfar.out _ e rfl); have k1 := grown_cell hgr2 (Keeps.of_below ((Below.refl _ wr).alloc (Nat.le_refl _) _) _ _ b1) (fun e => Hfar.out _ e rfl); have k2 := grown_cell hgr2 (Keeps.of_below ((Below.refl _ wr).alloc (Nat.le_refl _) _) _ _ b2) (fun e => Hfar.out _ e rfl); have k3 := grown_cell hgr2 (Keeps.of_below ((Below.refl _ wr).alloc (Nat.le_refl _) _) _ _ b3) (fun e => Hfar.out _ e rfl); rw [← Hx.out] at hown2; obtain ⟨A2, c2, hv2, hc2, hm2, hr2⟩ := hown2.form; rw [sched_length] at hv2; subst hv2; have Hown2 := Lib.hid hown2; have Hgr2 := Lib.hid hgr2; clear hown2 hgr2 hat2 hr2)))
      clear m1 m2 m3 p0 p1 p2 p3 q0 q1 q2 q3 t0 t1 t2 t3 v0 v1 v2 s1 s2 s3
      go_wp2
      go_roundg (gk - 1)
      case measure => omega
      case rel => exact ⟨A2, c2, i + 1, rfl, by go_num, by omega, Hown2.out, below_append_i ((below_drew Hbel.out).alloc Hbel.out.size _) Hgr2.out (Hown.out.alloc _) (Nat.le_refl _) (by have := Hbel.out.size; simp; omega)⟩
      /-E-/
    · obtain rfl : i = 16 := by omega
      go_wp2
      refine HQ.out _ _ A c rfl Hown.out Hbel.out
end Go.Proofs.YtlfeofakggkebaaDoor
