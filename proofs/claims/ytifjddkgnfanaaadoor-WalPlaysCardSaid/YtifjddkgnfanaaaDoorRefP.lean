/- The reference's Sum: a block's first sixteen words. -/
import Derived.Test.YtifjddkgnfanaaaDoorRefFrame
import Derived.Deep.LoopGhost
import Derived.Deep.RegionHeld3
import Derived.Deep.RegionLaw
import Derived.StillTailTactics
namespace Go.Proofs.YtifjddkgnfanaaaDoor
open Go.RowKit

theorem below_drew {B : Nat} {a w : World} (h : Below B a w) : Below B a w.drew := ⟨h.os, h.tape, h.output, h.size, h.block⟩
theorem be4_sum (a b c d : UInt8) : (a.toNat : Int) * 16777216 + (b.toNat : Int) * 65536 + (c.toNat : Int) * 256 + (d.toNat : Int) = ((be4 a b c d).toNat : Int) := by
  have h0 := a.toNat_lt
  have h1 := b.toNat_lt
  have h2 := c.toNat_lt
  have h3 := d.toNat_lt
  have e : (be4 a b c d).toNat = a.toNat * 16777216 + b.toNat * 65536 + c.toNat * 256 + d.toNat := by
    unfold be4
    rw [UInt32.toNat_or, UInt32.toNat_or, UInt32.toNat_or, UInt32.toNat_shiftLeft, UInt32.toNat_shiftLeft, UInt32.toNat_shiftLeft, UInt8.toNat_toUInt32, UInt8.toNat_toUInt32, UInt8.toNat_toUInt32, UInt8.toNat_toUInt32]
    show (a.toNat <<< 24 % 2 ^ 32 ||| b.toNat <<< 16 % 2 ^ 32 ||| c.toNat <<< 8 % 2 ^ 32) ||| d.toNat = _
    rw [Nat.shiftLeft_eq, Nat.shiftLeft_eq, Nat.shiftLeft_eq, Nat.mod_eq_of_lt (by omega), Nat.mod_eq_of_lt (by omega), Nat.mod_eq_of_lt (by omega)]
    rw [← Nat.shiftLeft_eq a.toNat 24, ← Nat.shiftLeft_add_eq_or_of_lt (by omega : b.toNat * 2 ^ 16 < 2 ^ 24), Nat.shiftLeft_eq]
    rw [show a.toNat * 2 ^ 24 + b.toNat * 2 ^ 16 = (a.toNat * 256 + b.toNat) * 2 ^ 16 by omega, ← Nat.shiftLeft_eq (a.toNat * 256 + b.toNat) 16, ← Nat.shiftLeft_add_eq_or_of_lt (by omega : c.toNat * 2 ^ 8 < 2 ^ 16), Nat.shiftLeft_eq]
    rw [show (a.toNat * 256 + b.toNat) * 2 ^ 16 + c.toNat * 2 ^ 8 = (a.toNat * 65536 + b.toNat * 256 + c.toNat) * 2 ^ 8 by omega, ← Nat.shiftLeft_eq (a.toNat * 65536 + b.toNat * 256 + c.toNat) 8, ← Nat.shiftLeft_add_eq_or_of_lt (by omega : d.toNat < 2 ^ 8), Nat.shiftLeft_eq]
  rw [e]
  omega
theorem icells_be4 (a b c d : UInt8) : icells [be4 a b c d] = [Value.int .i64 ((a.toNat : Int) * 16777216 + (b.toNat : Int) * 65536 + (c.toNat : Int) * 256 + (d.toNat : Int))] := by
  rw [be4_sum]
  rfl
theorem be4_wraps (x0 x1 x2 x3 : UInt8) : #[Value.int IntKind.i64 (IntKind.i64.wrap (IntKind.i64.wrap (IntKind.i64.wrap (IntKind.i64.wrap (IntKind.i64.wrap (x0.toNat : Int) * 16777216) + IntKind.i64.wrap (IntKind.i64.wrap (x1.toNat : Int) * 65536)) + IntKind.i64.wrap (IntKind.i64.wrap (x2.toNat : Int) * 256)) + IntKind.i64.wrap (x3.toNat : Int)))].toList =
    [Value.int IntKind.i64 ((x0.toNat : Int) * 16777216 + (x1.toNat : Int) * 65536 + (x2.toNat : Int) * 256 + (x3.toNat : Int))] := by
  have h0 := x0.toNat_lt
  have h1 := x1.toNat_lt
  have h2 := x2.toNat_lt
  have h3 := x3.toNat_lt
  rw [IntWalk.i64_in (x0.toNat : Int) (by omega), IntWalk.i64_in (x1.toNat : Int) (by omega), IntWalk.i64_in (x2.toNat : Int) (by omega), IntWalk.i64_in (x3.toNat : Int) (by omega),
    IntWalk.i64_in ((x0.toNat : Int) * 16777216) (by omega), IntWalk.i64_in ((x1.toNat : Int) * 65536) (by omega), IntWalk.i64_in ((x2.toNat : Int) * 256) (by omega),
    IntWalk.i64_in ((x0.toNat : Int) * 16777216 + (x1.toNat : Int) * 65536) (by omega), IntWalk.i64_in ((x0.toNat : Int) * 16777216 + (x1.toNat : Int) * 65536 + (x2.toNat : Int) * 256) (by omega), IntWalk.i64_in _ (by omega)]
theorem block_word (all : List UInt8) (a i : Nat) (hi : i < 16) : sched ((all.drop a).take 64) (i + 1) = sched ((all.drop a).take 64) i ++ [be4 (all.getD (a + 4 * i) 0) (all.getD (a + 4 * i + 1) 0) (all.getD (a + 4 * i + 2) 0) (all.getD (a + 4 * i + 3) 0)] := by
  have e : ∀ k, k < 64 → ((all.drop a).take 64).getD k 0 = all.getD (a + k) 0 := fun k hk => by
    simp only [List.getD_eq_getElem?_getD, List.getElem?_take, List.getElem?_drop, hk, if_true]
  simp only [sched, wNext, hi, if_true]
  rw [e _ (by omega), e _ (by omega), e _ (by omega), e _ (by omega)]
  rfl

set_option maxHeartbeats 4000000 in
set_option maxRecDepth 100000 in
theorem refA (fr : Act) (s2 s6 s7 s17 : Value) (ba oa N cap' a : Nat) (all : List UInt8) (w : World) (Q : Exit → Act → World → Prop)
    (hfr : IsFR fr s2 (.slice (some ⟨ba, oa, none⟩) N cap') s6 s7 (.int .i64 (a : Int)) (.slice (some ⟨w.heap.size, 0, none⟩) 0 0) s17) (h10 : Act.slot fr 10 = .int .i64 0)
    (ha : a + 64 ≤ N) (hN : N ≤ 549755814400) (hc : ∀ k, k < N → w.cell? ⟨ba, oa + k, none⟩ = some (.int .u8 ((all.getD k 0).toNat : Int)))
    (hQ : ∀ (fr' : Act) (w' : World) (A : Option Addr) (c : Nat), IsFR fr' s2 (.slice (some ⟨ba, oa, none⟩) N cap') s6 s7 (.int .i64 (a : Int)) (.slice A 16 c) s17 →
      OI w' w.heap.size (.slice A 16 c) (sched ((all.drop a).take 64) 16) → Below w.heap.size w w' → Q (.exit 6) fr' w') :
    Code.wp Tryd.prog (.loop (lpOf Tryd.f76.body 3)) Q fr (w.alloc (.cells #[] 3)) := by
  have HQ := Lib.hid hQ
  have Hc := Lib.hid hc
  clear hQ hc
  unfold IsFR at hfr
  generalize Act.slot fr = f at *
  subst hfr
  unfold FR
  rw [h10]
  conv => arg 2; arg 1; whnf
  clear h10
  have HN := Lib.hid hN
  go_loopg [9, 10] 16 (fun k s9 s10 wr => ∃ (A : Option Addr) (c i : Nat), s9 = .slice A i c ∧ s10 = .int .i64 (i : Int) ∧ i + k = 16 ∧ OI wr w.heap.size (.slice A i c) (sched ((all.drop a).take 64) i) ∧ Below w.heap.size w wr)
  case atStart => exact ⟨_, _, 0, rfl, rfl, rfl, OI.lit w w.heap.size (Nat.le_refl _) [] 0 rfl (by decide), (Below.refl _ w).alloc (Nat.le_refl _) _⟩
  case round =>
    obtain ⟨A, c, i, rfl, rfl, hik, hown, hbel⟩ := hrel
    have Hown := Lib.hid hown
    have Hbel := Lib.hid hbel
    clear hown hbel
    by_cases hi : i < 16
    · /-S-/
      have hbc : ∀ j, j < 4 → wr.cell? ⟨ba, oa + (a + 4 * i + j), none⟩ = some (.int .u8 ((all.getD (a + 4 * i + j) 0).toNat : Int)) := fun j hj => Keeps.of_below Hbel.out _ _ (Hc.out _ (by omega))
      have b0 := hbc 0 (by omega)
      have b1 := hbc 1 (by omega)
      have b2 := hbc 2 (by omega)
      have b3 := hbc 3 (by omega)
      have Hx := Lib.hid (block_word all a i hi)
      rw [Nat.add_zero] at b0
      clear hbc
      generalize all.getD (a + 4 * i) 0 = x0 at *
      generalize all.getD (a + 4 * i + 1) 0 = x1 at *
      generalize all.getD (a + 4 * i + 2) 0 = x2 at *
      generalize all.getD (a + 4 * i + 3) 0 = x3 at *
      go_wp2_with fail
      have hx0 := x0.toNat_lt
      have hx1 := x1.toNat_lt
      have hx2 := x2.toNat_lt
      have hx3 := x3.toNat_lt
      have m1 : IntKind.i64.wrap ((a : Int) + 4 * (i : Int) + 1) = (a : Int) + 4 * (i : Int) + 1 := IntWalk.i64_in _ (by omega)
      have m2 : IntKind.i64.wrap ((a : Int) + 4 * (i : Int) + 2) = (a : Int) + 4 * (i : Int) + 2 := IntWalk.i64_in _ (by omega)
      have m3 : IntKind.i64.wrap ((a : Int) + 4 * (i : Int) + 3) = (a : Int) + 4 * (i : Int) + 3 := IntWalk.i64_in _ (by omega)
      have p0 : (0 : Int) ≤ (a : Int) + 4 * (i : Int) := by omega
      have p1 : (0 : Int) ≤ (a : Int) + 4 * (i : Int) + 1 := by omega
      have p2 : (0 : Int) ≤ (a : Int) + 4 * (i : Int) + 2 := by omega
      have p3 : (0 : Int) ≤ (a : Int) + 4 * (i : Int) + 3 := by omega
      have q0 : (a : Int) + 4 * (i : Int) < (N : Int) := by omega
      have q1 : (a : Int) + 4 * (i : Int) + 1 < (N : Int) := by omega
      have q2 : (a : Int) + 4 * (i : Int) + 2 < (N : Int) := by omega
      have q3 : (a : Int) + 4 * (i : Int) + 3 < (N : Int) := by omega
      have t0 : ((a : Int) + 4 * (i : Int)).toNat = a + 4 * i := by omega
      have t1 : ((a : Int) + 4 * (i : Int) + 1).toNat = a + 4 * i + 1 := by omega
      have t2 : ((a : Int) + 4 * (i : Int) + 2).toNat = a + 4 * i + 2 := by omega
      have t3 : ((a : Int) + 4 * (i : Int) + 3).toNat = a + 4 * i + 3 := by omega
      have v0 : IntKind.i64.wrap ((x0.toNat : Int) * 16777216) = (x0.toNat : Int) * 16777216 := IntWalk.i64_in _ (by omega)
      have v1 : IntKind.i64.wrap ((x1.toNat : Int) * 65536) = (x1.toNat : Int) * 65536 := IntWalk.i64_in _ (by omega)
      have v2 : IntKind.i64.wrap ((x2.toNat : Int) * 256) = (x2.toNat : Int) * 256 := IntWalk.i64_in _ (by omega)
      have s1 : IntKind.i64.wrap ((x0.toNat : Int) * 16777216 + (x1.toNat : Int) * 65536) = (x0.toNat : Int) * 16777216 + (x1.toNat : Int) * 65536 := IntWalk.i64_in _ (by omega)
      have s2 : IntKind.i64.wrap ((x0.toNat : Int) * 16777216 + (x1.toNat : Int) * 65536 + (x2.toNat : Int) * 256) = (x0.toNat : Int) * 16777216 + (x1.toNat : Int) * 65536 + (x2.toNat : Int) * 256 := IntWalk.i64_in _ (by omega)
      have s3 : IntKind.i64.wrap ((x0.toNat : Int) * 16777216 + (x1.toNat : Int) * 65536 + (x2.toNat : Int) * 256 + (x3.toNat : Int)) = (x0.toNat : Int) * 16777216 + (x1.toNat : Int) * 65536 + (x2.toNat : Int) * 256 + (x3.toNat : Int) := IntWalk.i64_in _ (by omega)
      have hba : ba < w.heap.size := World.block_lt_of_cell? w _ (Hc.out (a + 4 * i) (by omega))
      have Hfar := Lib.hid (fun k (hk : (Value.slice A i c).ownBlock = some k) => (show k ≠ ba by have := (Hown.out.lt k hk).1; omega))
      go_region_held3 (fun w' => w'.cell? ⟨ba, oa + (a + 4 * i), none⟩ = some (.int .u8 (x0.toNat : Int)) ∧ w'.cell? ⟨ba, oa + (a + 4 * i + 1), none⟩ = some (.int .u8 (x1.toNat : Int)) ∧ w'.cell? ⟨ba, oa + (a + 4 * i + 2), none⟩ = some (.int .u8 (x2.toNat : Int)) ∧ w'.cell? ⟨ba, oa + (a + 4 * i + 3), none⟩ = some (.int .u8 (x3.toNat : Int))) (go_keep)
        (first | ((refine step_append_i rfl (.tmp 74) (.tmp 104) 130 rfl (Hown.out.alloc _) rfl (Src.liti wr.drew _ [be4 x0 x1 x2 x3] (by rw [icells_be4]; exact be4_wraps x0 x1 x2 x3) 1 1 rfl) rfl (by simp [sched_length]; omega) (by have := Hbel.out.size; simp; omega) ?_; intro v2 w2 hown2 hgr2 hat2; have k0 := grown_cell hgr2 (Keeps.of_below ((Below.refl _ wr).alloc (Nat.le_refl _) _) _ _ b0) (fun e => Hfar.out _ e rfl); have k1 := grown_cell hgr2 (Keeps.of_below ((Below.refl _ wr).alloc (Nat.le_refl _) _) _ _ b1) (fun e => Hfar.out _ e rfl); have k2 := grown_cell hgr2 (Keeps.of_below ((Below.refl _ wr).alloc (Nat.le_refl _) _) _ _ b2) (fun e => Hfar.out _ e rfl); have k3 := grown_cell hgr2 (Keeps.of_below ((Below.refl _ wr).alloc (Nat.le_refl _) _) _ _ b3) (fun e => Hfar.out _ e rfl); rw [← Hx.out] at hown2; obtain ⟨A2, c2, hv2, hc2, hm2, hr2⟩ := hown2.form; rw [sched_length] at hv2; subst hv2; have Hown2 := Lib.hid hown2; have Hgr2 := Lib.hid hgr2; clear hown2 hgr2 hat2 hr2)))
      clear m1 m2 m3 p0 p1 p2 p3 q0 q1 q2 q3 t0 t1 t2 t3 v0 v1 v2 s1 s2 s3
      go_wp2
      go_roundg (gk - 1)
      case measure => omega
      case rel => exact ⟨A2, c2, i + 1, rfl, by go_num, by omega, Hown2.out, below_append_i ((below_drew Hbel.out).alloc Hbel.out.size _) Hgr2.out (Hown.out.alloc _) (Nat.le_refl _) (by have := Hbel.out.size; simp; omega)⟩
      /-E-/
    · obtain rfl : i = 16 := by omega
      go_wp2
      refine HQ.out _ _ A c rfl Hown.out Hbel.out
end Go.Proofs.YtifjddkgnfanaaaDoor

/- The reference's Sum: a block's other words. -/
namespace Go.Proofs.YtifjddkgnfanaaaDoor
open Go.RowKit

theorem turn_i (x : UInt32) (i : Int) (w : World) (h0 : 0 < i) (h : i < 32) :
    Calls Tryd.prog 82 #[.int .i64 (x.toNat : Int), .int .i64 i] w fun e w' => e = .returned (.int .i64 ((rotr x i.toNat).toNat : Int)) ∧ w' = w := by
  obtain ⟨n, rfl⟩ := Int.eq_ofNat_of_zero_le (Int.le_of_lt h0)
  exact turn_any x n w (by omega) (by omega)

theorem wnext_ints (x16 x15 x7 x2 : UInt32) :
    bits .xor .i64 (bits .xor .i64 ((rotr x15 7).toNat : Int) ((rotr x15 18).toNat : Int)) ((x15.toNat : Int) / 8) = ((sig0 x15).toNat : Int) ∧
    bits .xor .i64 (bits .xor .i64 ((rotr x2 17).toNat : Int) ((rotr x2 19).toNat : Int)) ((x2.toNat : Int) / 1024) = ((sig1 x2).toNat : Int) ∧
    IntKind.i64.wrap ((x16.toNat : Int) + ((sig0 x15).toNat : Int)) = (x16.toNat : Int) + ((sig0 x15).toNat : Int) ∧
    IntKind.i64.wrap ((x16.toNat : Int) + ((sig0 x15).toNat : Int) + (x7.toNat : Int)) = (x16.toNat : Int) + ((sig0 x15).toNat : Int) + (x7.toNat : Int) ∧
    IntKind.i64.wrap ((x16.toNat : Int) + ((sig0 x15).toNat : Int) + (x7.toNat : Int) + ((sig1 x2).toNat : Int)) = (x16.toNat : Int) + ((sig0 x15).toNat : Int) + (x7.toNat : Int) + ((sig1 x2).toNat : Int) ∧
    bits .and .i64 ((x16.toNat : Int) + ((sig0 x15).toNat : Int) + (x7.toNat : Int) + ((sig1 x2).toNat : Int)) 4294967295 = ((x16 + sig0 x15 + x7 + sig1 x2).toNat : Int) := by
  have h8 := shr32 x15 3 (by decide)
  have h10 := shr32 x2 10 (by decide)
  rw [show (2 : Int) ^ 3 = 8 by decide] at h8
  rw [show (2 : Int) ^ 10 = 1024 by decide] at h10
  have a1 := x16.toNat_lt
  have a2 := (sig0 x15).toNat_lt
  have a3 := x7.toNat_lt
  have a4 := (sig1 x2).toNat_lt
  refine ⟨by rw [h8, i_xor, i_xor]; rfl, by rw [h10, i_xor, i_xor]; rfl, IntWalk.i64_in _ (by omega), IntWalk.i64_in _ (by omega), IntWalk.i64_in _ (by omega), ?_⟩
  have e : ((x16.toNat : Int) + ((sig0 x15).toNat : Int) + (x7.toNat : Int) + ((sig1 x2).toNat : Int)) = ((x16.toNat + (sig0 x15).toNat + x7.toNat + (sig1 x2).toNat : Nat) : Int) := by omega
  rw [e, i64_mask _ (by omega), UInt32.toNat_add, UInt32.toNat_add, UInt32.toNat_add]
  omega

theorem wnext_mod (x16 x15 x7 x2 : UInt32) : ((x16.toNat : Int) + ((sig0 x15).toNat : Int) + (x7.toNat : Int) + ((sig1 x2).toNat : Int)) % 4294967296 = ((x16 + sig0 x15 + x7 + sig1 x2).toNat : Int) := by
  rw [UInt32.toNat_add, UInt32.toNat_add, UInt32.toNat_add]
  omega

set_option maxHeartbeats 4000000 in
set_option maxRecDepth 100000 in
theorem refB (fr : Act) (s2 s3 s6 s7 s8 s17 : Value) (A0 : Option Addr) (c0 B : Nat) (bl : List UInt8) (w : World) (Q : Exit → Act → World → Prop)
    (hfr : IsFR fr s2 s3 s6 s7 s8 (.slice A0 16 c0) s17) (h12 : Act.slot fr 12 = .int .i64 16)
    (hB : B ≤ w.heap.size) (hown0 : OI w B (.slice A0 16 c0) (sched bl 16))
    (hQ : ∀ (fr' : Act) (w' : World) (A : Option Addr) (c : Nat), IsFR fr' s2 s3 s6 s7 s8 (.slice A 64 c) s17 →
      OI w' B (.slice A 64 c) (sched bl 64) → Below B w w' → Q (.exit 8) fr' w') :
    Code.wp Tryd.prog (.loop (lpOf Tryd.f76.body 4)) Q fr w := by
  have HQ := Lib.hid hQ
  have Hown0 := Lib.hid hown0
  clear hQ hown0
  unfold IsFR at hfr
  generalize Act.slot fr = f at *
  subst hfr
  unfold FR
  rw [h12]
  conv => arg 2; arg 1; whnf
  clear h12
  have HB := Lib.hid hB
  go_loopg [9, 12] 48 (fun k s9 s12 wr => ∃ (A : Option Addr) (c i : Nat), s9 = .slice A i c ∧ s12 = .int .i64 (i : Int) ∧ i + k = 64 ∧ 16 ≤ i ∧ OI wr B (.slice A i c) (sched bl i) ∧ Below B w wr)
  case atStart => exact ⟨_, _, 16, rfl, rfl, rfl, Nat.le_refl _, Hown0.out, Below.refl _ w⟩
  case round =>
    obtain ⟨A, c, i, rfl, rfl, hik, h16, hown, hbel⟩ := hrel
    have Hown := Lib.hid hown
    have Hbel := Lib.hid hbel
    clear hown hbel
    by_cases hi : i < 64
    · obtain ⟨b, o, hA, hcl⟩ := (OI.ir Hown.out (sched_length bl i).symm).2 (by omega)
      subst hA
      have ex : ∀ d, 0 < d → d ≤ 16 → wr.cell? ⟨b, o + (i - d), none⟩ = some (.int .i64 (((sched bl 64).getD (i - d) 0).toNat : Int)) := fun d h1 h2 => by
        rw [hcl (i - d) (by omega), sched_get bl (i - d) i (by omega), sched_get bl (i - d) 64 (by omega)]
      have e16 := ex 16 (by omega) (by omega)
      have e15 := ex 15 (by omega) (by omega)
      have e7 := ex 7 (by omega) (by omega)
      have e2 := ex 2 (by omega) (by omega)
      clear ex hcl
      have HS := Lib.hid (show sched bl (i + 1) = sched bl i ++ [(sched bl 64).getD (i - 16) 0 + sig0 ((sched bl 64).getD (i - 15) 0) + (sched bl 64).getD (i - 7) 0 + sig1 ((sched bl 64).getD (i - 2) 0)] by
        have h := sched_rec bl i hi
        rw [if_neg (by omega)] at h
        rw [← h, sched_get bl i 64 hi]
        rfl)
      generalize (sched bl 64).getD (i - 16) 0 = x16 at *
      generalize (sched bl 64).getD (i - 15) 0 = x15 at *
      generalize (sched bl 64).getD (i - 7) 0 = x7 at *
      generalize (sched bl 64).getD (i - 2) 0 = x2 at *
      have m16 : IntKind.i64.wrap ((i : Int) - 16) = (i : Int) - 16 := IntWalk.i64_in _ (by omega)
      have m15 : IntKind.i64.wrap ((i : Int) - 15) = (i : Int) - 15 := IntWalk.i64_in _ (by omega)
      have m7 : IntKind.i64.wrap ((i : Int) - 7) = (i : Int) - 7 := IntWalk.i64_in _ (by omega)
      have m2 : IntKind.i64.wrap ((i : Int) - 2) = (i : Int) - 2 := IntWalk.i64_in _ (by omega)
      have p16 : (16 : Int) ≤ (i : Int) := by omega
      have p15 : (15 : Int) ≤ (i : Int) := by omega
      have p7 : (7 : Int) ≤ (i : Int) := by omega
      have p2 : (2 : Int) ≤ (i : Int) := by omega
      have q16 : (i : Int) - 16 < (i : Int) := by omega
      have q15 : (i : Int) - 15 < (i : Int) := by omega
      have q7 : (i : Int) - 7 < (i : Int) := by omega
      have q2 : (i : Int) - 2 < (i : Int) := by omega
      have t16 : ((i : Int) - 16).toNat = i - 16 := by omega
      have t15 : ((i : Int) - 15).toNat = i - 15 := by omega
      have t7 : ((i : Int) - 7).toNat = i - 7 := by omega
      have t2 : ((i : Int) - 2).toNat = i - 2 := by omega
      go_wp2_with fail
      go_quiet (fail)
      go_wp2_with (first
        | (go_at_call 82; refine (turn_i _ _ _ (by decide) (by decide)).mono ?_; rintro e w' ⟨rfl, rfl⟩)
        | fail)
      have Hw := Lib.hid (wnext_ints x16 x15 x7 x2)
      rw [Hw.out.1, Hw.out.2.1]
      replace e16 : (wr.drewN nq).cell? ⟨b, o + (i - 16), none⟩ = some (.int .i64 (x16.toNat : Int)) := e16
      replace e7 : (wr.drewN nq).cell? ⟨b, o + (i - 7), none⟩ = some (.int .i64 (x7.toNat : Int)) := e7
      replace Hown : Hid (OI (wr.drewN nq) B (.slice (some ⟨b, o, none⟩) i c) (sched bl i)) := Hown
      replace Hbel : Hid (Below B w (wr.drewN nq)) := Lib.hid (below_drewN Hbel.out nq)
      clear e15 e2
      generalize wr.drewN nq = wd at *
      have Hlt := Lib.hid (World.block_lt_of_cell? wd _ e16)
      have w0 := Hw.out.2.2.1
      have w1 := Hw.out.2.2.2.1
      have w2 := Hw.out.2.2.2.2.1
      have Hz := Lib.hid Hw.out.2.2.2.2.2
      refine wp_region_noPanic ?_
      go_region_law
        (first | ((refine step_append_i rfl (.tmp 136) (.tmp 153) 130 rfl (Hown.out.alloc _) rfl (Src.liti wd.drew _ [x16 + sig0 x15 + x7 + sig1 x2] (by rw [Hz.out]; rfl) 1 1 rfl) rfl (by simp [sched_length]; omega) (by have := Hbel.out.size; have := HB.out; simp; omega) ?_; intro v2 w2 hown2 hgr2 hat2; rw [← HS.out] at hown2; obtain ⟨A2, c2, hv2, hc2, hm2, hr2⟩ := hown2.form; rw [sched_length] at hv2; subst hv2; have Hown2 := Lib.hid hown2; have Hgr2 := Lib.hid hgr2; clear hown2 hgr2 hat2 hr2)))
      all_goals
        refine NoPanic.normal ?_
        clear m16 m15 m7 m2 p16 p15 p7 p2 q16 q15 q7 q2 t16 t15 t7 t2
        go_wp2
        go_roundg (gk - 1)
        case measure => omega
        case rel => exact ⟨A2, c2, i + 1, rfl, by go_num, by omega, by omega, Hown2.out, below_append_i ((below_drew Hbel.out).alloc (Nat.le_trans HB.out Hbel.out.size) _) Hgr2.out (Hown.out.alloc _) (Nat.le_refl _) (by have := Hbel.out.size; have := HB.out; simp; omega)⟩
    · obtain rfl : i = 64 := by omega
      go_wp2
      refine HQ.out _ _ A c rfl Hown.out Hbel.out
end Go.Proofs.YtifjddkgnfanaaaDoor

/- The reference's Sum: a block's sixty-four rounds. -/
namespace Go.Proofs.YtifjddkgnfanaaaDoor
open Go.RowKit

theorem choice_or (e f g : UInt32) : e &&& f ||| ~~~e &&& g = choice e f g := by
  unfold choice
  apply UInt32.toBitVec_inj.1
  apply BitVec.eq_of_getLsbD_eq
  intro i hi
  simp only [UInt32.toBitVec_or, UInt32.toBitVec_and, UInt32.toBitVec_not, UInt32.toBitVec_xor, BitVec.getLsbD_or, BitVec.getLsbD_and, BitVec.getLsbD_xor, BitVec.getLsbD_not, hi, decide_true, Bool.true_and]
  cases e.toBitVec.getLsbD i <;> cases f.toBitVec.getLsbD i <;> cases g.toBitVec.getLsbD i <;> rfl
theorem most_or (a b c : UInt32) : a &&& b ||| a &&& c ||| b &&& c = most a b c := by
  unfold most
  apply UInt32.toBitVec_inj.1
  apply BitVec.eq_of_getLsbD_eq
  intro i hi
  simp only [UInt32.toBitVec_or, UInt32.toBitVec_and, UInt32.toBitVec_xor, BitVec.getLsbD_or, BitVec.getLsbD_and, BitVec.getLsbD_xor]
  cases a.toBitVec.getLsbD i <;> cases b.toBitVec.getLsbD i <;> cases c.toBitVec.getLsbD i <;> rfl

/-- Round i's frame: as FR, with slot 18. -/
def IsFR18 (a : Act) (s2 s3 s6 s7 s8 s9 s17 s18 : Value) : Prop := IsFR a s2 s3 s6 s7 s8 s9 s17 ∧ Act.slot a 18 = s18

theorem choice_i (e f g : UInt32) : bits .or .i64 (bits .and .i64 (e.toNat : Int) (f.toNat : Int)) (bits .and .i64 (4294967295 - (e.toNat : Int)) (g.toNat : Int)) = ((choice e f g).toNat : Int) := by
  rw [i_not, i_and, i_and, i_or, choice_or]
theorem most_i (a b c : UInt32) : bits .or .i64 (bits .or .i64 (bits .and .i64 (a.toNat : Int) (b.toNat : Int)) (bits .and .i64 (a.toNat : Int) (c.toNat : Int))) (bits .and .i64 (b.toNat : Int) (c.toNat : Int)) = ((most a b c).toNat : Int) := by
  rw [i_and, i_and, i_and, i_or, i_or, most_or]

theorem t_i (h e cx kk sk : UInt32) : ∃ tn : Nat, tn < 34359738368 ∧ tn = h.toNat + (bsig1 e).toNat + cx.toNat + kk.toNat + sk.toNat ∧
    wrap64 (wrap64 (wrap64 (wrap64 ((h.toNat : Int) + bits .xor .i64 (bits .xor .i64 ((rotr e 6).toNat : Int) ((rotr e 11).toNat : Int)) ((rotr e 25).toNat : Int)) + (cx.toNat : Int)) + (kk.toNat : Int)) + (sk.toNat : Int)) = (tn : Int) := by
  have a1 := h.toNat_lt
  have a2 := (bsig1 e).toNat_lt
  have a3 := cx.toNat_lt
  have a4 := kk.toNat_lt
  have a5 := sk.toNat_lt
  refine ⟨_, ?_, rfl, ?_⟩
  · omega
  · rw [i_xor, i_xor, show rotr e 6 ^^^ rotr e 11 ^^^ rotr e 25 = bsig1 e from rfl, IntWalk.wrap64_in ((h.toNat : Int) + ((bsig1 e).toNat : Int)) (by omega), IntWalk.wrap64_in ((h.toNat : Int) + ((bsig1 e).toNat : Int) + (cx.toNat : Int)) (by omega), IntWalk.wrap64_in ((h.toNat : Int) + ((bsig1 e).toNat : Int) + (cx.toNat : Int) + (kk.toNat : Int)) (by omega), IntWalk.wrap64_in _ (by omega)]
    omega
theorem u_i (a mx : UInt32) : ∃ un : Nat, un < 8589934592 ∧ un = (bsig0 a).toNat + mx.toNat ∧
    wrap64 (bits .xor .i64 (bits .xor .i64 ((rotr a 2).toNat : Int) ((rotr a 13).toNat : Int)) ((rotr a 22).toNat : Int) + (mx.toNat : Int)) = (un : Int) := by
  have a2 := (bsig0 a).toNat_lt
  have a3 := mx.toNat_lt
  refine ⟨_, ?_, rfl, ?_⟩
  · omega
  · rw [i_xor, i_xor, show rotr a 2 ^^^ rotr a 13 ^^^ rotr a 22 = bsig0 a from rfl, IntWalk.wrap64_in _ (by omega)]
    omega

set_option maxHeartbeats 4000000 in
set_option maxRecDepth 100000 in
theorem refC_exit (fr : Act) (s2 s3 s6 s7 s8 s9 s17 : Value) (w : World) (Q : Exit → Act → World → Prop)
    (hfr : IsFR18 fr s2 s3 s6 s7 s8 s9 s17 (.int .i64 (64 : Nat)))
    (hQ : ∀ (fr' : Act), IsFR18 fr' s2 s3 s6 s7 s8 s9 s17 (.int .i64 (64 : Nat)) → Q (.exit 10) fr' w) :
    Code.wp Tryd.prog (lpOf Tryd.f76.body 5) Q fr w := by
  have HQ := Lib.hid hQ
  clear hQ
  obtain ⟨hfr, h18⟩ := hfr
  unfold IsFR at hfr
  generalize Act.slot fr = f at *
  subst hfr
  unfold FR
  rw [h18]
  conv => arg 2; whnf
  clear h18
  go_wp2
  exact HQ.out _ ⟨rfl, rfl⟩

set_option maxHeartbeats 4000000 in
set_option maxRecDepth 100000 in
theorem refC_body (fr : Act) (s2 s3 s7 s8 : Value) (b6 o6 c6 b9 o9 c9 b o c i : Nat) (bl : List UInt8) (v : W8) (w : World) (Q : Exit → Act → World → Prop)
    (hfr : IsFR18 fr s2 s3 (.slice (some ⟨b6, o6, none⟩) 64 c6) s7 s8 (.slice (some ⟨b9, o9, none⟩) 64 c9) (.slice (some ⟨b, o, none⟩) 8 c) (.int .i64 (i : Int)))
    (hi : i < 64)
    (hk : w.cell? ⟨b6, o6 + i, none⟩ = some (.int .i64 ((kfun i).toNat : Int)))
    (hw : w.cell? ⟨b9, o9 + i, none⟩ = some (.int .i64 ((schedF bl i).toNat : Int)))
    (hv : ∀ k, k < 8 → w.cell? ⟨b, o + k, none⟩ = some (.int .i64 ((v.list.getD k 0).toNat : Int)))
    (hQ : ∀ (fr' : Act) (w' : World) (g : Nat), IsFR18 fr' s2 s3 (.slice (some ⟨b6, o6, none⟩) 64 c6) s7 s8 (.slice (some ⟨b9, o9, none⟩) 64 c9) (.slice (some ⟨g, 0, none⟩) 8 8) (.int .i64 ((i : Int) + 1)) →
      (∀ k, k < 8 → w'.cell? ⟨g, 0 + k, none⟩ = some (.int .i64 (((round v (kfun i) (schedF bl i)).list.getD k 0).toNat : Int))) → Below w.heap.size w w' → w.heap.size ≤ g → Q .normal fr' w') :
    Code.wp Tryd.prog (lpOf Tryd.f76.body 5) Q fr w := by
  have HQ := Lib.hid hQ
  have v0 := hv 0 (by omega)
  have v1 := hv 1 (by omega)
  have v2 := hv 2 (by omega)
  have v3 := hv 3 (by omega)
  have v4 := hv 4 (by omega)
  have v5 := hv 5 (by omega)
  have v6 := hv 6 (by omega)
  have v7 := hv 7 (by omega)
  rw [Nat.add_zero] at v0
  clear hQ hv
  generalize schedF bl i = sk at *
  generalize kfun i = kk at *
  obtain ⟨hfr, h18⟩ := hfr
  unfold IsFR at hfr
  generalize Act.slot fr = f at *
  subst hfr
  unfold FR
  rw [h18]
  conv => arg 2; whnf
  clear h18
  replace v0 : w.cell? ⟨b, o, none⟩ = some (.int .i64 (v.a.toNat : Int)) := v0
  replace v1 : w.cell? ⟨b, o + 1, none⟩ = some (.int .i64 (v.b.toNat : Int)) := v1
  replace v2 : w.cell? ⟨b, o + 2, none⟩ = some (.int .i64 (v.c.toNat : Int)) := v2
  replace v3 : w.cell? ⟨b, o + 3, none⟩ = some (.int .i64 (v.d.toNat : Int)) := v3
  replace v4 : w.cell? ⟨b, o + 4, none⟩ = some (.int .i64 (v.e.toNat : Int)) := v4
  replace v5 : w.cell? ⟨b, o + 5, none⟩ = some (.int .i64 (v.f.toNat : Int)) := v5
  replace v6 : w.cell? ⟨b, o + 6, none⟩ = some (.int .i64 (v.g.toNat : Int)) := v6
  replace v7 : w.cell? ⟨b, o + 7, none⟩ = some (.int .i64 (v.h.toNat : Int)) := v7
  have i0 : (0 : Int) ≤ (i : Int) := by omega
  have i1 : (i : Int) < 64 := by omega
  obtain ⟨w0, hw0⟩ : ∃ w0, w0 = w := ⟨_, rfl⟩
  have hbel : Below w.heap.size w w0 := by rw [hw0]; exact Below.refl _ _
  rw [← hw0] at v0 v1 v2 v3 v4 v5 v6 v7 hk hw
  rw [← hw0]
  clear hw0
  go_wp2_with fail
  go_quiet (fail)
  have hq : ∀ p, (w0.drewN nq).cell? p = w0.cell? p := fun _ => rfl
  simp only [← hq] at v0 v1 v2 v3 v4 v5 v6 v7 hk hw
  replace hbel : Below w.heap.size w (w0.drewN nq) := below_drewN hbel nq
  clear hq
  generalize w0.drewN nq = w1 at *
  go_wp2_with fail
  go_quiet (fail)
  have hq : ∀ p, (w1.drewN nq).cell? p = w1.cell? p := fun _ => rfl
  simp only [← hq] at v0 v1 v2 v3 v4 v5 v6 v7 hk hw
  replace hbel : Below w.heap.size w (w1.drewN nq) := below_drewN hbel nq
  clear hq
  generalize w1.drewN nq = w2 at *
  have m1 := v.e.toNat_lt
  rw [show wrap64 (4294967295 - (v.e.toNat : Int)) = 4294967295 - (v.e.toNat : Int) from IntWalk.wrap64_in _ (by omega), choice_i, most_i]
  generalize hx : choice v.e v.f v.g = cx at *
  generalize hy : most v.a v.b v.c = mx at *
  have Hx := Lib.hid hx
  have Hy := Lib.hid hy
  clear hx hy m1
  go_wp2_with fail
  go_quiet ((go_at_call 82; exact Calls.quiet_of_same (turn_i _ _ _ (by decide) (by decide))))
  have hq : ∀ p, (w2.drewN nq).cell? p = w2.cell? p := fun _ => rfl
  simp only [← hq] at v0 v1 v2 v3 v4 v5 v6 v7 hk hw
  replace hbel : Below w.heap.size w (w2.drewN nq) := below_drewN hbel nq
  clear hq
  generalize w2.drewN nq = w3 at *
  go_wp2_with fail
  go_quiet ((go_at_call 82; exact Calls.quiet_of_same (turn_i _ _ _ (by decide) (by decide))))
  have hq : ∀ p, (w3.drewN nq).cell? p = w3.cell? p := fun _ => rfl
  simp only [← hq] at v0 v1 v2 v3 v4 v5 v6 v7 hk hw
  replace hbel : Below w.heap.size w (w3.drewN nq) := below_drewN hbel nq
  clear hq
  generalize w3.drewN nq = w4 at *
  obtain ⟨tn, ht1, ht2, ht3⟩ := t_i v.h v.e cx kk sk
  obtain ⟨un, hu1, hu2, hu3⟩ := u_i v.a mx
  rw [ht3, hu3]
  have Ht := Lib.hid ht2
  have Hu := Lib.hid hu2
  have md := v.d.toNat_lt
  have y1 : IntKind.i64.wrap ((tn : Int) + (un : Int)) = (tn : Int) + (un : Int) := IntWalk.i64_in _ (by omega)
  have y2 : IntKind.i64.wrap ((v.d.toNat : Int) + (tn : Int)) = (v.d.toNat : Int) + (tn : Int) := IntWalk.i64_in _ (by omega)
  clear ht2 hu2 ht3 hu3
  have Hbel := Lib.hid hbel
  clear hbel hk hw i0 i1
  go_wp2_with fail
  go_still_tail 28, (by kernel_rfl)
  change wpList _ _ _ _ _ w4.drew
  go_wp2_with fail
  have e1 : bits .and .i64 ((tn : Int) + (un : Int)) 4294967295 = (((round v kk sk).a).toNat : Int) := by
    have e : ((tn : Int) + (un : Int)) = ((tn + un : Nat) : Int) := by omega
    rw [e, i64_mask _ (by omega)]
    have h := congrArg UInt32.toNat (show (round v kk sk).a = v.h + bsig1 v.e + cx + kk + sk + (bsig0 v.a + mx) by rw [← Hx.out, ← Hy.out]; rfl)
    rw [h, UInt32.toNat_add, UInt32.toNat_add, UInt32.toNat_add, UInt32.toNat_add, UInt32.toNat_add, UInt32.toNat_add, Ht.out, Hu.out]
    omega
  have e2 : bits .and .i64 ((v.d.toNat : Int) + (tn : Int)) 4294967295 = (((round v kk sk).e).toNat : Int) := by
    have e : ((v.d.toNat : Int) + (tn : Int)) = ((v.d.toNat + tn : Nat) : Int) := by omega
    rw [e, i64_mask _ (by omega)]
    have h := congrArg UInt32.toNat (show (round v kk sk).e = v.d + (v.h + bsig1 v.e + cx + kk + sk) by rw [← Hx.out]; rfl)
    rw [h, UInt32.toNat_add, UInt32.toNat_add, UInt32.toNat_add, UInt32.toNat_add, UInt32.toNat_add, Ht.out]
    omega
  rw [e1, e2]
  refine HQ.out _ _ w4.heap.size ⟨rfl, rfl⟩ (fun k hk => ?_) (below_drew (Hbel.out.alloc Hbel.out.size _)) Hbel.out.size
  have hz := heap_alloc_new w4 (.cells (icells (round v kk sk).list).toArray 3)
  have hcell := cell_of_row (w4.alloc (.cells (icells (round v kk sk).list).toArray 3)).drew w4.heap.size (0 + k) _ _ _ hz
  refine hcell.trans ?_
  rw [Nat.zero_add]
  rw [List.getElem?_toArray]
  exact icells_get (l := (round v kk sk).list) (by simpa [W8.list] using hk)

set_option maxRecDepth 100000 in
theorem refC (fr : Act) (s2 s3 s7 s8 : Value) (B b6 o6 c6 b9 o9 c9 b o c : Nat) (bl : List UInt8) (v : W8) (w : World) (Q : Exit → Act → World → Prop) (hB : B ≤ w.heap.size) (hb : B ≤ b)
    (hfr : IsFR18 fr s2 s3 (.slice (some ⟨b6, o6, none⟩) 64 c6) s7 s8 (.slice (some ⟨b9, o9, none⟩) 64 c9) (.slice (some ⟨b, o, none⟩) 8 c) (.int .i64 0))
    (hk : ∀ i, i < 64 → w.cell? ⟨b6, o6 + i, none⟩ = some (.int .i64 ((kfun i).toNat : Int)))
    (hw : ∀ i, i < 64 → w.cell? ⟨b9, o9 + i, none⟩ = some (.int .i64 ((schedF bl i).toNat : Int)))
    (hv : ∀ k, k < 8 → w.cell? ⟨b, o + k, none⟩ = some (.int .i64 ((v.list.getD k 0).toNat : Int)))
    (hQ : ∀ (fr' : Act) (w' : World) (b o c : Nat) (s18 : Value), IsFR18 fr' s2 s3 (.slice (some ⟨b6, o6, none⟩) 64 c6) s7 s8 (.slice (some ⟨b9, o9, none⟩) 64 c9) (.slice (some ⟨b, o, none⟩) 8 c) s18 →
      (∀ k, k < 8 → w'.cell? ⟨b, o + k, none⟩ = some (.int .i64 (((rounds kfun (schedF bl) v 64).list.getD k 0).toNat : Int))) → Below w.heap.size w w' → B ≤ b → Q (.exit 10) fr' w') :
    Code.wp Tryd.prog (.loop (lpOf Tryd.f76.body 5)) Q fr w := by
  refine wp_loop_ghost (fun n a w' => ∃ (i b o c : Nat), i + n = 64 ∧ IsFR18 a s2 s3 (.slice (some ⟨b6, o6, none⟩) 64 c6) s7 s8 (.slice (some ⟨b9, o9, none⟩) 64 c9) (.slice (some ⟨b, o, none⟩) 8 c) (.int .i64 (i : Int)) ∧
    (∀ k, k < 8 → w'.cell? ⟨b, o + k, none⟩ = some (.int .i64 (((rounds kfun (schedF bl) v i).list.getD k 0).toNat : Int))) ∧ Below w.heap.size w w' ∧ B ≤ b) 64 ⟨0, b, o, c, rfl, hfr, hv, Below.refl _ _, hb⟩ ?_
  rintro n a w1 ⟨i, b, o, c, hin, hfr1, hv1, hbel, hb1⟩
  have hkp := Keeps.of_below hbel
  by_cases hi : i < 64
  · refine refC_body a s2 s3 s7 s8 b6 o6 c6 b9 o9 c9 b o c i bl _ w1 _ hfr1 hi (hkp _ _ (hk i hi)) (hkp _ _ (hw i hi)) hv1 ?_
    intro fr' w2 g hfr2 hv2 hbel2 hg
    exact ⟨n - 1, by omega, i + 1, g, 0, 8, by omega, hfr2, hv2, hbel.trans (hbel2.mono hbel.size), by have := hbel.size; omega⟩
  · obtain rfl : i = 64 := by omega
    exact refC_exit a _ _ _ _ _ _ _ w1 _ hfr1 (fun fr' h => hQ fr' _ b o c _ h hv1 hbel hb1)
end Go.Proofs.YtifjddkgnfanaaaDoor

/- The reference's Sum: the rounds' words are added. -/
namespace Go.Proofs.YtifjddkgnfanaaaDoor
open Go.RowKit

def IsFRd (a : Act) (s2 s3 s6 s7 s8 s9 s17 s277 s278 : Value) : Prop := IsFR a s2 s3 s6 s7 s8 s9 s17 ∧ Act.slot a 277 = s277 ∧ Act.slot a 278 = s278

set_option maxHeartbeats 4000000 in
set_option maxRecDepth 100000 in
theorem refD_exit (fr : Act) (s2 s3 s6 s7 s8 s9 s17 : Value) (w : World) (Q : Exit → Act → World → Prop)
    (hfr : IsFRd fr s2 s3 s6 s7 s8 s9 s17 (.int .i64 8) (.int .i64 (8 : Nat)))
    (hQ : ∀ (fr' : Act), IsFR fr' s2 s3 s6 s7 s8 s9 s17 → Q (.exit 12) fr' w) :
    Code.wp Tryd.prog (lpOf Tryd.f76.body 6) Q fr w := by
  have HQ := Lib.hid hQ
  clear hQ
  obtain ⟨hfr, h7, h8⟩ := hfr
  unfold IsFR at hfr
  generalize Act.slot fr = f at *
  subst hfr
  unfold FR
  rw [h7, h8]
  conv => arg 2; whnf
  clear h7 h8
  go_wp2
  exact HQ.out _ rfl

set_option maxHeartbeats 4000000 in
set_option maxRecDepth 100000 in
theorem refD_body (fr : Act) (s2 s3 s6 s8 s9 : Value) (bh b o c i : Nat) (S v : W8) (w : World) (Q : Exit → Act → World → Prop)
    (hfr : IsFRd fr s2 s3 s6 (.slice (some ⟨bh, 0, none⟩) 8 8) s8 s9 (.slice (some ⟨b, o, none⟩) 8 c) (.int .i64 8) (.int .i64 (i : Int)))
    (hi : i < 8) (hv : ∀ k, k < 8 → w.cell? ⟨b, o + k, none⟩ = some (.int .i64 ((v.list.getD k 0).toNat : Int)))
    (hh : w.heap[bh]? = some (.cells (icells (mix S v i)).toArray 3 (0, 0)))
    (hQ : ∀ (fr' : Act) (w' : World), IsFRd fr' s2 s3 s6 (.slice (some ⟨bh, 0, none⟩) 8 8) s8 s9 (.slice (some ⟨b, o, none⟩) 8 c) (.int .i64 8) (.int .i64 ((i : Int) + 1)) →
      w'.heap[bh]? = some (.cells (icells (mix S v (i + 1))).toArray 3 (0, 0)) → Fr (· = bh) w w' → Q .normal fr' w') :
    Code.wp Tryd.prog (lpOf Tryd.f76.body 6) Q fr w := by
  have HQ := Lib.hid hQ
  have HH := Lib.hid hh
  have v0 := hv i hi
  have h0 : w.cell? ⟨bh, i, none⟩ = some (.int .i64 ((S.list.getD i 0).toNat : Int)) := by
    rw [cell_of_row _ _ _ _ _ _ hh]
    have := mix_get S v i hi
    simp [icells, this]
  have f0 : w.frozen? ⟨bh, i, none⟩ = false := frozen_of_row _ _ _ _ _ hh
  have HX := Lib.hid (mix_succ S v i hi)
  have HZ := Lib.hid (mix_size S v i hi)
  clear hQ hv hh
  generalize v.list.getD i 0 = vk at *
  generalize S.list.getD i 0 = sk at *
  obtain ⟨hfr, h7, h8⟩ := hfr
  unfold IsFR at hfr
  generalize Act.slot fr = f at *
  subst hfr
  unfold FR
  rw [h7, h8]
  conv => arg 2; whnf
  clear h7 h8
  have i0 : (0 : Int) ≤ (i : Int) := by omega
  have i1 : (i : Int) < 8 := by omega
  have mv := vk.toNat_lt
  have ms := sk.toNat_lt
  have y1 : IntKind.i64.wrap ((sk.toNat : Int) + (vk.toNat : Int)) = (sk.toNat : Int) + (vk.toNat : Int) := IntWalk.i64_in _ (by omega)
  go_wp2_with fail
  go_still_tail 12, (by kernel_rfl)
  change wpList _ _ _ _ _ w.drew
  go_wp2
  refine HQ.out _ _ ⟨rfl, rfl, rfl⟩ ?_ ((Fr.refl (· = bh) w).setCell (p := ⟨bh, i, none⟩) (fun _ => rfl) _).drew
  show (w.setCell ⟨bh, i, none⟩ _).heap[bh]? = _
  refine (heap_setCell_same _ _ _ _ _ _ HH.out).trans ?_
  have e : bits .and .i64 ((sk.toNat : Int) + (vk.toNat : Int)) 4294967295 = ((sk + vk).toNat : Int) := by
    rw [show ((sk.toNat : Int) + (vk.toNat : Int)) = ((sk.toNat + vk.toNat : Nat) : Int) by omega, i64_mask _ (by omega), UInt32.toNat_add]
  rw [e, HX.out, List.setIfInBounds_toArray]
  simp [icells, List.map_set]

set_option maxRecDepth 100000 in
theorem refD (fr : Act) (s2 s3 s6 s8 s9 : Value) (bh b o c : Nat) (S v : W8) (w : World) (Q : Exit → Act → World → Prop)
    (hfr : IsFRd fr s2 s3 s6 (.slice (some ⟨bh, 0, none⟩) 8 8) s8 s9 (.slice (some ⟨b, o, none⟩) 8 c) (.int .i64 8) (.int .i64 0))
    (hne : b ≠ bh) (hv : ∀ k, k < 8 → w.cell? ⟨b, o + k, none⟩ = some (.int .i64 ((v.list.getD k 0).toNat : Int)))
    (hh : w.heap[bh]? = some (.cells (icells S.list).toArray 3 (0, 0)))
    (hQ : ∀ (fr' : Act) (w' : World), IsFR fr' s2 s3 s6 (.slice (some ⟨bh, 0, none⟩) 8 8) s8 s9 (.slice (some ⟨b, o, none⟩) 8 c) →
      w'.heap[bh]? = some (.cells (icells (S.add v).list).toArray 3 (0, 0)) → Fr (· = bh) w w' → Q (.exit 12) fr' w') :
    Code.wp Tryd.prog (.loop (lpOf Tryd.f76.body 6)) Q fr w := by
  refine wp_loop_ghost (fun n a w' => ∃ (i : Nat), i + n = 8 ∧ IsFRd a s2 s3 s6 (.slice (some ⟨bh, 0, none⟩) 8 8) s8 s9 (.slice (some ⟨b, o, none⟩) 8 c) (.int .i64 8) (.int .i64 (i : Int)) ∧
    w'.heap[bh]? = some (.cells (icells (mix S v i)).toArray 3 (0, 0)) ∧ Fr (· = bh) w w') 8 ⟨0, rfl, hfr, hh, Fr.refl _ _⟩ ?_
  rintro n a w1 ⟨i, hin, hfr1, hh1, hf1⟩
  by_cases hi : i < 8
  · refine refD_body a s2 s3 s6 s8 s9 bh b o c i S v w1 _ hfr1 hi (fun k hk => ?_) hh1 ?_
    · exact (hf1.cell (p := ⟨b, o + k, none⟩) (World.block_lt_of_cell? w _ (hv k hk)) hne).trans (hv k hk)
    · intro fr' w2 hfr2 hh2 hf2
      exact ⟨n - 1, by omega, i + 1, by omega, hfr2, hh2, hf1.trans hf2 (fun _ _ h => h)⟩
  · obtain rfl : i = 8 := by omega
    exact refD_exit a _ _ _ _ _ _ _ w1 _ hfr1 (fun fr' h => hQ fr' _ h hh1 hf1)
end Go.Proofs.YtifjddkgnfanaaaDoor

/- The reference's Sum: one block. -/
namespace Go.Proofs.YtifjddkgnfanaaaDoor
open Go.RowKit

set_option maxHeartbeats 4000000 in
set_option maxRecDepth 100000 in
theorem refE_body (fr : Act) (s2 s9 s17 : Value) (bh ba oa N cap b6 o6 c6 a : Nat) (all : List UInt8) (S : W8) (w : World) (Q : Exit → Act → World → Prop)
    (hfr : IsFR fr s2 (.slice (some ⟨ba, oa, none⟩) N cap) (.slice (some ⟨b6, o6, none⟩) 64 c6) (.slice (some ⟨bh, 0, none⟩) 8 8) (.int .i64 (a : Int)) s9 s17)
    (ha : a + 64 ≤ N) (hN : N ≤ 549755814400) (hc : ∀ k, k < N → w.cell? ⟨ba, oa + k, none⟩ = some (.int .u8 ((all.getD k 0).toNat : Int)))
    (hk : ∀ i, i < 64 → w.cell? ⟨b6, o6 + i, none⟩ = some (.int .i64 ((kfun i).toNat : Int)))
    (hh : w.heap[bh]? = some (.cells (icells S.list).toArray 3 (0, 0)))
    (hQ : ∀ (fr' : Act) (w' : World) (s9 s17 : Value), IsFR fr' s2 (.slice (some ⟨ba, oa, none⟩) N cap) (.slice (some ⟨b6, o6, none⟩) 64 c6) (.slice (some ⟨bh, 0, none⟩) 8 8) (.int .i64 ((a : Int) + 64)) s9 s17 →
      w'.heap[bh]? = some (.cells (icells (compress kfun S ((all.drop a).take 64)).list).toArray 3 (0, 0)) → Fr (· = bh) w w' → Q .normal fr' w') :
    Code.wp Tryd.prog (lpOf Tryd.f76.body 2) Q fr w := by
  have HQ := Lib.hid hQ
  have Hc := Lib.hid hc
  have Hk := Lib.hid hk
  have Hh := Lib.hid hh
  clear hQ hc hk hh
  unfold IsFR at hfr
  generalize Act.slot fr = f at *
  subst hfr
  unfold FR
  conv => arg 2; whnf
  have hlt : (a : Int) < (N : Int) := by omega
  have HN := Lib.hid hN
  have Ha := Lib.hid ha
  clear ha hN
  go_wp2_with fail
  refine refA _ s2 (.slice (some ⟨b6, o6, none⟩) 64 c6) (.slice (some ⟨bh, 0, none⟩) 8 8) s17 ba oa N cap a all w _ rfl rfl Ha.out HN.out Hc.out ?_
  intro fr1 w1 A1 c1 hfr1 hown1 hbel1
  have Hown1 := Lib.hid hown1
  have Hbel1 := Lib.hid hbel1
  clear hown1 hbel1
  unfold IsFR at hfr1
  generalize Act.slot fr1 = f1 at *
  subst hfr1
  unfold FR
  go_wp2_with fail
  have Hbw := Lib.hid (show w.heap.size ≤ w1.heap.size from Hbel1.out.size)
  refine refB _ s2 _ (.slice (some ⟨b6, o6, none⟩) 64 c6) (.slice (some ⟨bh, 0, none⟩) 8 8) (.int .i64 (a : Int)) s17 A1 c1 w.heap.size ((all.drop a).take 64) w1 _ rfl rfl Hbw.out Hown1.out ?_
  intro fr2 w2 A2 c2 hfr2 hown2 hbel2
  obtain ⟨_, _, hv2, _, _, hr2⟩ := hown2.form
  injection hv2 with e1 e2 e3
  subst e1
  clear e2 e3
  rw [sched_length] at hr2
  obtain ⟨b9, o9, e9, hw9⟩ := hr2.2 (by omega)
  subst e9
  have hbw2 : Below w.heap.size w w2 := Hbel1.out.trans hbel2
  have Hbw2 := Lib.hid hbw2
  have Hw9 := Lib.hid hw9
  clear hown2 hbel2 hr2 hw9 hbw2 Hown1 Hbel1 Hbw
  have hbh := (Array.getElem?_eq_some_iff.1 Hh.out).1
  have hrow2 : w2.heap[bh]? = some (.cells (icells S.list).toArray 3 (0, 0)) := (Hbw2.out.block bh hbh).trans Hh.out
  have hir : ∀ o, IR (w2.alloc o) (some ⟨bh, 0, none⟩) 8 S.list := fun o => ⟨rfl, fun _ => ⟨bh, 0, rfl, fun k hk => by
    rw [cell_of_row _ _ _ _ _ _ ((Below.heap_alloc w2 o bh (Array.getElem?_eq_some_iff.1 hrow2).1).trans hrow2), Nat.zero_add, List.getElem?_toArray]
    exact icells_get (l := S.list) hk⟩⟩
  have Hir := Lib.hid hir
  have Hlit := Lib.hid (OI.lit w2 w2.heap.size (Nat.le_refl _) [] 0 rfl (by decide))
  clear hir hrow2
  unfold IsFR at hfr2
  generalize Act.slot fr2 = f2 at *
  subst hfr2
  unfold FR
  go_wp2_with (first
    | (at_builtin; (refine wpList_append_i rfl (.tmp 155) (.tmp 156) 130 rfl Hlit.out rfl (IR.src (Hir.out _)) rfl (by simp [W8.list]) (by simp) ?_; intro v3 w3 hown3 hgr3 hat3))
    | fail)
  rw [List.nil_append] at hown3
  have hbel3 : Below w2.heap.size w2 w3 := below_append_i ((Below.refl _ w2).alloc (Nat.le_refl _) _) hgr3 Hlit.out (Nat.le_refl _) (by simp)
  obtain ⟨A3, c3, hv3, _, _, hr3⟩ := hown3.form
  subst hv3
  have hlt3 := hown3.lt
  obtain ⟨b3, o3, e3, hc3⟩ := hr3.2 (by simp [W8.list])
  subst e3
  have hb3 : w2.heap.size ≤ b3 := (hlt3 b3 rfl).1
  have Hbw3 := Lib.hid (Hbw2.out.trans (hbel3.mono Hbw2.out.size))
  have Hk3 := Lib.hid (Keeps.of_below hbel3)
  have Hc3 := Lib.hid hc3
  have Hb3 := Lib.hid hb3
  have Hz3 := Lib.hid hbel3.size
  clear hown3 hgr3 hat3 hbel3 hr3 hlt3 hc3 hb3
  replace Hk := Lib.hid (fun i hi => Keeps.of_below Hbw3.out _ _ (Hk.out i hi))
  refine refC _ s2 _ (.slice (some ⟨bh, 0, none⟩) 8 8) (.int .i64 (a : Int)) w2.heap.size b6 o6 c6 b9 o9 c2 b3 o3 c3 ((all.drop a).take 64) S w3 _ Hz3.out Hb3.out ⟨rfl, rfl⟩ Hk.out (fun i hi => Hk3.out _ _ (Hw9.out i hi)) Hc3.out ?_
  intro fr4 w4 b4 o4 c4 s18 hfr4 hv4 hbel4 hb4
  have Hv4 := Lib.hid hv4
  have Hbw4 := Lib.hid (Hbw3.out.trans (hbel4.mono Hbw3.out.size))
  have Hne := Lib.hid (show b4 ≠ bh by have := Hbw2.out.size; omega)
  clear hv4 hbel4 hb4
  obtain ⟨hfr4, h18⟩ := hfr4
  unfold IsFR at hfr4
  generalize Act.slot fr4 = f4 at *
  subst hfr4
  unfold FR
  clear h18
  go_wp2_with fail
  refine refD _ s2 _ (.slice (some ⟨b6, o6, none⟩) 64 c6) (.int .i64 (a : Int)) _ bh b4 o4 c4 S (rounds kfun (schedF ((all.drop a).take 64)) S 64) w4 _ ⟨rfl, rfl, rfl⟩ Hne.out Hv4.out ((Hbw4.out.block bh hbh).trans Hh.out) ?_
  intro fr5 w5 hfr5 hh5 hf5
  have Hh5 := Lib.hid hh5
  have Hf5 := Lib.hid ((Fr.of_below (S := (· = bh)) Hbw4.out).trans hf5 (fun _ _ h => h))
  clear hh5 hf5
  unfold IsFR at hfr5
  generalize Act.slot fr5 = f5 at *
  subst hfr5
  unfold FR
  have hov : (a : Int) + 64 ≤ 549755814400 := by have := HN.out; have := Ha.out; omega
  go_wp2_with fail
  exact HQ.out _ _ _ _ rfl Hh5.out Hf5.out

set_option maxHeartbeats 4000000 in
set_option maxRecDepth 100000 in
theorem refE_exit (fr : Act) (s2 s6 s7 s9 s17 : Value) (A : Option Addr) (N cap a : Nat) (w : World) (Q : Exit → Act → World → Prop)
    (hfr : IsFR fr s2 (.slice A N cap) s6 s7 (.int .i64 (a : Int)) s9 s17) (ha : N ≤ a)
    (hQ : ∀ (fr' : Act), IsFR fr' s2 (.slice A N cap) s6 s7 (.int .i64 (a : Int)) s9 s17 → Q (.exit 4) fr' w) :
    Code.wp Tryd.prog (lpOf Tryd.f76.body 2) Q fr w := by
  have HQ := Lib.hid hQ
  clear hQ
  unfold IsFR at hfr
  generalize Act.slot fr = f at *
  subst hfr
  unfold FR
  conv => arg 2; whnf
  have hlt : ¬ (a : Int) < (N : Int) := by omega
  go_wp2
  exact HQ.out _ rfl

theorem blocks_at (K : Nat → UInt32) (S0 S : W8) (all : List UInt8) (a N : Nat) (hN : all.length = N) (ha : a + 64 ≤ N) (h : blocks K S (all.drop a) = blocks K S0 all) :
    blocks K (compress K S ((all.drop a).take 64)) (all.drop (a + 64)) = blocks K S0 all := by
  rw [← h, blocks_step K S (all.drop a) (by simp; omega), List.drop_drop]

set_option maxRecDepth 100000 in
theorem refE (fr : Act) (s2 s9 s17 : Value) (bh ba oa N M cap b6 o6 c6 : Nat) (all : List UInt8) (w : World) (Q : Exit → Act → World → Prop)
    (hfr : IsFR fr s2 (.slice (some ⟨ba, oa, none⟩) N cap) (.slice (some ⟨b6, o6, none⟩) 64 c6) (.slice (some ⟨bh, 0, none⟩) 8 8) (.int .i64 0) s9 s17)
    (hM : N = 64 * M) (hN : N ≤ 549755814400) (hall : all.length = N) (hc : ∀ k, k < N → w.cell? ⟨ba, oa + k, none⟩ = some (.int .u8 ((all.getD k 0).toNat : Int)))
    (hk : ∀ i, i < 64 → w.cell? ⟨b6, o6 + i, none⟩ = some (.int .i64 ((kfun i).toNat : Int)))
    (hba : ba ≠ bh) (hb6 : b6 ≠ bh)
    (hh : w.heap[bh]? = some (.cells (icells htab.list).toArray 3 (0, 0)))
    (hQ : ∀ (fr' : Act) (w' : World) (s8 s9 s17 : Value), IsFR fr' s2 (.slice (some ⟨ba, oa, none⟩) N cap) (.slice (some ⟨b6, o6, none⟩) 64 c6) (.slice (some ⟨bh, 0, none⟩) 8 8) s8 s9 s17 →
      w'.heap[bh]? = some (.cells (icells (blocks kfun htab all).1.list).toArray 3 (0, 0)) → Fr (· = bh) w w' → Q (.exit 4) fr' w') :
    Code.wp Tryd.prog (.loop (lpOf Tryd.f76.body 2)) Q fr w := by
  refine wp_loop_ghost (fun n a w' => ∃ (m : Nat) (S : W8) (s9 s17 : Value), m + n = M ∧ IsFR a s2 (.slice (some ⟨ba, oa, none⟩) N cap) (.slice (some ⟨b6, o6, none⟩) 64 c6) (.slice (some ⟨bh, 0, none⟩) 8 8) (.int .i64 ((64 * m : Nat) : Int)) s9 s17 ∧
    w'.heap[bh]? = some (.cells (icells S.list).toArray 3 (0, 0)) ∧ Fr (· = bh) w w' ∧ blocks kfun S (all.drop (64 * m)) = blocks kfun htab all) M ⟨0, htab, s9, s17, by omega, hfr, hh, Fr.refl _ _, rfl⟩ ?_
  rintro n a w1 ⟨m, S, t9, t17, hin, hfr1, hh1, hf1, hbl⟩
  by_cases hm : m < M
  · refine refE_body a s2 t9 t17 bh ba oa N cap b6 o6 c6 (64 * m) all S w1 _ hfr1 (by omega) hN (fun k hk' => ?_) (fun i hi => ?_) hh1 ?_
    · exact (hf1.cell (p := ⟨ba, oa + k, none⟩) (World.block_lt_of_cell? w _ (hc k hk')) hba).trans (hc k hk')
    · exact (hf1.cell (p := ⟨b6, o6 + i, none⟩) (World.block_lt_of_cell? w _ (hk i hi)) hb6).trans (hk i hi)
    · intro fr' w2 u9 u17 hfr2 hh2 hf2
      refine ⟨n - 1, by omega, m + 1, _, u9, u17, by omega, ?_, hh2, hf1.trans hf2 (fun _ _ h => h), ?_⟩
      · rw [show (((64 * (m + 1) : Nat)) : Int) = ((64 * m : Nat) : Int) + 64 by omega]
        exact hfr2
      · rw [show 64 * (m + 1) = 64 * m + 64 by omega]
        exact blocks_at _ _ _ _ _ N hall (by omega) hbl
  · have hmM : m = M := by omega
    subst hmM
    refine refE_exit a _ _ _ _ _ _ _ _ _ w1 _ hfr1 (by omega) (fun fr' h => ?_)
    have e : blocks kfun S (all.drop (64 * m)) = (S, []) := by
      rw [List.drop_of_length_le (by omega)]
      exact blocks_short _ _ _ (by simp)
    refine hQ fr' _ _ _ _ h ?_ hf1
    rw [← hbl, e]
    exact hh1
end Go.Proofs.YtifjddkgnfanaaaDoor

/- The reference's Sum: the words' bytes go out. -/
namespace Go.Proofs.YtifjddkgnfanaaaDoor
open Go.RowKit

/-- A frame of that many slots. -/
def IsF (a : Act) : Prop := a = FR (Act.slot a) (Act.slot a 2) (Act.slot a 3) (Act.slot a 6) (Act.slot a 7) (Act.slot a 8) (Act.slot a 9) (Act.slot a 17)
set_option maxRecDepth 100000 in
theorem IsFR.isF {a : Act} {s2 s3 s6 s7 s8 s9 s17 : Value} (h : IsFR a s2 s3 s6 s7 s8 s9 s17) : IsF a := by
  unfold IsFR at h
  generalize Act.slot a = f at *
  subst h
  rfl

def putB (l : List UInt8) (p : Nat) (bs : List UInt8) : Nat → List UInt8
  | 0 => l
  | k + 1 => (putB l p bs k).set (p + k) (bs.getD k 0)
theorem putB_length (l : List UInt8) (p : Nat) (bs : List UInt8) (k : Nat) : (putB l p bs k).length = l.length := by
  induction k with
  | zero => rfl
  | succ k ih => rw [putB, List.length_set, ih]
theorem putB_outC (x : Nat → UInt32) (i : Nat) (hi : i < 8) : putB (outC x i) (4 * i) (b4 (x i)) 4 = outC x (i + 1) := by
  have hcases : i = 0 ∨ i = 1 ∨ i = 2 ∨ i = 3 ∨ i = 4 ∨ i = 5 ∨ i = 6 ∨ i = 7 := by omega
  rcases hcases with rfl | rfl | rfl | rfl | rfl | rfl | rfl | rfl <;> rfl
theorem b4_get (x : UInt32) (k : Nat) (hk : k < 4) : (((b4 x).getD k 0).toNat : Int) = (x.toNat : Int) / 2 ^ (24 - 8 * k) % 256 := by
  have hcases : k = 0 ∨ k = 1 ∨ k = 2 ∨ k = 3 := by omega
  rcases hcases with rfl | rfl | rfl | rfl <;> simp [b4, Nat.shiftRight_eq_div_pow]

set_option maxHeartbeats 4000000 in
set_option maxRecDepth 100000 in
theorem refG_body (fr : Act) (go i k : Nat) (x : UInt32) (l : List UInt8) (w : World) (Q : Exit → Act → World → Prop)
    (hfr : IsF fr) (h24 : Act.slot fr 24 = .pointer (some ⟨go, 0, none⟩)) (h25 : Act.slot fr 25 = .int .i64 (i : Int)) (h26 : Act.slot fr 26 = .int .i64 (x.toNat : Int)) (h27 : Act.slot fr 27 = .int .i64 (k : Int))
    (hi : i < 8) (hk : k < 4) (hl : l.length = 32) (hrow : w.heap[go]? = some (.cells (bcells l).toArray 114 (0, 0)))
    (hQ : ∀ (fr' : Act) (w' : World), IsF fr' → Act.slot fr' 2 = Act.slot fr 2 → Act.slot fr' 24 = .pointer (some ⟨go, 0, none⟩) → Act.slot fr' 25 = .int .i64 (i : Int) → Act.slot fr' 26 = .int .i64 (x.toNat : Int) → Act.slot fr' 27 = .int .i64 ((k : Int) + 1) →
      Act.slot fr' 296 = Act.slot fr 296 → Act.slot fr' 297 = Act.slot fr 297 → Act.slot fr' 298 = Act.slot fr 298 →
      w'.heap[go]? = some (.cells (bcells (l.set (4 * i + k) ((b4 x).getD k 0))).toArray 114 (0, 0)) → Fr (· = go) w w' → Q .normal fr' w') :
    Code.wp Tryd.prog (lpOf Tryd.f76.body 8) Q fr w := by
  have HQ := Lib.hid hQ
  have HR := Lib.hid hrow
  have HL := Lib.hid hl
  have f0 : w.frozen? ⟨go, 4 * i + k, none⟩ = false := frozen_of_row _ _ _ _ _ hrow
  have c0 : (w.cell? ⟨go, 4 * i + k, none⟩) = some (.int .u8 ((l.getD (4 * i + k) 0).toNat : Int)) := by
    rw [cell_of_row _ _ _ _ _ _ hrow, List.getElem?_toArray]
    exact bcells_get (by omega)
  clear hQ hrow hl
  generalize (Value.int IntKind.u8 ((l.getD (4 * i + k) 0).toNat : Int)) = v0 at *
  unfold IsF at hfr
  generalize Act.slot fr = f at *
  subst hfr
  unfold FR
  rw [h24, h25, h26, h27]
  conv => arg 2; whnf
  clear h24 h25 h26 h27
  have i0 : (0 : Int) ≤ 4 * (i : Int) + (k : Int) := by omega
  have i1 : 4 * (i : Int) + (k : Int) < 32 := by omega
  have n0 : (0 : Int) ≤ 24 - 8 * (k : Int) := by omega
  have n1 : 24 - 8 * (k : Int) < 64 := by omega
  go_wp2
  refine HQ.out _ _ rfl rfl rfl rfl rfl rfl rfl rfl rfl ?_ ((Fr.refl (· = go) w).setCell (p := ⟨go, 4 * i + k, none⟩) (fun _ => rfl) _)
  refine (heap_setCell_same _ _ _ _ _ _ HR.out).trans ?_
  rw [← b4_get x k hk, List.setIfInBounds_toArray]
  simp [bcells, List.map_set]

set_option maxHeartbeats 4000000 in
set_option maxRecDepth 100000 in
theorem refG_exit (fr : Act) (w : World) (Q : Exit → Act → World → Prop)
    (hfr : IsF fr) (h27 : Act.slot fr 27 = .int .i64 (4 : Nat))
    (hQ : ∀ (fr' : Act), IsF fr' → Act.slot fr' 2 = Act.slot fr 2 → Act.slot fr' 24 = Act.slot fr 24 → 
      Act.slot fr' 296 = Act.slot fr 296 → Act.slot fr' 297 = Act.slot fr 297 → Act.slot fr' 298 = Act.slot fr 298 → Q (.exit 16) fr' w) :
    Code.wp Tryd.prog (lpOf Tryd.f76.body 8) Q fr w := by
  have HQ := Lib.hid hQ
  clear hQ
  unfold IsF at hfr
  generalize Act.slot fr = f at *
  subst hfr
  unfold FR
  rw [h27]
  conv => arg 2; whnf
  clear h27
  go_wp2
  exact HQ.out _ rfl rfl rfl rfl rfl rfl

set_option maxRecDepth 100000 in
theorem refG (fr : Act) (go i : Nat) (x : UInt32) (l : List UInt8) (w : World) (Q : Exit → Act → World → Prop) (s2 s296 s297 s298 : Value)
    (hfr : IsF fr) (h2 : Act.slot fr 2 = s2) (h24 : Act.slot fr 24 = .pointer (some ⟨go, 0, none⟩)) (h25 : Act.slot fr 25 = .int .i64 (i : Int)) (h26 : Act.slot fr 26 = .int .i64 (x.toNat : Int)) (h27 : Act.slot fr 27 = .int .i64 0)
    (h296 : Act.slot fr 296 = s296) (h297 : Act.slot fr 297 = s297) (h298 : Act.slot fr 298 = s298)
    (hi : i < 8) (hl : l.length = 32) (hrow : w.heap[go]? = some (.cells (bcells l).toArray 114 (0, 0)))
    (hQ : ∀ (fr' : Act) (w' : World), IsF fr' → Act.slot fr' 2 = s2 → Act.slot fr' 24 = .pointer (some ⟨go, 0, none⟩) → Act.slot fr' 296 = s296 → Act.slot fr' 297 = s297 → Act.slot fr' 298 = s298 →
      w'.heap[go]? = some (.cells (bcells (putB l (4 * i) (b4 x) 4)).toArray 114 (0, 0)) → Fr (· = go) w w' → Q (.exit 16) fr' w') :
    Code.wp Tryd.prog (.loop (lpOf Tryd.f76.body 8)) Q fr w := by
  refine wp_loop_ghost (fun n a w' => ∃ (k : Nat), k + n = 4 ∧ IsF a ∧ Act.slot a 2 = s2 ∧ Act.slot a 24 = .pointer (some ⟨go, 0, none⟩) ∧ Act.slot a 25 = .int .i64 (i : Int) ∧ Act.slot a 26 = .int .i64 (x.toNat : Int) ∧ Act.slot a 27 = .int .i64 (k : Int) ∧
    Act.slot a 296 = s296 ∧ Act.slot a 297 = s297 ∧ Act.slot a 298 = s298 ∧ w'.heap[go]? = some (.cells (bcells (putB l (4 * i) (b4 x) k)).toArray 114 (0, 0)) ∧ Fr (· = go) w w') 4
    ⟨0, rfl, hfr, h2, h24, h25, h26, h27, h296, h297, h298, hrow, Fr.refl _ _⟩ ?_
  rintro n a w1 ⟨k, hkn, a0, a2, a24, a25, a26, a27, a296, a297, a298, hr1, hf1⟩
  by_cases hk : k < 4
  · refine refG_body a go i k x _ w1 _ a0 a24 a25 a26 a27 hi hk (by rw [putB_length, hl]) hr1 ?_
    intro fr' w2 b0 b2 b24 b25 b26 b27 b296 b297 b298 hr2 hf2
    exact ⟨n - 1, by omega, k + 1, by omega, b0, b2.trans a2, b24, b25, b26, b27, b296.trans a296, b297.trans a297, b298.trans a298, hr2, hf1.trans hf2 (fun _ _ h => h)⟩
  · obtain rfl : k = 4 := by omega
    exact refG_exit a w1 _ a0 a27 (fun fr' b0 b2 b24 b296 b297 b298 => hQ fr' w1 b0 (b2.trans a2) (b24.trans a24) (b296.trans a296) (b297.trans a297) (b298.trans a298) hr1 hf1)

set_option maxHeartbeats 4000000 in
set_option maxRecDepth 100000 in
theorem refH_body (fr : Act) (go bh i : Nat) (S : W8) (w : World) (Q : Exit → Act → World → Prop) (s2 : Value)
    (hfr : IsF fr) (h2 : Act.slot fr 2 = s2) (h24 : Act.slot fr 24 = .pointer (some ⟨go, 0, none⟩))
    (h296 : Act.slot fr 296 = .slice (some ⟨bh, 0, none⟩) 8 8) (h297 : Act.slot fr 297 = .int .i64 8) (h298 : Act.slot fr 298 = .int .i64 (i : Int))
    (hi : i < 8) (hh : w.cell? ⟨bh, i, none⟩ = some (.int .i64 ((S.list[i]?.getD 0).toNat : Int)))
    (hrow : w.heap[go]? = some (.cells (bcells (outC (fun i => S.list[i]?.getD 0) i)).toArray 114 (0, 0)))
    (hQ : ∀ (fr' : Act) (w' : World), IsF fr' → Act.slot fr' 2 = s2 → Act.slot fr' 24 = .pointer (some ⟨go, 0, none⟩) → Act.slot fr' 296 = .slice (some ⟨bh, 0, none⟩) 8 8 → Act.slot fr' 297 = .int .i64 8 → Act.slot fr' 298 = .int .i64 ((i : Int) + 1) →
      w'.heap[go]? = some (.cells (bcells (outC (fun i => S.list[i]?.getD 0) (i + 1))).toArray 114 (0, 0)) → Fr (· = go) w w' → Q .normal fr' w') :
    Code.wp Tryd.prog (lpOf Tryd.f76.body 7) Q fr w := by
  have HQ := Lib.hid hQ
  have HR := Lib.hid hrow
  have HP := Lib.hid (show putB (outC (fun i => S.list[i]?.getD 0) i) (4 * i) (b4 (S.list[i]?.getD 0)) 4 = outC (fun i => S.list[i]?.getD 0) (i + 1) from putB_outC (fun i => S.list[i]?.getD 0) i hi)
  clear hQ hrow
  generalize S.list[i]?.getD 0 = x at *
  have HL := Lib.hid (outC_length (fun i => S.list[i]?.getD 0) i)
  generalize outC (fun i => S.list[i]?.getD 0) i = l0 at *
  generalize outC (fun i => S.list[i]?.getD 0) (i + 1) = l1 at *
  unfold IsF at hfr
  generalize Act.slot fr = f at *
  subst hfr
  unfold FR
  rw [h2, h24, h296, h297, h298]
  conv => arg 2; whnf
  clear h2 h24 h296 h297 h298
  have i0 : (0 : Int) ≤ (i : Int) := by omega
  have i1 : (i : Int) < 8 := by omega
  go_wp2_with fail
  refine refG _ go i x l0 w _ s2 (.slice (some ⟨bh, 0, none⟩) 8 8) (.int .i64 8) (.int .i64 (i : Int)) rfl rfl rfl rfl rfl rfl rfl rfl rfl hi HL.out HR.out ?_
  intro fr1 w1 b0 b2 b24 b296 b297 b298 hr1 hf1
  have Hr1 := Lib.hid hr1
  have Hf1 := Lib.hid hf1
  clear hr1 hf1
  unfold IsF at b0
  generalize Act.slot fr1 = f1 at *
  subst b0
  unfold FR
  rw [b2, b24, b296, b297, b298]
  clear b2 b24 b296 b297 b298
  go_wp2_with fail
  refine HQ.out _ _ rfl rfl rfl rfl rfl rfl ?_ Hf1.out
  rw [← HP.out]
  exact Hr1.out

set_option maxHeartbeats 4000000 in
set_option maxRecDepth 100000 in
theorem refH_exit (fr : Act) (w : World) (Q : Exit → Act → World → Prop)
    (hfr : IsF fr) (h297 : Act.slot fr 297 = .int .i64 8) (h298 : Act.slot fr 298 = .int .i64 (8 : Nat))
    (hQ : ∀ (fr' : Act), IsF fr' → Act.slot fr' 2 = Act.slot fr 2 → Act.slot fr' 24 = Act.slot fr 24 → Q (.exit 14) fr' w) :
    Code.wp Tryd.prog (lpOf Tryd.f76.body 7) Q fr w := by
  have HQ := Lib.hid hQ
  clear hQ
  unfold IsF at hfr
  generalize Act.slot fr = f at *
  subst hfr
  unfold FR
  rw [h297, h298]
  conv => arg 2; whnf
  clear h297 h298
  go_wp2
  exact HQ.out _ rfl rfl rfl

set_option maxRecDepth 100000 in
theorem refH (fr : Act) (go bh : Nat) (S : W8) (w : World) (Q : Exit → Act → World → Prop) (s2 : Value)
    (hfr : IsF fr) (h2 : Act.slot fr 2 = s2) (h24 : Act.slot fr 24 = .pointer (some ⟨go, 0, none⟩))
    (h296 : Act.slot fr 296 = .slice (some ⟨bh, 0, none⟩) 8 8) (h297 : Act.slot fr 297 = .int .i64 8) (h298 : Act.slot fr 298 = .int .i64 0)
    (hne : bh ≠ go) (hh : w.heap[bh]? = some (.cells (icells S.list).toArray 3 (0, 0)))
    (hrow : w.heap[go]? = some (.cells (Array.replicate 32 (.int .u8 0)) 114 (0, 0)))
    (hQ : ∀ (fr' : Act) (w' : World), IsF fr' → Act.slot fr' 2 = s2 → Act.slot fr' 24 = .pointer (some ⟨go, 0, none⟩) →
      w'.heap[go]? = some (.cells (bcells (digest S)).toArray 114 (0, 0)) → Fr (· = go) w w' → Q (.exit 14) fr' w') :
    Code.wp Tryd.prog (.loop (lpOf Tryd.f76.body 7)) Q fr w := by
  refine wp_loop_ghost (fun n a w' => ∃ (i : Nat), i + n = 8 ∧ IsF a ∧ Act.slot a 2 = s2 ∧ Act.slot a 24 = .pointer (some ⟨go, 0, none⟩) ∧ Act.slot a 296 = .slice (some ⟨bh, 0, none⟩) 8 8 ∧ Act.slot a 297 = .int .i64 8 ∧ Act.slot a 298 = .int .i64 (i : Int) ∧
    w'.heap[go]? = some (.cells (bcells (outC (fun i => S.list[i]?.getD 0) i)).toArray 114 (0, 0)) ∧ Fr (· = go) w w') 8
    ⟨0, rfl, hfr, h2, h24, h296, h297, h298, hrow, Fr.refl _ _⟩ ?_
  rintro n a w1 ⟨i, hin, a0, a2, a24, a296, a297, a298, hr1, hf1⟩
  by_cases hi : i < 8
  · refine refH_body a go bh i S w1 _ s2 a0 a2 a24 a296 a297 a298 hi ?_ hr1 ?_
    · rw [cell_of_row _ _ _ _ _ _ ((hf1.block bh (Array.getElem?_eq_some_iff.1 hh).1 hne).trans hh), List.getElem?_toArray]
      exact (icells_get (l := S.list) hi).trans (by rw [List.getD_eq_getElem?_getD])
    · intro fr' w2 b0 b2 b24 b296 b297 b298 hr2 hf2
      exact ⟨n - 1, by omega, i + 1, by omega, b0, b2, b24, b296, b297, b298, hr2, hf1.trans hf2 (fun _ _ h => h)⟩
  · obtain rfl : i = 8 := by omega
    refine refH_exit a w1 _ a0 a297 a298 (fun fr' b0 b2 b24 => hQ fr' w1 b0 (b2.trans a2) (b24.trans a24) ?_ hf1)
    rw [← outC_all]
    exact hr1
end Go.Proofs.YtifjddkgnfanaaaDoor

/- The reference's Sum: the padding. -/
namespace Go.Proofs.YtifjddkgnfanaaaDoor
open Go.RowKit

theorem refpad_test (r j : Nat) (hj : j ≤ padZ r) : ((((r : Int) + 1 + (j : Int))) % 64 != 56) = decide (j < padZ r) := by
  unfold padZ at *
  by_cases h : j < (64 - (r + 9) % 64) % 64
  · rw [decide_eq_true h]
    simp
    omega
  · rw [decide_eq_false h]
    simp
    omega

set_option maxHeartbeats 4000000 in
set_option maxRecDepth 100000 in
theorem refP_body (fr : Act) (A : Option Addr) (cap B n j : Nat) (l : List UInt8) (w : World) (Q : Exit → Act → World → Prop)
    (hfr : IsF fr) (h3 : Act.slot fr 3 = .slice A (n + 1 + j) cap) (hl : l.length = n) (hn : n ≤ 549755813888) (hj : j < padZ n) (hB : B ≤ w.heap.size)
    (hown : OB w B (.slice A (n + 1 + j) cap) (l ++ 128 :: List.replicate j 0))
    (hQ : ∀ (fr' : Act) (w' : World) (A : Option Addr) (cap : Nat), IsF fr' → Act.slot fr' 0 = Act.slot fr 0 → Act.slot fr' 2 = Act.slot fr 2 → Act.slot fr' 3 = .slice A (n + 1 + (j + 1)) cap →
      OB w' B (.slice A (n + 1 + (j + 1)) cap) (l ++ 128 :: List.replicate (j + 1) 0) → Below B w w' → Q .normal fr' w') :
    Code.wp Tryd.prog (lpOf Tryd.f76.body 0) Q fr w := by
  have HQ := Lib.hid hQ
  have Hown := Lib.hid hown
  have Hl := Lib.hid hl
  have HB := Lib.hid hB
  clear hQ hown hl hB
  have ht : ((((n : Int) + 1 + (j : Int))) % 64 != 56) = true := by rw [refpad_test n j (Nat.le_of_lt hj)]; exact decide_eq_true hj
  have hp : padZ n ≤ 64 := by unfold padZ; omega
  unfold IsF at hfr
  generalize Act.slot fr = f at *
  subst hfr
  unfold FR
  rw [h3]
  conv => arg 2; whnf
  clear h3
  go_wp2_with (first
    | (at_builtin; (refine wpList_append_b rfl (.tmp 38) (.tmp 39) 28 rfl (OB.alloc Hown.out _) rfl (Src.lit w _ [0] rfl 1 1 rfl) rfl ?_ ?_ ?_; rotate_right; intro v4 w4 hown4 hgr4 hat4; rw [List.append_assoc, show (128 :: List.replicate j (0 : UInt8)) ++ [0] = 128 :: List.replicate (j + 1) 0 by rw [List.replicate_succ', List.cons_append]] at hown4; obtain ⟨A4, cap4, hv4, hc4, hm4, hr4⟩ := hown4.form; rw [show (l ++ (128 : UInt8) :: List.replicate (j + 1) 0).length = n + 1 + (j + 1) by rw [List.length_append, Hl.out]; simp; omega] at hv4; subst hv4))
    | fail)
  case refine_1 => have := Hl.out; simp; omega
  case refine_2 => have := HB.out; simp; omega
  exact HQ.out _ _ A4 cap4 rfl rfl rfl rfl hown4 (below_append ((Below.refl _ w).alloc HB.out _ ) hgr4 (Hown.out.alloc _) (Nat.le_refl _) (by have := HB.out; simp; omega))

set_option maxHeartbeats 4000000 in
set_option maxRecDepth 100000 in
theorem refP_exit (fr : Act) (A : Option Addr) (cap n : Nat) (w : World) (Q : Exit → Act → World → Prop)
    (hfr : IsF fr) (h3 : Act.slot fr 3 = .slice A (n + 1 + padZ n) cap) (hn : n ≤ 549755813888)
    (hQ : ∀ (fr' : Act), IsF fr' → Act.slot fr' 0 = Act.slot fr 0 → Act.slot fr' 2 = Act.slot fr 2 → Act.slot fr' 3 = .slice A (n + 1 + padZ n) cap → Q (.exit 0) fr' w) :
    Code.wp Tryd.prog (lpOf Tryd.f76.body 0) Q fr w := by
  have HQ := Lib.hid hQ
  clear hQ
  have ht : ((((n : Int) + 1 + (padZ n : Int))) % 64 != 56) = false := by rw [refpad_test n (padZ n) (by omega)]; exact decide_eq_false (by omega)
  have hp : padZ n ≤ 64 := by unfold padZ; omega
  generalize padZ n = p at *
  unfold IsF at hfr
  generalize Act.slot fr = f at *
  subst hfr
  unfold FR
  rw [h3]
  conv => arg 2; whnf
  clear h3
  go_wp2
  exact HQ.out _ rfl rfl rfl rfl

set_option maxRecDepth 100000 in
theorem refP (fr : Act) (A : Option Addr) (cap B n : Nat) (l : List UInt8) (w : World) (Q : Exit → Act → World → Prop) (s0 s2 : Value)
    (hfr : IsF fr) (h0 : Act.slot fr 0 = s0) (h2 : Act.slot fr 2 = s2) (h3 : Act.slot fr 3 = .slice A (n + 1) cap) (hl : l.length = n) (hn : n ≤ 549755813888) (hB : B ≤ w.heap.size)
    (hown : OB w B (.slice A (n + 1) cap) (l ++ [128]))
    (hQ : ∀ (fr' : Act) (w' : World) (A : Option Addr) (cap : Nat), IsF fr' → Act.slot fr' 0 = s0 → Act.slot fr' 2 = s2 → Act.slot fr' 3 = .slice A (n + 1 + padZ n) cap →
      OB w' B (.slice A (n + 1 + padZ n) cap) (l ++ 128 :: List.replicate (padZ n) 0) → Below B w w' → Q (.exit 0) fr' w') :
    Code.wp Tryd.prog (.loop (lpOf Tryd.f76.body 0)) Q fr w := by
  refine wp_loop_ghost (fun m a w' => ∃ (j : Nat) (A : Option Addr) (cap : Nat), j + m = padZ n ∧ IsF a ∧ Act.slot a 0 = s0 ∧ Act.slot a 2 = s2 ∧ Act.slot a 3 = .slice A (n + 1 + j) cap ∧
    OB w' B (.slice A (n + 1 + j) cap) (l ++ 128 :: List.replicate j 0) ∧ Below B w w') (padZ n) ⟨0, A, cap, by omega, hfr, h0, h2, h3, hown, Below.refl _ _⟩ ?_
  rintro m a w1 ⟨j, A, cap, hj, a0, a1, a2, a3, ho, hb⟩
  by_cases hlt : j < padZ n
  · refine refP_body a A cap B n j l w1 _ a0 a3 hl hn hlt (Nat.le_trans hB hb.size) ho ?_
    intro fr' w2 A' cap' b0 b1 b2 b3 ho2 hb2
    exact ⟨m - 1, by omega, j + 1, A', cap', by omega, b0, b1.trans a1, b2.trans a2, b3, ho2, hb.trans hb2⟩
  · have hj' : j = padZ n := by omega
    rw [hj'] at a3 ho
    exact refP_exit a A cap n w1 _ a0 a3 hn (fun fr' b0 b1 b2 b3 => hQ fr' w1 A cap b0 (b1.trans a1) (b2.trans a2) b3 ho hb)

def lenL (l : List UInt8) (n i : Nat) : List UInt8 := l ++ ((128 :: List.replicate (padZ n) 0) ++ (lenBytes (n * 8)).take i)
theorem lenL_length (l : List UInt8) (n i : Nat) (hl : l.length = n) (hi : i ≤ 8) : (lenL l n i).length = n + 1 + padZ n + i := by simp [lenL, lenBytes]; omega
theorem lenL_succ (l : List UInt8) (n i : Nat) (hi : i < 8) : lenL l n i ++ [UInt8.ofNat (n * 8 / 2 ^ (8 * (7 - i)))] = lenL l n (i + 1) := by
  unfold lenL
  rw [lenBytes_take _ _ hi, List.append_assoc, List.append_assoc]

set_option maxHeartbeats 4000000 in
set_option maxRecDepth 100000 in
theorem refQ_body (fr : Act) (A : Option Addr) (cap B n i : Nat) (l : List UInt8) (w : World) (Q : Exit → Act → World → Prop)
    (hfr : IsF fr) (h3 : Act.slot fr 3 = .slice A (n + 1 + padZ n + i) cap) (h4 : Act.slot fr 4 = .int .i64 ((n : Int) * 8)) (h5 : Act.slot fr 5 = .int .i64 (7 - (i : Int))) (hl : l.length = n) (hn : n ≤ 549755813888) (hi : i < 8) (hB : B ≤ w.heap.size)
    (hown : OB w B (.slice A (n + 1 + padZ n + i) cap) (lenL l n i))
    (hQ : ∀ (fr' : Act) (w' : World) (A : Option Addr) (cap : Nat), IsF fr' → Act.slot fr' 2 = Act.slot fr 2 → Act.slot fr' 3 = .slice A (n + 1 + padZ n + (i + 1)) cap → Act.slot fr' 4 = .int .i64 ((n : Int) * 8) → Act.slot fr' 5 = .int .i64 (7 - (i : Int) - 1) →
      OB w' B (.slice A (n + 1 + padZ n + (i + 1)) cap) (lenL l n (i + 1)) → Below B w w' → Q .normal fr' w') :
    Code.wp Tryd.prog (lpOf Tryd.f76.body 1) Q fr w := by
  have HQ := Lib.hid hQ
  have Hown := Lib.hid hown
  have Hl := Lib.hid hl
  have HB := Lib.hid hB
  clear hQ hown hl hB
  have hp : padZ n ≤ 64 := by unfold padZ; omega
  have m0 : (0 : Int) ≤ 7 - (i : Int) := by omega
  have m2 : IntKind.i64.wrap (8 * (7 - (i : Int))) = 8 * (7 - (i : Int)) := IntWalk.i64_in _ (by omega)
  have n0 : (0 : Int) ≤ 8 * (7 - (i : Int)) := by omega
  have n1 : 8 * (7 - (i : Int)) < 64 := by omega
  unfold IsF at hfr
  generalize Act.slot fr = f at *
  subst hfr
  unfold FR
  rw [h3, h4, h5]
  conv => arg 2; whnf
  clear h3 h4 h5
  go_wp2_with (first
    | (at_builtin; (refine wpList_append_b rfl (.tmp 48) (.tmp 55) 28 rfl (OB.alloc Hown.out _) rfl (Src.lit w _ [UInt8.ofNat (n * 8 / 2 ^ (8 * (7 - i)))] ?_ 1 1 rfl) rfl ?_ ?_ ?_; rotate_right; intro v2 w2 hown2 hgr2 hat2; rw [lenL_succ l n i hi] at hown2; obtain ⟨A2, cap2, hv2, hc2, hm2, hr2⟩ := hown2.form; rw [lenL_length l n (i + 1) Hl.out (by omega)] at hv2; subst hv2))
    | fail)
  case refine_1 => rw [lenByte_cell]; simp
  case refine_2 => rw [lenL_length l n i Hl.out (by omega)]; simp; omega
  case refine_3 => have := HB.out; simp; omega
  exact HQ.out _ _ A2 cap2 rfl rfl rfl rfl rfl hown2 (below_append ((Below.refl _ w).alloc HB.out _ ) hgr2 (Hown.out.alloc _) (Nat.le_refl _) (by have := HB.out; simp; omega))

set_option maxHeartbeats 4000000 in
set_option maxRecDepth 100000 in
theorem refQ_exit (fr : Act) (w : World) (Q : Exit → Act → World → Prop)
    (hfr : IsF fr) (h5 : Act.slot fr 5 = .int .i64 (7 - ((8 : Nat) : Int)))
    (hQ : ∀ (fr' : Act), IsF fr' → Act.slot fr' 2 = Act.slot fr 2 → Act.slot fr' 3 = Act.slot fr 3 → Q (.exit 2) fr' w) :
    Code.wp Tryd.prog (lpOf Tryd.f76.body 1) Q fr w := by
  have HQ := Lib.hid hQ
  clear hQ
  unfold IsF at hfr
  generalize Act.slot fr = f at *
  subst hfr
  unfold FR
  rw [h5]
  conv => arg 2; whnf
  clear h5
  go_wp2
  exact HQ.out _ rfl rfl rfl

set_option maxRecDepth 100000 in
theorem refQ (fr : Act) (A : Option Addr) (cap B n : Nat) (l : List UInt8) (w : World) (Q : Exit → Act → World → Prop) (s2 : Value)
    (hfr : IsF fr) (h2 : Act.slot fr 2 = s2) (h3 : Act.slot fr 3 = .slice A (n + 1 + padZ n) cap) (h4 : Act.slot fr 4 = .int .i64 ((n : Int) * 8)) (h5 : Act.slot fr 5 = .int .i64 7) (hl : l.length = n) (hn : n ≤ 549755813888) (hB : B ≤ w.heap.size)
    (hown : OB w B (.slice A (n + 1 + padZ n) cap) (l ++ 128 :: List.replicate (padZ n) 0))
    (hQ : ∀ (fr' : Act) (w' : World) (A : Option Addr) (cap : Nat), IsF fr' → Act.slot fr' 2 = s2 → Act.slot fr' 3 = .slice A (n + 1 + padZ n + 8) cap →
      OB w' B (.slice A (n + 1 + padZ n + 8) cap) (l ++ padOf n n) → Below B w w' → Q (.exit 2) fr' w') :
    Code.wp Tryd.prog (.loop (lpOf Tryd.f76.body 1)) Q fr w := by
  refine wp_loop_ghost (fun m a w' => ∃ (i : Nat) (A : Option Addr) (cap : Nat), i + m = 8 ∧ IsF a ∧ Act.slot a 2 = s2 ∧ Act.slot a 3 = .slice A (n + 1 + padZ n + i) cap ∧ Act.slot a 4 = .int .i64 ((n : Int) * 8) ∧ Act.slot a 5 = .int .i64 (7 - (i : Int)) ∧
    OB w' B (.slice A (n + 1 + padZ n + i) cap) (lenL l n i) ∧ Below B w w') 8 ⟨0, A, cap, by omega, hfr, h2, h3, h4, h5, by simpa [lenL] using hown, Below.refl _ _⟩ ?_
  rintro m a w1 ⟨i, A, cap, hi, a0, a2, a3, a4, a5, ho, hb⟩
  by_cases hlt : i < 8
  · refine refQ_body a A cap B n i l w1 _ a0 a3 a4 a5 hl hn hlt (Nat.le_trans hB hb.size) ho ?_
    intro fr' w2 A' cap' b0 b2 b3 b4 b5 ho2 hb2
    exact ⟨m - 1, by omega, i + 1, A', cap', by omega, b0, b2.trans a2, b3, b4, by rw [b5]; exact congrArg (Value.int .i64) (by omega), ho2, hb.trans hb2⟩
  · obtain rfl : i = 8 := by omega
    refine refQ_exit a w1 _ a0 a5 (fun fr' b0 b2 b3 => hQ fr' w1 A cap b0 (b2.trans a2) (b3.trans a3) ?_ hb)
    have e : lenL l n 8 = l ++ padOf n n := by
      unfold lenL padOf
      rw [List.take_of_length_le (by simp [lenBytes])]
    rw [← e]
    exact ho
end Go.Proofs.YtifjddkgnfanaaaDoor
