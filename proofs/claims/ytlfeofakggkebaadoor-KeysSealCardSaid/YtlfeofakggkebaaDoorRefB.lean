/- The reference's Sum: a block's other words. -/
import Derived.Test.YtlfeofakggkebaaDoorRefA
import Derived.Deep.RegionLaw
import Derived.Deep.RegionHeld3
namespace Go.Proofs.YtlfeofakggkebaaDoor
open Go.RowKit

theorem turn_i (x : UInt32) (i : Int) (w : World) (h0 : 0 < i) (h : i < 32) :
    Calls Tryd.prog 127 #[.int .i64 (x.toNat : Int), .int .i64 i] w fun e w' => e = .returned (.int .i64 ((rotr x i.toNat).toNat : Int)) ∧ w' = w := by
  obtain ⟨n, rfl⟩ := Int.eq_ofNat_of_zero_le (Int.le_of_lt h0)
  exact turn_any x n w (by omega) (by omega)

theorem wnext_ints (x16 x15 x7 x2 : UInt32) :
    bits .xor .i64 (bits .xor .i64 ((rotr x15 7).toNat : Int) ((rotr x15 18).toNat : Int)) ((x15.toNat : Int) / 8) = ((sig0 x15).toNat : Int) ∧
    bits .xor .i64 (bits .xor .i64 ((rotr x2 17).toNat : Int) ((rotr x2 19).toNat : Int)) ((x2.toNat : Int) / 1024) = ((sig1 x2).toNat : Int) ∧
    IntKind.i64.wrap ((x16.toNat : Int) + ((sig0 x15).toNat : Int)) = (x16.toNat : Int) + ((sig0 x15).toNat : Int) ∧
    IntKind.i64.wrap ((x16.toNat : Int) + ((sig0 x15).toNat : Int) + (x7.toNat : Int)) = (x16.toNat : Int) + ((sig0 x15).toNat : Int) + (x7.toNat : Int) ∧
    IntKind.i64.wrap ((x16.toNat : Int) + ((sig0 x15).toNat : Int) + (x7.toNat : Int) + ((sig1 x2).toNat : Int)) = (x16.toNat : Int) + ((sig0 x15).toNat : Int) + (x7.toNat : Int) + ((sig1 x2).toNat : Int) ∧
    bits .and .i64 ((x16.toNat : Int) + ((sig0 x15).toNat : Int) + (x7.toNat : Int) + ((sig1 x2).toNat : Int)) 4294967295 = ((x16 + sig0 x15 + x7 + sig1 x2).toNat : Int) := by
  have h8 := shr32 x15 3 (by decide)
  have h10 := shr32 x2 10 (by decide)
  rw [show (2 : Int) ^ 3 = 8 by decide] at h8
  rw [show (2 : Int) ^ 10 = 1024 by decide] at h10
  have a1 := x16.toNat_lt
  have a2 := (sig0 x15).toNat_lt
  have a3 := x7.toNat_lt
  have a4 := (sig1 x2).toNat_lt
  refine ⟨by rw [h8, i_xor, i_xor]; rfl, by rw [h10, i_xor, i_xor]; rfl, IntWalk.i64_in _ (by omega), IntWalk.i64_in _ (by omega), IntWalk.i64_in _ (by omega), ?_⟩
  have e : ((x16.toNat : Int) + ((sig0 x15).toNat : Int) + (x7.toNat : Int) + ((sig1 x2).toNat : Int)) = ((x16.toNat + (sig0 x15).toNat + x7.toNat + (sig1 x2).toNat : Nat) : Int) := by omega
  rw [e, i64_mask _ (by omega), UInt32.toNat_add, UInt32.toNat_add, UInt32.toNat_add]
  omega

theorem wnext_mod (x16 x15 x7 x2 : UInt32) : ((x16.toNat : Int) + ((sig0 x15).toNat : Int) + (x7.toNat : Int) + ((sig1 x2).toNat : Int)) % 4294967296 = ((x16 + sig0 x15 + x7 + sig1 x2).toNat : Int) := by
  rw [UInt32.toNat_add, UInt32.toNat_add, UInt32.toNat_add]
  omega

set_option maxHeartbeats 4000000 in
set_option maxRecDepth 100000 in
theorem refB (fr : Act) (s2 s3 s6 s7 s8 s17 : Value) (A0 : Option Addr) (c0 B : Nat) (bl : List UInt8) (w : World) (Q : Exit → Act → World → Prop)
    (hfr : IsFR fr s2 s3 s6 s7 s8 (.slice A0 16 c0) s17) (h12 : Act.slot fr 12 = .int .i64 16)
    (hB : B ≤ w.heap.size) (hown0 : OI w B (.slice A0 16 c0) (sched bl 16))
    (hQ : ∀ (fr' : Act) (w' : World) (A : Option Addr) (c : Nat), IsFR fr' s2 s3 s6 s7 s8 (.slice A 64 c) s17 →
      OI w' B (.slice A 64 c) (sched bl 64) → Below B w w' → Q (.exit 8) fr' w') :
    Code.wp Tryd.prog (.loop (lpOf Tryd.f96.body 4)) Q fr w := by
  have HQ := Lib.hid hQ
  have Hown0 := Lib.hid hown0
  clear hQ hown0
  unfold IsFR at hfr
  generalize Act.slot fr = f at *
  subst hfr
  unfold FR
  rw [h12]
  conv => arg 2; arg 1; whnf
  clear h12
  have HB := Lib.hid hB
  go_loopg [9, 12] 48 (fun k s9 s12 wr => ∃ (A : Option Addr) (c i : Nat), s9 = .slice A i c ∧ s12 = .int .i64 (i : Int) ∧ i + k = 64 ∧ 16 ≤ i ∧ OI wr B (.slice A i c) (sched bl i) ∧ Below B w wr)
  case atStart => exact ⟨_, _, 16, rfl, rfl, rfl, Nat.le_refl _, Hown0.out, Below.refl _ w⟩
  case round =>
    obtain ⟨A, c, i, rfl, rfl, hik, h16, hown, hbel⟩ := hrel
    have Hown := Lib.hid hown
    have Hbel := Lib.hid hbel
    clear hown hbel
    by_cases hi : i < 64
    · obtain ⟨b, o, hA, hcl⟩ := (OI.ir Hown.out (sched_length bl i).symm).2 (by omega)
      subst hA
      have ex : ∀ d, 0 < d → d ≤ 16 → wr.cell? ⟨b, o + (i - d), none⟩ = some (.int .i64 (((sched bl 64).getD (i - d) 0).toNat : Int)) := fun d h1 h2 => by
        rw [hcl (i - d) (by omega), sched_get bl (i - d) i (by omega), sched_get bl (i - d) 64 (by omega)]
      have e16 := ex 16 (by omega) (by omega)
      have e15 := ex 15 (by omega) (by omega)
      have e7 := ex 7 (by omega) (by omega)
      have e2 := ex 2 (by omega) (by omega)
      clear ex hcl
      have HS := Lib.hid (show sched bl (i + 1) = sched bl i ++ [(sched bl 64).getD (i - 16) 0 + sig0 ((sched bl 64).getD (i - 15) 0) + (sched bl 64).getD (i - 7) 0 + sig1 ((sched bl 64).getD (i - 2) 0)] by
        have h := sched_rec bl i hi
        rw [if_neg (by omega)] at h
        rw [← h, sched_get bl i 64 hi]
        rfl)
      generalize (sched bl 64).getD (i - 16) 0 = x16 at *
      generalize (sched bl 64).getD (i - 15) 0 = x15 at *
      generalize (sched bl 64).getD (i - 7) 0 = x7 at *
      generalize (sched bl 64).getD (i - 2) 0 = x2 at *
      have m16 : IntKind.i64.wrap ((i : Int) - 16) = (i : Int) - 16 := IntWalk.i64_in _ (by omega)
      have m15 : IntKind.i64.wrap ((i : Int) - 15) = (i : Int) - 15 := IntWalk.i64_in _ (by omega)
      have m7 : IntKind.i64.wrap ((i : Int) - 7) = (i : Int) - 7 := IntWalk.i64_in _ (by omega)
      have m2 : IntKind.i64.wrap ((i : Int) - 2) = (i : Int) - 2 := IntWalk.i64_in _ (by omega)
      have p16 : (16 : Int) ≤ (i : Int) := by omega
      have p15 : (15 : Int) ≤ (i : Int) := by omega
      have p7 : (7 : Int) ≤ (i : Int) := by omega
      have p2 : (2 : Int) ≤ (i : Int) := by omega
      have q16 : (i : Int) - 16 < (i : Int) := by omega
      have q15 : (i : Int) - 15 < (i : Int) := by omega
      have q7 : (i : Int) - 7 < (i : Int) := by omega
      have q2 : (i : Int) - 2 < (i : Int) := by omega
      have t16 : ((i : Int) - 16).toNat = i - 16 := by omega
      have t15 : ((i : Int) - 15).toNat = i - 15 := by omega
      have t7 : ((i : Int) - 7).toNat = i - 7 := by omega
      have t2 : ((i : Int) - 2).toNat = i - 2 := by omega
      go_wp2_with fail
      go_quiet (fail)
      go_wp2_with (first
        | (go_at_call 127; refine (turn_i _ _ _ (by decide) (by decide)).mono ?_; rintro e w' ⟨rfl, rfl⟩)
        | fail)
      have Hw := Lib.hid (wnext_ints x16 x15 x7 x2)
      rw [Hw.out.1, Hw.out.2.1]
      replace e16 : (wr.drewN nq).cell? ⟨b, o + (i - 16), none⟩ = some (.int .i64 (x16.toNat : Int)) := e16
      replace e7 : (wr.drewN nq).cell? ⟨b, o + (i - 7), none⟩ = some (.int .i64 (x7.toNat : Int)) := e7
      replace Hown : Hid (OI (wr.drewN nq) B (.slice (some ⟨b, o, none⟩) i c) (sched bl i)) := Hown
      replace Hbel : Hid (Below B w (wr.drewN nq)) := Lib.hid (below_drewN Hbel.out nq)
      clear e15 e2
      generalize wr.drewN nq = wd at *
      have Hlt := Lib.hid (World.block_lt_of_cell? wd _ e16)
      have w0 := Hw.out.2.2.1
      have w1 := Hw.out.2.2.2.1
      have w2 := Hw.out.2.2.2.2.1
      have Hz := Lib.hid Hw.out.2.2.2.2.2
      refine wp_region_noPanic ?_
      go_region_law
        (first | ((refine step_append_i rfl (.tmp 136) (.tmp 153) 198 rfl (Hown.out.alloc _) rfl (Src.liti wd.drew _ [x16 + sig0 x15 + x7 + sig1 x2] (by rw [Hz.out]; rfl) 1 1 rfl) rfl (by simp [sched_length]; omega) (by have := Hbel.out.size; have := HB.out; simp; omega) ?_; intro v2 w2 hown2 hgr2 hat2; rw [← HS.out] at hown2; obtain ⟨A2, c2, hv2, hc2, hm2, hr2⟩ := hown2.form; rw [sched_length] at hv2; subst hv2; have Hown2 := Lib.hid hown2; have Hgr2 := Lib.hid hgr2; clear hown2 hgr2 hat2 hr2)))
      all_goals
        refine NoPanic.normal ?_
        clear m16 m15 m7 m2 p16 p15 p7 p2 q16 q15 q7 q2 t16 t15 t7 t2
        go_wp2
        go_roundg (gk - 1)
        case measure => omega
        case rel => exact ⟨A2, c2, i + 1, rfl, by go_num, by omega, by omega, Hown2.out, below_append_i ((below_drew Hbel.out).alloc (Nat.le_trans HB.out Hbel.out.size) _) Hgr2.out (Hown.out.alloc _) (Nat.le_refl _) (by have := Hbel.out.size; have := HB.out; simp; omega)⟩
    · obtain rfl : i = 64 := by omega
      go_wp2
      refine HQ.out _ _ A c rfl Hown.out Hbel.out
end Go.Proofs.YtlfeofakggkebaaDoor
