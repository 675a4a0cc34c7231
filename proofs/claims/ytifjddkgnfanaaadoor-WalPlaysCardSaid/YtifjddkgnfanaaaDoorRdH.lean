/- The document's disk: a round of Crash that tears, counting from the first. -/
import Derived.Test.YtifjddkgnfanaaaDoorRdG
namespace Go.Proofs.YtifjddkgnfanaaaDoor
open Go.RowKit

set_option maxHeartbeats 4000000 in
set_option maxRecDepth 100000 in
theorem rc_b1_1 {w0 : World} {O : Nat → Prop} {g : Nat} {F : Nat → List UInt8} (fr : Act) (w : World) (Q : Exit → Act → World → Prop) (kept s torn : Int) (b o n cw j kk : Nat) (c : DChg) (AX : Option Addr) (kx : Nat) (hJ : RJ w0 O g F kept s torn (.slice (some ⟨b, o, none⟩) n cw) n j fr w) (hj : j < n) (hn : n ≤ 1000) (hs0 : 0 ≤ s) (hca : c.area < 3) (hcp : c.pos + c.bytes.length ≤ 1048576) (hFl : (F c.area).length ≤ 1048576)
    (g0 : w0.cell? ⟨b, o + j * 4, none⟩ = some (.int .i64 (c.area : Int))) (g1 : w0.cell? ⟨b, o + j * 4 + 1, none⟩ = some (.int .i64 (c.pos : Int))) (g2 : w0.cell? ⟨b, o + j * 4 + 2, none⟩ = some (.slice AX c.bytes.length kx)) (g3 : w0.cell? ⟨b, o + j * 4 + 3, none⟩ = some (.bool c.cuts)) (g4 : w0.cell? ⟨g, 4, none⟩ = some (.slice (some ⟨b, o, none⟩) n cw)) (hx : RB w0 AX c.bytes.length c.bytes) (hxk : c.bytes.length ≤ kx)
    (hk : kept < 0) (hkk : j = kk) (hbit : bitAt s kk = false) (hk0 : kk = 0) (hcut : c.cuts = false) (ht : 0 < torn) (tn : Nat) (htn : torn = (tn : Int)) (hz : tn ≤ c.bytes.length)
    (hQ : ∀ (fr' : Act) (w' : World), RJ w0 O g (updB F c.area (doB (F c.area) ⟨c.area, c.pos, c.bytes.take tn, false⟩)) kept s torn (.slice (some ⟨b, o, none⟩) n cw) n (j + 1) fr' w' → Q .normal fr' w') :
    Code.wp Tryd.prog (lpC Tryd.f34.body 0) Q fr w := by
  obtain ⟨h0, s0, s1, s2, s3, s8, s21, s22, s23, A, k, hK⟩ := hJ
  have HQ := Lib.hid hQ
  have HK := Lib.hid hK
  have kk0 := Keeps.of_below hK.bel
  have c0 := kk0 _ _ g0
  have c1 := kk0 _ _ g1
  have c2 := kk0 _ _ g2
  have c3 := kk0 _ _ g3
  have c4 := kk0 _ _ g4
  have HX := Lib.hid (hx.keep kk0)
  have HXK := Lib.hid hxk
  have j0 : (0 : Int) ≤ (j : Int) := by omega
  have j1 : (j : Int) < (n : Int) := by omega
  have n1 : (n : Int) ≤ 1000 := by omega
  subst hkk
  have k1 : decide (kept < 0) = true := decide_eq_true hk
  have k2 : decide ((n : Int) < 0) = false := decide_eq_false (by omega)
  have qw : IntKind.u64.wrap ((j : Int)) = (j : Int) := by rw [IntKind.wrap_u64]; omega
  have q1 : decide ((j : Int) < 0) = false := decide_eq_false (by omega)
  have q2 : decide ((j : Int) < 63) = true := decide_eq_true (by omega)
  have q2b : (0 : Int) ≤ (j : Int) := by omega
  have q2c : ((j : Int)) ≤ 62 := by omega
  have q3 : ((s / 2 ^ j).tmod 2 == 1) = false := (rem_bit hs0 j).1.trans hbit
  have q3b : (s / 2 ^ j % 2 == 1) = false := (rem_bit hs0 j).2.trans hbit
  have q4 : ((j : Int) == 0) = true := by rw [beq_iff_eq]; omega
  have qt : decide (0 < torn) = true := decide_eq_true (by omega)
  have ql : decide (0 < c.bytes.length) = true := decide_eq_true (by omega)
  have ql2 : decide ((0 : Int) < (c.bytes.length : Int)) = true := decide_eq_true (by omega)
  have qm : decide ((c.bytes.length : Int) < torn) = false := decide_eq_false (by omega)
  have qmk : torn ≤ (kx : Int) := by omega
  have qm0 : (0 : Int) ≤ torn := by omega
  have qm1 : torn ≤ (c.bytes.length : Int) := by omega
  have qm2 : torn.toNat = tn := by omega
  rw [hcut] at c3 g3
  have D0 := (Below.refl w.heap.size w).alloc (Nat.le_refl _) (.cells #[.int .i64 (c.area : Int), .int .i64 (c.pos : Int), .slice AX c.bytes.length kx, .bool false] 70)
  have hbox := heap_alloc_new w (.cells #[.int .i64 (c.area : Int), .int .i64 (c.pos : Int), .slice AX c.bytes.length kx, .bool false] 70)
  obtain ⟨wB, hwB⟩ : ∃ W, W = w.alloc (.cells #[.int .i64 (c.area : Int), .int .i64 (c.pos : Int), .slice AX c.bytes.length kx, .bool false] 70) := ⟨_, rfl⟩
  rw [← hwB] at D0 hbox
  have HB := Lib.hid D0
  have HBX := Lib.hid hbox
  have HWB := Lib.hid hwB
  have HSB : Hid (w.heap.size < wB.heap.size) := Lib.hid (by rw [hwB]; simp)
  have m4 : ∀ ob, (w.alloc ob).cell? ⟨g, 4, none⟩ = some (.slice (some ⟨b, o, none⟩) n cw) := fun ob => Keeps.of_below ((Below.refl w.heap.size w).alloc (Nat.le_refl _) ob) _ _ c4
  have r0 : w.cell? ⟨w0.heap.size, 0, none⟩ = some (.slice (A 0) (F 0).length (k 0)) := cell_of_row _ _ 0 _ _ _ hK.row
  have r1 : w.cell? ⟨w0.heap.size, 1, none⟩ = some (.slice (A 1) (F 1).length (k 1)) := cell_of_row _ _ 1 _ _ _ hK.row
  have r2 : w.cell? ⟨w0.heap.size, 2, none⟩ = some (.slice (A 2) (F 2).length (k 2)) := cell_of_row _ _ 2 _ _ _ hK.row
  have v0 : ∀ ob, (w.alloc ob).cell? ⟨w0.heap.size, 0, none⟩ = some (.slice (A 0) (F 0).length (k 0)) := fun ob => Keeps.of_below ((Below.refl w.heap.size w).alloc (Nat.le_refl _) ob) _ _ r0
  have v1 : ∀ ob, (w.alloc ob).cell? ⟨w0.heap.size, 1, none⟩ = some (.slice (A 1) (F 1).length (k 1)) := fun ob => Keeps.of_below ((Below.refl w.heap.size w).alloc (Nat.le_refl _) ob) _ _ r1
  have v2 : ∀ ob, (w.alloc ob).cell? ⟨w0.heap.size, 2, none⟩ = some (.slice (A 2) (F 2).length (k 2)) := fun ob => Keeps.of_below ((Below.refl w.heap.size w).alloc (Nat.le_refl _) ob) _ _ r2
  have HDn : Hid (∀ W, Below wB.heap.size wB W → Calls Tryd.prog 50 #[.agg #[.slice (A 0) (F 0).length (k 0), .slice (A 1) (F 1).length (k 1), .slice (A 2) (F 2).length (k 2)], .agg #[.int .i64 (c.area : Int), .int .i64 (c.pos : Int), .slice AX tn kx, .bool false]] W fun e w' => ∃ A7 k7, e = .returned (.agg #[.slice (updF A c.area A7 0) (updB F c.area (doB (F c.area) ⟨c.area, c.pos, (c.bytes.take tn), false⟩) 0).length (updF k c.area k7 0), .slice (updF A c.area A7 1) (updB F c.area (doB (F c.area) ⟨c.area, c.pos, (c.bytes.take tn), false⟩) 1).length (updF k c.area k7 1), .slice (updF A c.area A7 2) (updB F c.area (doB (F c.area) ⟨c.area, c.pos, (c.bytes.take tn), false⟩) 2).length (updF k c.area k7 2)]) ∧ OB w' W.heap.size (.slice A7 (doB (F c.area) ⟨c.area, c.pos, (c.bytes.take tn), false⟩).length k7) (doB (F c.area) ⟨c.area, c.pos, (c.bytes.take tn), false⟩) ∧ Below W.heap.size W w') := Lib.hid fun W hW => by
    have hrx : RB W AX (c.bytes.take tn).length (c.bytes.take tn) := by
      have h := ((HX.out.keep (Keeps.of_below D0)).keep (Keeps.of_below hW)).takeR tn hz
      have e : (c.bytes.take tn).length = tn := by rw [List.length_take]; omega
      rw [e]; exact h
    have hd := Done_any A k F ⟨c.area, c.pos, (c.bytes.take tn), false⟩ AX kx W hca ((show OB w 0 (.slice (A c.area) (F c.area).length (k c.area)) (F c.area) from (hK.ob c.area hca).1).rbA.keep ((Keeps.of_below D0).trans (Keeps.of_below hW))) hFl hrx (by show c.pos + (c.bytes.take tn).length ≤ 1048576; rw [List.length_take]; omega)
    have e : (c.bytes.take tn).length = tn := by rw [List.length_take]; omega
    rw [show (DChg.bytes ⟨c.area, c.pos, c.bytes.take tn, false⟩).length = tn from e] at hd
    exact hd
  clear hQ hK kk0 g0 g1 g2 g3 g4 hx hxk D0 hbox hwB hFl hbit hk0 hcut ht htn hz
  unfold IsKR at h0
  generalize slotR fr = f at *
  subst h0
  unfold KR
  rw [s0, s1, s2, s3, s8, s21, s22, s23]
  conv => arg 2; whnf
  clear s0 s1 s2 s3 s8 s21 s22 s23
  go_wp2_with fail
  rw [← HWB.out]
  have t0 := cell_of_row _ _ 0 _ _ _ HBX.out
  have t0' : wB.cell? ⟨w.heap.size, 0, none⟩ = some (.int .i64 (c.area : Int)) := t0
  have t1 := cell_of_row _ _ 1 _ _ _ HBX.out
  have t1' : wB.cell? ⟨w.heap.size, 1, none⟩ = some (.int .i64 (c.pos : Int)) := t1
  have t2 := cell_of_row _ _ 2 _ _ _ HBX.out
  have t2' : wB.cell? ⟨w.heap.size, 2, none⟩ = some (.slice AX c.bytes.length kx) := t2
  have x0 : wB.cell? ⟨w0.heap.size, 0, none⟩ = some (.slice (A 0) (F 0).length (k 0)) := Keeps.of_below HB.out _ _ r0
  have x1 : wB.cell? ⟨w0.heap.size, 1, none⟩ = some (.slice (A 1) (F 1).length (k 1)) := Keeps.of_below HB.out _ _ r1
  have x2 : wB.cell? ⟨w0.heap.size, 2, none⟩ = some (.slice (A 2) (F 2).length (k 2)) := Keeps.of_below HB.out _ _ r2
  have xk : (c.bytes.length : Int) ≤ (kx : Int) := by have := HXK.out; omega
  refine wp_region_noPanic ?_
  go_region_law (first
    | (go_simp; go_at_call 50; go_loud ((with_reducible refine (HDn.out wB.drew (below_d1 (Below.refl _ _))).mono ?_); rintro e w7 ⟨A7, k7, rfl, ho7, hb7⟩; have O7 := Lib.hid ho7; have B7 : Hid (Below wB.heap.size wB w7) := Lib.hid (Below.undrewW hb7); have R7 := Lib.hid ((B7.out.block _ (Nat.lt_trans ((Array.getElem?_eq_some_iff.1 HK.out.row).1) HSB.out)).trans ((HB.out.block _ ((Array.getElem?_eq_some_iff.1 HK.out.row).1)).trans HK.out.row)); have y0 : w7.cell? ⟨w0.heap.size, 0, none⟩ = some (.slice (A 0) (F 0).length (k 0)) := cell_of_row _ _ 0 _ _ _ R7.out; have y1 : w7.cell? ⟨w0.heap.size, 1, none⟩ = some (.slice (A 1) (F 1).length (k 1)) := cell_of_row _ _ 1 _ _ _ R7.out; have y2 : w7.cell? ⟨w0.heap.size, 2, none⟩ = some (.slice (A 2) (F 2).length (k 2)) := cell_of_row _ _ 2 _ _ _ R7.out; have f0 : w7.frozen? ⟨w0.heap.size, 0, none⟩ = false := frozen_of_row _ _ _ _ _ R7.out; have f1 : w7.frozen? ⟨w0.heap.size, 1, none⟩ = false := frozen_of_row _ _ _ _ _ R7.out; have f2 : w7.frozen? ⟨w0.heap.size, 2, none⟩ = false := frozen_of_row _ _ _ _ _ R7.out; clear ho7 hb7))
    | fail)
  all_goals
    refine NoPanic.normal ?_
    go_wp2
    refine HQ.out _ _ ?_
    unfold RJ
    exact ⟨rfl, rfl, rfl, rfl, rfl, rfl, rfl, rfl, rfl, _, _, HK.out.step HB.out B7.out O7.out HSB.out rfl rfl rfl⟩

set_option maxHeartbeats 4000000 in
set_option maxRecDepth 100000 in
theorem rc_b2_1 {w0 : World} {O : Nat → Prop} {g : Nat} {F : Nat → List UInt8} (fr : Act) (w : World) (Q : Exit → Act → World → Prop) (kept s torn : Int) (b o n cw j kk : Nat) (c : DChg) (AX : Option Addr) (kx : Nat) (hJ : RJ w0 O g F kept s torn (.slice (some ⟨b, o, none⟩) n cw) n j fr w) (hj : j < n) (hn : n ≤ 1000) (hs0 : 0 ≤ s) (hca : c.area < 3) (hcp : c.pos + c.bytes.length ≤ 1048576) (hFl : (F c.area).length ≤ 1048576)
    (g0 : w0.cell? ⟨b, o + j * 4, none⟩ = some (.int .i64 (c.area : Int))) (g1 : w0.cell? ⟨b, o + j * 4 + 1, none⟩ = some (.int .i64 (c.pos : Int))) (g2 : w0.cell? ⟨b, o + j * 4 + 2, none⟩ = some (.slice AX c.bytes.length kx)) (g3 : w0.cell? ⟨b, o + j * 4 + 3, none⟩ = some (.bool c.cuts)) (g4 : w0.cell? ⟨g, 4, none⟩ = some (.slice (some ⟨b, o, none⟩) n cw)) (hx : RB w0 AX c.bytes.length c.bytes) (hxk : c.bytes.length ≤ kx)
    (hk : kept < 0) (hkk : j = kk) (hbit : bitAt s kk = false) (hk0 : kk = 0) (hcut : c.cuts = false) (ht : (c.bytes.length : Int) < torn) (hz : 0 < c.bytes.length)
    (hQ : ∀ (fr' : Act) (w' : World), RJ w0 O g (updB F c.area (doB (F c.area) ⟨c.area, c.pos, c.bytes, false⟩)) kept s torn (.slice (some ⟨b, o, none⟩) n cw) n (j + 1) fr' w' → Q .normal fr' w') :
    Code.wp Tryd.prog (lpC Tryd.f34.body 0) Q fr w := by
  obtain ⟨h0, s0, s1, s2, s3, s8, s21, s22, s23, A, k, hK⟩ := hJ
  have HQ := Lib.hid hQ
  have HK := Lib.hid hK
  have kk0 := Keeps.of_below hK.bel
  have c0 := kk0 _ _ g0
  have c1 := kk0 _ _ g1
  have c2 := kk0 _ _ g2
  have c3 := kk0 _ _ g3
  have c4 := kk0 _ _ g4
  have HX := Lib.hid (hx.keep kk0)
  have HXK := Lib.hid hxk
  have j0 : (0 : Int) ≤ (j : Int) := by omega
  have j1 : (j : Int) < (n : Int) := by omega
  have n1 : (n : Int) ≤ 1000 := by omega
  subst hkk
  have k1 : decide (kept < 0) = true := decide_eq_true hk
  have k2 : decide ((n : Int) < 0) = false := decide_eq_false (by omega)
  have qw : IntKind.u64.wrap ((j : Int)) = (j : Int) := by rw [IntKind.wrap_u64]; omega
  have q1 : decide ((j : Int) < 0) = false := decide_eq_false (by omega)
  have q2 : decide ((j : Int) < 63) = true := decide_eq_true (by omega)
  have q2b : (0 : Int) ≤ (j : Int) := by omega
  have q2c : ((j : Int)) ≤ 62 := by omega
  have q3 : ((s / 2 ^ j).tmod 2 == 1) = false := (rem_bit hs0 j).1.trans hbit
  have q3b : (s / 2 ^ j % 2 == 1) = false := (rem_bit hs0 j).2.trans hbit
  have q4 : ((j : Int) == 0) = true := by rw [beq_iff_eq]; omega
  have qt : decide (0 < torn) = true := decide_eq_true (by omega)
  have ql : decide (0 < c.bytes.length) = true := decide_eq_true (by omega)
  have ql2 : decide ((0 : Int) < (c.bytes.length : Int)) = true := decide_eq_true (by omega)
  have qm : decide ((c.bytes.length : Int) < torn) = true := decide_eq_true (by omega)
  rw [hcut] at c3 g3
  have D0 := (Below.refl w.heap.size w).alloc (Nat.le_refl _) (.cells #[.int .i64 (c.area : Int), .int .i64 (c.pos : Int), .slice AX c.bytes.length kx, .bool false] 70)
  have hbox := heap_alloc_new w (.cells #[.int .i64 (c.area : Int), .int .i64 (c.pos : Int), .slice AX c.bytes.length kx, .bool false] 70)
  obtain ⟨wB, hwB⟩ : ∃ W, W = w.alloc (.cells #[.int .i64 (c.area : Int), .int .i64 (c.pos : Int), .slice AX c.bytes.length kx, .bool false] 70) := ⟨_, rfl⟩
  rw [← hwB] at D0 hbox
  have HB := Lib.hid D0
  have HBX := Lib.hid hbox
  have HWB := Lib.hid hwB
  have HSB : Hid (w.heap.size < wB.heap.size) := Lib.hid (by rw [hwB]; simp)
  have m4 : ∀ ob, (w.alloc ob).cell? ⟨g, 4, none⟩ = some (.slice (some ⟨b, o, none⟩) n cw) := fun ob => Keeps.of_below ((Below.refl w.heap.size w).alloc (Nat.le_refl _) ob) _ _ c4
  have r0 : w.cell? ⟨w0.heap.size, 0, none⟩ = some (.slice (A 0) (F 0).length (k 0)) := cell_of_row _ _ 0 _ _ _ hK.row
  have r1 : w.cell? ⟨w0.heap.size, 1, none⟩ = some (.slice (A 1) (F 1).length (k 1)) := cell_of_row _ _ 1 _ _ _ hK.row
  have r2 : w.cell? ⟨w0.heap.size, 2, none⟩ = some (.slice (A 2) (F 2).length (k 2)) := cell_of_row _ _ 2 _ _ _ hK.row
  have v0 : ∀ ob, (w.alloc ob).cell? ⟨w0.heap.size, 0, none⟩ = some (.slice (A 0) (F 0).length (k 0)) := fun ob => Keeps.of_below ((Below.refl w.heap.size w).alloc (Nat.le_refl _) ob) _ _ r0
  have v1 : ∀ ob, (w.alloc ob).cell? ⟨w0.heap.size, 1, none⟩ = some (.slice (A 1) (F 1).length (k 1)) := fun ob => Keeps.of_below ((Below.refl w.heap.size w).alloc (Nat.le_refl _) ob) _ _ r1
  have v2 : ∀ ob, (w.alloc ob).cell? ⟨w0.heap.size, 2, none⟩ = some (.slice (A 2) (F 2).length (k 2)) := fun ob => Keeps.of_below ((Below.refl w.heap.size w).alloc (Nat.le_refl _) ob) _ _ r2
  have HDn : Hid (∀ W, Below wB.heap.size wB W → Calls Tryd.prog 50 #[.agg #[.slice (A 0) (F 0).length (k 0), .slice (A 1) (F 1).length (k 1), .slice (A 2) (F 2).length (k 2)], .agg #[.int .i64 (c.area : Int), .int .i64 (c.pos : Int), .slice AX c.bytes.length kx, .bool false]] W fun e w' => ∃ A7 k7, e = .returned (.agg #[.slice (updF A c.area A7 0) (updB F c.area (doB (F c.area) ⟨c.area, c.pos, c.bytes, false⟩) 0).length (updF k c.area k7 0), .slice (updF A c.area A7 1) (updB F c.area (doB (F c.area) ⟨c.area, c.pos, c.bytes, false⟩) 1).length (updF k c.area k7 1), .slice (updF A c.area A7 2) (updB F c.area (doB (F c.area) ⟨c.area, c.pos, c.bytes, false⟩) 2).length (updF k c.area k7 2)]) ∧ OB w' W.heap.size (.slice A7 (doB (F c.area) ⟨c.area, c.pos, c.bytes, false⟩).length k7) (doB (F c.area) ⟨c.area, c.pos, c.bytes, false⟩) ∧ Below W.heap.size W w') := Lib.hid fun W hW => by
    have hrx : RB W AX c.bytes.length c.bytes := (HX.out.keep (Keeps.of_below D0)).keep (Keeps.of_below hW)
    have hd := Done_any A k F ⟨c.area, c.pos, c.bytes, false⟩ AX kx W hca ((show OB w 0 (.slice (A c.area) (F c.area).length (k c.area)) (F c.area) from (hK.ob c.area hca).1).rbA.keep ((Keeps.of_below D0).trans (Keeps.of_below hW))) hFl hrx (by exact hcp)
    skip
    exact hd
  clear hQ hK kk0 g0 g1 g2 g3 g4 hx hxk D0 hbox hwB hFl hbit hk0 hcut ht hz
  unfold IsKR at h0
  generalize slotR fr = f at *
  subst h0
  unfold KR
  rw [s0, s1, s2, s3, s8, s21, s22, s23]
  conv => arg 2; whnf
  clear s0 s1 s2 s3 s8 s21 s22 s23
  go_wp2_with fail
  rw [← HWB.out]
  have t0 := cell_of_row _ _ 0 _ _ _ HBX.out
  have t0' : wB.cell? ⟨w.heap.size, 0, none⟩ = some (.int .i64 (c.area : Int)) := t0
  have t1 := cell_of_row _ _ 1 _ _ _ HBX.out
  have t1' : wB.cell? ⟨w.heap.size, 1, none⟩ = some (.int .i64 (c.pos : Int)) := t1
  have t2 := cell_of_row _ _ 2 _ _ _ HBX.out
  have t2' : wB.cell? ⟨w.heap.size, 2, none⟩ = some (.slice AX c.bytes.length kx) := t2
  have x0 : wB.cell? ⟨w0.heap.size, 0, none⟩ = some (.slice (A 0) (F 0).length (k 0)) := Keeps.of_below HB.out _ _ r0
  have x1 : wB.cell? ⟨w0.heap.size, 1, none⟩ = some (.slice (A 1) (F 1).length (k 1)) := Keeps.of_below HB.out _ _ r1
  have x2 : wB.cell? ⟨w0.heap.size, 2, none⟩ = some (.slice (A 2) (F 2).length (k 2)) := Keeps.of_below HB.out _ _ r2
  have xk : (c.bytes.length : Int) ≤ (kx : Int) := by have := HXK.out; omega
  refine wp_region_noPanic ?_
  go_region_law (first
    | (go_simp; go_at_call 50; go_loud ((with_reducible refine (HDn.out wB.drew (below_d1 (Below.refl _ _))).mono ?_); rintro e w7 ⟨A7, k7, rfl, ho7, hb7⟩; have O7 := Lib.hid ho7; have B7 : Hid (Below wB.heap.size wB w7) := Lib.hid (Below.undrewW hb7); have R7 := Lib.hid ((B7.out.block _ (Nat.lt_trans ((Array.getElem?_eq_some_iff.1 HK.out.row).1) HSB.out)).trans ((HB.out.block _ ((Array.getElem?_eq_some_iff.1 HK.out.row).1)).trans HK.out.row)); have y0 : w7.cell? ⟨w0.heap.size, 0, none⟩ = some (.slice (A 0) (F 0).length (k 0)) := cell_of_row _ _ 0 _ _ _ R7.out; have y1 : w7.cell? ⟨w0.heap.size, 1, none⟩ = some (.slice (A 1) (F 1).length (k 1)) := cell_of_row _ _ 1 _ _ _ R7.out; have y2 : w7.cell? ⟨w0.heap.size, 2, none⟩ = some (.slice (A 2) (F 2).length (k 2)) := cell_of_row _ _ 2 _ _ _ R7.out; have f0 : w7.frozen? ⟨w0.heap.size, 0, none⟩ = false := frozen_of_row _ _ _ _ _ R7.out; have f1 : w7.frozen? ⟨w0.heap.size, 1, none⟩ = false := frozen_of_row _ _ _ _ _ R7.out; have f2 : w7.frozen? ⟨w0.heap.size, 2, none⟩ = false := frozen_of_row _ _ _ _ _ R7.out; clear ho7 hb7))
    | fail)
  all_goals
    refine NoPanic.normal ?_
    go_wp2
    refine HQ.out _ _ ?_
    unfold RJ
    exact ⟨rfl, rfl, rfl, rfl, rfl, rfl, rfl, rfl, rfl, _, _, HK.out.step HB.out B7.out O7.out HSB.out rfl rfl rfl⟩
end Go.Proofs.YtifjddkgnfanaaaDoor
