/- The document's disk (layer 17): a round of Crash. -/
import Derived.Test.YtifjddkgnfanaaaDoorRdF
import Derived.Test.YtifjddkgnfanaaaDoorDiskCrash
import Derived.StillTailTactics
namespace Go.Proofs.YtifjddkgnfanaaaDoor
open Go.RowKit

set_option maxRecDepth 100000 in
def KR (f : Nat → Value) : Act := ⟨#[f 0, f 1, f 2, f 3, f 4, f 5, f 6, f 7, f 8, f 9, f 10, f 11, f 12, f 13, f 14, f 15, f 16, f 17, f 18, f 19, f 20, f 21, f 22, f 23, f 24, f 25, f 26, f 27, f 28, f 29, f 30, f 31, f 32, f 33, f 34, f 35, f 36, f 37, f 38, f 39, f 40, f 41, f 42, f 43, f 44, f 45, f 46, f 47, f 48, f 49, f 50, f 51, f 52, f 53, f 54, f 55, f 56, f 57, f 58, f 59, f 60, f 61, f 62, f 63, f 64, f 65, f 66, f 67, f 68, f 69, f 70, f 71, f 72, f 73, f 74, f 75, f 76, f 77, f 78, f 79, f 80, f 81, f 82, f 83, f 84, f 85, f 86, f 87, f 88, f 89, f 90, f 91, f 92, f 93, f 94, f 95, f 96, f 97, f 98, f 99, f 100, f 101, f 102, f 103, f 104, f 105, f 106, f 107, f 108, f 109, f 110, f 111, f 112, f 113, f 114, f 115, f 116], []⟩
def slotR (a : Act) (i : Nat) : Value := a.tmps.toList.getD i undef
def IsKR (a : Act) : Prop := a = KR (slotR a)

/-- The areas in a row of the call's own. -/
structure RKW (w0 w : World) (O : Nat → Prop) (F : Nat → List UInt8) (A : Nat → Option Addr) (k : Nat → Nat) : Prop where
  row : w.heap[w0.heap.size]? = some (.cells #[av A k F 0, av A k F 1, av A k F 2] 29 (0, 0))
  ob : ∀ i, i < 3 → OB w 0 (av A k F i) (F i) ∧ ∀ q, (av A k F i).ownBlock = some q → O q ∨ w0.heap.size + 1 ≤ q
  bel : Below w0.heap.size w0 w
def RJ (w0 : World) (O : Nat → Prop) (g : Nat) (F : Nat → List UInt8) (kept s torn : Int) (lst : Value) (n j : Nat) (a : Act) (w : World) : Prop :=
  IsKR a ∧ slotR a 0 = .pointer (some ⟨g, 0, none⟩) ∧ slotR a 1 = .int .i64 kept ∧ slotR a 2 = .int .u64 s ∧ slotR a 3 = .int .i64 torn ∧ slotR a 8 = .pointer (some ⟨w0.heap.size, 0, none⟩) ∧ slotR a 21 = lst ∧ slotR a 22 = .int .i64 (n : Int) ∧ slotR a 23 = .int .i64 (j : Int) ∧ ∃ A k, RKW w0 w O F A k
theorem rem_bit {s : Int} (h0 : 0 ≤ s) (k : Nat) : ((s / 2 ^ k).tmod 2 == 1) = bitAt s k ∧ (s / 2 ^ k % 2 == 1) = bitAt s k := by
  have hp : (0 : Int) < 2 ^ k := Int.pow_pos (by decide)
  have h := Int.ediv_nonneg h0 (Int.le_of_lt hp)
  rw [Int.tmod_eq_emod_of_nonneg h]
  exact ⟨rfl, rfl⟩
/-- Behind Done and the stores. -/
theorem RKW.step {w0 w wB w7 : World} {O : Nat → Prop} {F : Nat → List UInt8} {A : Nat → Option Addr} {k : Nat → Nat} {a : Nat} {A7 : Option Addr} {l7 : List UInt8} {k7 : Nat} {x0 x1 x2 : Value} (h : RKW w0 w O F A k) (hB : Below w.heap.size w wB) (h7 : Below wB.heap.size wB w7) (ho : OB w7 wB.heap.size (.slice A7 l7.length k7) l7) (hlt : w.heap.size < wB.heap.size)
    (e0 : x0 = av (updF A a A7) (updF k a k7) (updB F a l7) 0) (e1 : x1 = av (updF A a A7) (updF k a k7) (updB F a l7) 1) (e2 : x2 = av (updF A a A7) (updF k a k7) (updB F a l7) 2) :
    RKW w0 (((w7.setCell ⟨w0.heap.size, 0, none⟩ x0).setCell ⟨w0.heap.size, 1, none⟩ x1).setCell ⟨w0.heap.size, 2, none⟩ x2) O (updB F a l7) (updF A a A7) (updF k a k7) := by
  have hq : w0.heap.size < w.heap.size := (Array.getElem?_eq_some_iff.1 h.row).1
  have hb7 : Below w.heap.size w w7 := hB.trans (h7.mono hB.size)
  have hrow7 := (hb7.block _ hq).trans h.row
  have hF := (((Fr.refl (fun q => q = w0.heap.size) w7).setCell (p := ⟨w0.heap.size, 0, none⟩) (fun _ => rfl) x0).setCell (p := ⟨w0.heap.size, 1, none⟩) (fun _ => rfl) x1).setCell (p := ⟨w0.heap.size, 2, none⟩) (fun _ => rfl) x2
  have hr := heap_setCell_same _ _ 2 _ _ x2 (heap_setCell_same _ _ 1 _ _ x1 (heap_setCell_same _ _ 0 _ _ x0 hrow7))
  have key : ∀ (v : Value) (l : List UInt8), OB w7 0 v l → OB (((w7.setCell ⟨w0.heap.size, 0, none⟩ x0).setCell ⟨w0.heap.size, 1, none⟩ x1).setCell ⟨w0.heap.size, 2, none⟩ x2) 0 v l := fun v l ho => OwnS.kept ho hF fun q hq e => by
    subst e
    obtain ⟨cur, hcur⟩ := own_type ho hq
    exact absurd (types_ne hcur hrow7) (by decide)
  refine ⟨?_, fun i hi => ?_, (h.bel.trans (hb7.mono h.bel.size)).trans (hF.below (by have := h.bel.size; have := hb7.size; omega) fun q _ e => by omega)⟩
  · subst e0; subst e1; subst e2
    exact hr
  · by_cases e : i = a
    · subst e
      rw [av_same, updB_same]
      exact ⟨key _ _ (ho.mono (Nat.zero_le _)), fun q hq => .inr (by have := (OB.lt ho q hq).1; have := h.bel.size; omega)⟩
    · rw [av_other _ _ _ _ _ _ _ _ e, updB_other _ _ _ _ e]
      obtain ⟨o1, o2⟩ := h.ob i hi
      exact ⟨key _ _ ((o1.below hB).below h7), o2⟩
theorem RKW.below {w0 w w' : World} {O : Nat → Prop} {F : Nat → List UInt8} {A : Nat → Option Addr} {k : Nat → Nat} (h : RKW w0 w O F A k) (hb : Below w.heap.size w w') : RKW w0 w' O F A k :=
  ⟨(hb.block _ (Array.getElem?_eq_some_iff.1 h.row).1).trans h.row, fun i hi => ⟨(h.ob i hi).1.below hb, (h.ob i hi).2⟩, h.bel.trans (hb.mono h.bel.size)⟩
theorem RB.takeR {w : World} {A : Option Addr} {n : Nat} {l : List UInt8} (h : RB w A n l) (k : Nat) (hk : k ≤ n) : RB w A k (l.take k) := by
  refine ⟨by rw [List.length_take, h.1]; omega, fun h0 => ?_⟩
  obtain ⟨b, o, e, hc⟩ := h.2 (by omega)
  refine ⟨b, o, e, fun j hj => ?_⟩
  rw [hc j (by omega)]
  simp [List.getD_eq_getElem?_getD, hj]

set_option maxHeartbeats 4000000 in
set_option maxRecDepth 100000 in
theorem rc_a1_2 {w0 : World} {O : Nat → Prop} {g : Nat} {F : Nat → List UInt8} (fr : Act) (w : World) (Q : Exit → Act → World → Prop) (kept s torn : Int) (b o n cw j : Nat) (c : DChg) (AX : Option Addr) (kx : Nat) (hJ : RJ w0 O g F kept s torn (.slice (some ⟨b, o, none⟩) n cw) n j fr w) (hj : j < n) (hn : n ≤ 1000) (_ : 0 ≤ s) (hca : c.area < 3) (hcp : c.pos + c.bytes.length ≤ 1048576) (hFl : (F c.area).length ≤ 1048576)
    (g0 : w0.cell? ⟨b, o + j * 4, none⟩ = some (.int .i64 (c.area : Int))) (g1 : w0.cell? ⟨b, o + j * 4 + 1, none⟩ = some (.int .i64 (c.pos : Int))) (g2 : w0.cell? ⟨b, o + j * 4 + 2, none⟩ = some (.slice AX c.bytes.length kx)) (g3 : w0.cell? ⟨b, o + j * 4 + 3, none⟩ = some (.bool c.cuts)) (g4 : w0.cell? ⟨g, 4, none⟩ = some (.slice (some ⟨b, o, none⟩) n cw)) (hx : RB w0 AX c.bytes.length c.bytes) (hxk : c.bytes.length ≤ kx)
    (hk0' : 0 ≤ kept) (hk : kept ≤ (n : Int)) (hkk : (j : Int) < kept) 
    (hQ : ∀ (fr' : Act) (w' : World), RJ w0 O g (updB F c.area (doB (F c.area) c)) kept s torn (.slice (some ⟨b, o, none⟩) n cw) n (j + 1) fr' w' → Q .normal fr' w') :
    Code.wp Tryd.prog (lpC Tryd.f34.body 0) Q fr w := by
  obtain ⟨h0, s0, s1, s2, s3, s8, s21, s22, s23, A, k, hK⟩ := hJ
  have HQ := Lib.hid hQ
  have HK := Lib.hid hK
  have kk0 := Keeps.of_below hK.bel
  have c0 := kk0 _ _ g0
  have c1 := kk0 _ _ g1
  have c2 := kk0 _ _ g2
  have c3 := kk0 _ _ g3
  have c4 := kk0 _ _ g4
  have HX := Lib.hid (hx.keep kk0)
  have HXK := Lib.hid hxk
  have j0 : (0 : Int) ≤ (j : Int) := by omega
  have j1 : (j : Int) < (n : Int) := by omega
  have n1 : (n : Int) ≤ 1000 := by omega
  have k1 : decide (kept < 0) = false := decide_eq_false (by omega)
  have k2 : decide ((n : Int) < kept) = false := decide_eq_false (by omega)
  have qs : decide ((j : Int) < kept) = true := decide_eq_true (by omega)
  have q1 : decide ((j : Int) - kept < 0) = true := decide_eq_true (by omega)
  have D0 := (Below.refl w.heap.size w).alloc (Nat.le_refl _) (.cells #[.int .i64 (c.area : Int), .int .i64 (c.pos : Int), .slice AX c.bytes.length kx, .bool c.cuts] 70)
  have hbox := heap_alloc_new w (.cells #[.int .i64 (c.area : Int), .int .i64 (c.pos : Int), .slice AX c.bytes.length kx, .bool c.cuts] 70)
  obtain ⟨wB, hwB⟩ : ∃ W, W = w.alloc (.cells #[.int .i64 (c.area : Int), .int .i64 (c.pos : Int), .slice AX c.bytes.length kx, .bool c.cuts] 70) := ⟨_, rfl⟩
  rw [← hwB] at D0 hbox
  have HB := Lib.hid D0
  have HBX := Lib.hid hbox
  have HWB := Lib.hid hwB
  have HSB : Hid (w.heap.size < wB.heap.size) := Lib.hid (by rw [hwB]; simp)
  have m4 : ∀ ob, (w.alloc ob).cell? ⟨g, 4, none⟩ = some (.slice (some ⟨b, o, none⟩) n cw) := fun ob => Keeps.of_below ((Below.refl w.heap.size w).alloc (Nat.le_refl _) ob) _ _ c4
  have r0 : w.cell? ⟨w0.heap.size, 0, none⟩ = some (.slice (A 0) (F 0).length (k 0)) := cell_of_row _ _ 0 _ _ _ hK.row
  have r1 : w.cell? ⟨w0.heap.size, 1, none⟩ = some (.slice (A 1) (F 1).length (k 1)) := cell_of_row _ _ 1 _ _ _ hK.row
  have r2 : w.cell? ⟨w0.heap.size, 2, none⟩ = some (.slice (A 2) (F 2).length (k 2)) := cell_of_row _ _ 2 _ _ _ hK.row
  have v0 : ∀ ob, (w.alloc ob).cell? ⟨w0.heap.size, 0, none⟩ = some (.slice (A 0) (F 0).length (k 0)) := fun ob => Keeps.of_below ((Below.refl w.heap.size w).alloc (Nat.le_refl _) ob) _ _ r0
  have v1 : ∀ ob, (w.alloc ob).cell? ⟨w0.heap.size, 1, none⟩ = some (.slice (A 1) (F 1).length (k 1)) := fun ob => Keeps.of_below ((Below.refl w.heap.size w).alloc (Nat.le_refl _) ob) _ _ r1
  have v2 : ∀ ob, (w.alloc ob).cell? ⟨w0.heap.size, 2, none⟩ = some (.slice (A 2) (F 2).length (k 2)) := fun ob => Keeps.of_below ((Below.refl w.heap.size w).alloc (Nat.le_refl _) ob) _ _ r2
  have HDn : Hid (∀ W, Below wB.heap.size wB W → Calls Tryd.prog 50 #[.agg #[.slice (A 0) (F 0).length (k 0), .slice (A 1) (F 1).length (k 1), .slice (A 2) (F 2).length (k 2)], .agg #[.int .i64 (c.area : Int), .int .i64 (c.pos : Int), .slice AX c.bytes.length kx, .bool c.cuts]] W fun e w' => ∃ A7 k7, e = .returned (.agg #[.slice (updF A c.area A7 0) (updB F c.area (doB (F c.area) c) 0).length (updF k c.area k7 0), .slice (updF A c.area A7 1) (updB F c.area (doB (F c.area) c) 1).length (updF k c.area k7 1), .slice (updF A c.area A7 2) (updB F c.area (doB (F c.area) c) 2).length (updF k c.area k7 2)]) ∧ OB w' W.heap.size (.slice A7 (doB (F c.area) c).length k7) (doB (F c.area) c) ∧ Below W.heap.size W w') := Lib.hid fun W hW => by
    have hrx : RB W AX c.bytes.length c.bytes := (HX.out.keep (Keeps.of_below D0)).keep (Keeps.of_below hW)
    have hd := Done_any A k F c AX kx W hca ((show OB w 0 (.slice (A c.area) (F c.area).length (k c.area)) (F c.area) from (hK.ob c.area hca).1).rbA.keep ((Keeps.of_below D0).trans (Keeps.of_below hW))) hFl hrx (by exact hcp)
    skip
    exact hd
  clear hQ hK kk0 g0 g1 g2 g3 g4 hx hxk D0 hbox hwB hFl 
  unfold IsKR at h0
  generalize slotR fr = f at *
  subst h0
  unfold KR
  rw [s0, s1, s2, s3, s8, s21, s22, s23]
  conv => arg 2; whnf
  clear s0 s1 s2 s3 s8 s21 s22 s23
  go_wp2_with (first
    | (go_at_call 50; go_loud (rw [← HWB.out]; (with_reducible refine (HDn.out wB (Below.refl _ _)).mono ?_); rintro e w7 ⟨A7, k7, rfl, ho7, hb7⟩; have O7 := Lib.hid ho7; have B7 : Hid (Below wB.heap.size wB w7) := Lib.hid hb7; have R7 := Lib.hid ((B7.out.block _ (Nat.lt_trans ((Array.getElem?_eq_some_iff.1 HK.out.row).1) HSB.out)).trans ((HB.out.block _ ((Array.getElem?_eq_some_iff.1 HK.out.row).1)).trans HK.out.row)); have y0 : w7.cell? ⟨w0.heap.size, 0, none⟩ = some (.slice (A 0) (F 0).length (k 0)) := cell_of_row _ _ 0 _ _ _ R7.out; have y1 : w7.cell? ⟨w0.heap.size, 1, none⟩ = some (.slice (A 1) (F 1).length (k 1)) := cell_of_row _ _ 1 _ _ _ R7.out; have y2 : w7.cell? ⟨w0.heap.size, 2, none⟩ = some (.slice (A 2) (F 2).length (k 2)) := cell_of_row _ _ 2 _ _ _ R7.out; have f0 : w7.frozen? ⟨w0.heap.size, 0, none⟩ = false := frozen_of_row _ _ _ _ _ R7.out; have f1 : w7.frozen? ⟨w0.heap.size, 1, none⟩ = false := frozen_of_row _ _ _ _ _ R7.out; have f2 : w7.frozen? ⟨w0.heap.size, 2, none⟩ = false := frozen_of_row _ _ _ _ _ R7.out; clear ho7 hb7))
    | fail)
  refine HQ.out _ _ ?_
  unfold RJ
  exact ⟨rfl, rfl, rfl, rfl, rfl, rfl, rfl, rfl, rfl, _, _, HK.out.step HB.out B7.out O7.out HSB.out rfl rfl rfl⟩

set_option maxHeartbeats 4000000 in
set_option maxRecDepth 100000 in
theorem rc_a1_3 {w0 : World} {O : Nat → Prop} {g : Nat} {F : Nat → List UInt8} (fr : Act) (w : World) (Q : Exit → Act → World → Prop) (kept s torn : Int) (b o n cw j : Nat) (c : DChg) (AX : Option Addr) (kx : Nat) (hJ : RJ w0 O g F kept s torn (.slice (some ⟨b, o, none⟩) n cw) n j fr w) (hj : j < n) (hn : n ≤ 1000) (_ : 0 ≤ s) (hca : c.area < 3) (hcp : c.pos + c.bytes.length ≤ 1048576) (hFl : (F c.area).length ≤ 1048576)
    (g0 : w0.cell? ⟨b, o + j * 4, none⟩ = some (.int .i64 (c.area : Int))) (g1 : w0.cell? ⟨b, o + j * 4 + 1, none⟩ = some (.int .i64 (c.pos : Int))) (g2 : w0.cell? ⟨b, o + j * 4 + 2, none⟩ = some (.slice AX c.bytes.length kx)) (g3 : w0.cell? ⟨b, o + j * 4 + 3, none⟩ = some (.bool c.cuts)) (g4 : w0.cell? ⟨g, 4, none⟩ = some (.slice (some ⟨b, o, none⟩) n cw)) (hx : RB w0 AX c.bytes.length c.bytes) (hxk : c.bytes.length ≤ kx)
    (hk : (n : Int) < kept) 
    (hQ : ∀ (fr' : Act) (w' : World), RJ w0 O g (updB F c.area (doB (F c.area) c)) kept s torn (.slice (some ⟨b, o, none⟩) n cw) n (j + 1) fr' w' → Q .normal fr' w') :
    Code.wp Tryd.prog (lpC Tryd.f34.body 0) Q fr w := by
  obtain ⟨h0, s0, s1, s2, s3, s8, s21, s22, s23, A, k, hK⟩ := hJ
  have HQ := Lib.hid hQ
  have HK := Lib.hid hK
  have kk0 := Keeps.of_below hK.bel
  have c0 := kk0 _ _ g0
  have c1 := kk0 _ _ g1
  have c2 := kk0 _ _ g2
  have c3 := kk0 _ _ g3
  have c4 := kk0 _ _ g4
  have HX := Lib.hid (hx.keep kk0)
  have HXK := Lib.hid hxk
  have j0 : (0 : Int) ≤ (j : Int) := by omega
  have j1 : (j : Int) < (n : Int) := by omega
  have n1 : (n : Int) ≤ 1000 := by omega
  have k1 : decide (kept < 0) = false := decide_eq_false (by omega)
  have k2 : decide ((n : Int) < kept) = true := decide_eq_true hk
  have qs : decide ((j : Int) < (n : Int)) = true := decide_eq_true (by omega)
  have qn : decide (j < n) = true := decide_eq_true hj
  have q1 : decide ((j : Int) - (n : Int) < 0) = true := decide_eq_true (by omega)
  have D0 := (Below.refl w.heap.size w).alloc (Nat.le_refl _) (.cells #[.int .i64 (c.area : Int), .int .i64 (c.pos : Int), .slice AX c.bytes.length kx, .bool c.cuts] 70)
  have hbox := heap_alloc_new w (.cells #[.int .i64 (c.area : Int), .int .i64 (c.pos : Int), .slice AX c.bytes.length kx, .bool c.cuts] 70)
  obtain ⟨wB, hwB⟩ : ∃ W, W = w.alloc (.cells #[.int .i64 (c.area : Int), .int .i64 (c.pos : Int), .slice AX c.bytes.length kx, .bool c.cuts] 70) := ⟨_, rfl⟩
  rw [← hwB] at D0 hbox
  have HB := Lib.hid D0
  have HBX := Lib.hid hbox
  have HWB := Lib.hid hwB
  have HSB : Hid (w.heap.size < wB.heap.size) := Lib.hid (by rw [hwB]; simp)
  have m4 : ∀ ob, (w.alloc ob).cell? ⟨g, 4, none⟩ = some (.slice (some ⟨b, o, none⟩) n cw) := fun ob => Keeps.of_below ((Below.refl w.heap.size w).alloc (Nat.le_refl _) ob) _ _ c4
  have r0 : w.cell? ⟨w0.heap.size, 0, none⟩ = some (.slice (A 0) (F 0).length (k 0)) := cell_of_row _ _ 0 _ _ _ hK.row
  have r1 : w.cell? ⟨w0.heap.size, 1, none⟩ = some (.slice (A 1) (F 1).length (k 1)) := cell_of_row _ _ 1 _ _ _ hK.row
  have r2 : w.cell? ⟨w0.heap.size, 2, none⟩ = some (.slice (A 2) (F 2).length (k 2)) := cell_of_row _ _ 2 _ _ _ hK.row
  have v0 : ∀ ob, (w.alloc ob).cell? ⟨w0.heap.size, 0, none⟩ = some (.slice (A 0) (F 0).length (k 0)) := fun ob => Keeps.of_below ((Below.refl w.heap.size w).alloc (Nat.le_refl _) ob) _ _ r0
  have v1 : ∀ ob, (w.alloc ob).cell? ⟨w0.heap.size, 1, none⟩ = some (.slice (A 1) (F 1).length (k 1)) := fun ob => Keeps.of_below ((Below.refl w.heap.size w).alloc (Nat.le_refl _) ob) _ _ r1
  have v2 : ∀ ob, (w.alloc ob).cell? ⟨w0.heap.size, 2, none⟩ = some (.slice (A 2) (F 2).length (k 2)) := fun ob => Keeps.of_below ((Below.refl w.heap.size w).alloc (Nat.le_refl _) ob) _ _ r2
  have HDn : Hid (∀ W, Below wB.heap.size wB W → Calls Tryd.prog 50 #[.agg #[.slice (A 0) (F 0).length (k 0), .slice (A 1) (F 1).length (k 1), .slice (A 2) (F 2).length (k 2)], .agg #[.int .i64 (c.area : Int), .int .i64 (c.pos : Int), .slice AX c.bytes.length kx, .bool c.cuts]] W fun e w' => ∃ A7 k7, e = .returned (.agg #[.slice (updF A c.area A7 0) (updB F c.area (doB (F c.area) c) 0).length (updF k c.area k7 0), .slice (updF A c.area A7 1) (updB F c.area (doB (F c.area) c) 1).length (updF k c.area k7 1), .slice (updF A c.area A7 2) (updB F c.area (doB (F c.area) c) 2).length (updF k c.area k7 2)]) ∧ OB w' W.heap.size (.slice A7 (doB (F c.area) c).length k7) (doB (F c.area) c) ∧ Below W.heap.size W w') := Lib.hid fun W hW => by
    have hrx : RB W AX c.bytes.length c.bytes := (HX.out.keep (Keeps.of_below D0)).keep (Keeps.of_below hW)
    have hd := Done_any A k F c AX kx W hca ((show OB w 0 (.slice (A c.area) (F c.area).length (k c.area)) (F c.area) from (hK.ob c.area hca).1).rbA.keep ((Keeps.of_below D0).trans (Keeps.of_below hW))) hFl hrx (by exact hcp)
    skip
    exact hd
  clear hQ hK kk0 g0 g1 g2 g3 g4 hx hxk D0 hbox hwB hFl 
  unfold IsKR at h0
  generalize slotR fr = f at *
  subst h0
  unfold KR
  rw [s0, s1, s2, s3, s8, s21, s22, s23]
  conv => arg 2; whnf
  clear s0 s1 s2 s3 s8 s21 s22 s23
  go_wp2_with (first
    | (go_at_call 50; go_loud (rw [← HWB.out]; (with_reducible refine (HDn.out wB (Below.refl _ _)).mono ?_); rintro e w7 ⟨A7, k7, rfl, ho7, hb7⟩; have O7 := Lib.hid ho7; have B7 : Hid (Below wB.heap.size wB w7) := Lib.hid hb7; have R7 := Lib.hid ((B7.out.block _ (Nat.lt_trans ((Array.getElem?_eq_some_iff.1 HK.out.row).1) HSB.out)).trans ((HB.out.block _ ((Array.getElem?_eq_some_iff.1 HK.out.row).1)).trans HK.out.row)); have y0 : w7.cell? ⟨w0.heap.size, 0, none⟩ = some (.slice (A 0) (F 0).length (k 0)) := cell_of_row _ _ 0 _ _ _ R7.out; have y1 : w7.cell? ⟨w0.heap.size, 1, none⟩ = some (.slice (A 1) (F 1).length (k 1)) := cell_of_row _ _ 1 _ _ _ R7.out; have y2 : w7.cell? ⟨w0.heap.size, 2, none⟩ = some (.slice (A 2) (F 2).length (k 2)) := cell_of_row _ _ 2 _ _ _ R7.out; have f0 : w7.frozen? ⟨w0.heap.size, 0, none⟩ = false := frozen_of_row _ _ _ _ _ R7.out; have f1 : w7.frozen? ⟨w0.heap.size, 1, none⟩ = false := frozen_of_row _ _ _ _ _ R7.out; have f2 : w7.frozen? ⟨w0.heap.size, 2, none⟩ = false := frozen_of_row _ _ _ _ _ R7.out; clear ho7 hb7))
    | fail)
  refine HQ.out _ _ ?_
  unfold RJ
  exact ⟨rfl, rfl, rfl, rfl, rfl, rfl, rfl, rfl, rfl, _, _, HK.out.step HB.out B7.out O7.out HSB.out rfl rfl rfl⟩

set_option maxHeartbeats 4000000 in
set_option maxRecDepth 100000 in
theorem rc_a2_1 {w0 : World} {O : Nat → Prop} {g : Nat} {F : Nat → List UInt8} (fr : Act) (w : World) (Q : Exit → Act → World → Prop) (kept s torn : Int) (b o n cw j kk : Nat) (c : DChg) (AX : Option Addr) (kx : Nat) (hJ : RJ w0 O g F kept s torn (.slice (some ⟨b, o, none⟩) n cw) n j fr w) (hj : j < n) (hn : n ≤ 1000) (hs0 : 0 ≤ s) (hca : c.area < 3) (hcp : c.pos + c.bytes.length ≤ 1048576) (hFl : (F c.area).length ≤ 1048576)
    (g0 : w0.cell? ⟨b, o + j * 4, none⟩ = some (.int .i64 (c.area : Int))) (g1 : w0.cell? ⟨b, o + j * 4 + 1, none⟩ = some (.int .i64 (c.pos : Int))) (g2 : w0.cell? ⟨b, o + j * 4 + 2, none⟩ = some (.slice AX c.bytes.length kx)) (g3 : w0.cell? ⟨b, o + j * 4 + 3, none⟩ = some (.bool c.cuts)) (g4 : w0.cell? ⟨g, 4, none⟩ = some (.slice (some ⟨b, o, none⟩) n cw)) (hx : RB w0 AX c.bytes.length c.bytes) (hxk : c.bytes.length ≤ kx)
    (hk : kept < 0) (hkk : j = kk) (hbit : bitAt s kk = true) (hk63 : kk < 63)
    (hQ : ∀ (fr' : Act) (w' : World), RJ w0 O g (updB F c.area (doB (F c.area) c)) kept s torn (.slice (some ⟨b, o, none⟩) n cw) n (j + 1) fr' w' → Q .normal fr' w') :
    Code.wp Tryd.prog (lpC Tryd.f34.body 0) Q fr w := by
  obtain ⟨h0, s0, s1, s2, s3, s8, s21, s22, s23, A, k, hK⟩ := hJ
  have HQ := Lib.hid hQ
  have HK := Lib.hid hK
  have kk0 := Keeps.of_below hK.bel
  have c0 := kk0 _ _ g0
  have c1 := kk0 _ _ g1
  have c2 := kk0 _ _ g2
  have c3 := kk0 _ _ g3
  have c4 := kk0 _ _ g4
  have HX := Lib.hid (hx.keep kk0)
  have HXK := Lib.hid hxk
  have j0 : (0 : Int) ≤ (j : Int) := by omega
  have j1 : (j : Int) < (n : Int) := by omega
  have n1 : (n : Int) ≤ 1000 := by omega
  subst hkk
  have k1 : decide (kept < 0) = true := decide_eq_true hk
  have k2 : decide ((n : Int) < 0) = false := decide_eq_false (by omega)
  have qw : IntKind.u64.wrap ((j : Int)) = (j : Int) := by rw [IntKind.wrap_u64]; omega
  have q1 : decide ((j : Int) < 0) = false := decide_eq_false (by omega)
  have q2 : decide ((j : Int) < 63) = true := decide_eq_true (by omega)
  have q2b : (0 : Int) ≤ (j : Int) := by omega
  have q2c : ((j : Int)) ≤ 62 := by omega
  have q3 : ((s / 2 ^ j).tmod 2 == 1) = true := (rem_bit hs0 j).1.trans hbit
  have q3b : (s / 2 ^ j % 2 == 1) = true := (rem_bit hs0 j).2.trans hbit
  have D0 := (Below.refl w.heap.size w).alloc (Nat.le_refl _) (.cells #[.int .i64 (c.area : Int), .int .i64 (c.pos : Int), .slice AX c.bytes.length kx, .bool c.cuts] 70)
  have hbox := heap_alloc_new w (.cells #[.int .i64 (c.area : Int), .int .i64 (c.pos : Int), .slice AX c.bytes.length kx, .bool c.cuts] 70)
  obtain ⟨wB, hwB⟩ : ∃ W, W = w.alloc (.cells #[.int .i64 (c.area : Int), .int .i64 (c.pos : Int), .slice AX c.bytes.length kx, .bool c.cuts] 70) := ⟨_, rfl⟩
  rw [← hwB] at D0 hbox
  have HB := Lib.hid D0
  have HBX := Lib.hid hbox
  have HWB := Lib.hid hwB
  have HSB : Hid (w.heap.size < wB.heap.size) := Lib.hid (by rw [hwB]; simp)
  have m4 : ∀ ob, (w.alloc ob).cell? ⟨g, 4, none⟩ = some (.slice (some ⟨b, o, none⟩) n cw) := fun ob => Keeps.of_below ((Below.refl w.heap.size w).alloc (Nat.le_refl _) ob) _ _ c4
  have r0 : w.cell? ⟨w0.heap.size, 0, none⟩ = some (.slice (A 0) (F 0).length (k 0)) := cell_of_row _ _ 0 _ _ _ hK.row
  have r1 : w.cell? ⟨w0.heap.size, 1, none⟩ = some (.slice (A 1) (F 1).length (k 1)) := cell_of_row _ _ 1 _ _ _ hK.row
  have r2 : w.cell? ⟨w0.heap.size, 2, none⟩ = some (.slice (A 2) (F 2).length (k 2)) := cell_of_row _ _ 2 _ _ _ hK.row
  have v0 : ∀ ob, (w.alloc ob).cell? ⟨w0.heap.size, 0, none⟩ = some (.slice (A 0) (F 0).length (k 0)) := fun ob => Keeps.of_below ((Below.refl w.heap.size w).alloc (Nat.le_refl _) ob) _ _ r0
  have v1 : ∀ ob, (w.alloc ob).cell? ⟨w0.heap.size, 1, none⟩ = some (.slice (A 1) (F 1).length (k 1)) := fun ob => Keeps.of_below ((Below.refl w.heap.size w).alloc (Nat.le_refl _) ob) _ _ r1
  have v2 : ∀ ob, (w.alloc ob).cell? ⟨w0.heap.size, 2, none⟩ = some (.slice (A 2) (F 2).length (k 2)) := fun ob => Keeps.of_below ((Below.refl w.heap.size w).alloc (Nat.le_refl _) ob) _ _ r2
  have HDn : Hid (∀ W, Below wB.heap.size wB W → Calls Tryd.prog 50 #[.agg #[.slice (A 0) (F 0).length (k 0), .slice (A 1) (F 1).length (k 1), .slice (A 2) (F 2).length (k 2)], .agg #[.int .i64 (c.area : Int), .int .i64 (c.pos : Int), .slice AX c.bytes.length kx, .bool c.cuts]] W fun e w' => ∃ A7 k7, e = .returned (.agg #[.slice (updF A c.area A7 0) (updB F c.area (doB (F c.area) c) 0).length (updF k c.area k7 0), .slice (updF A c.area A7 1) (updB F c.area (doB (F c.area) c) 1).length (updF k c.area k7 1), .slice (updF A c.area A7 2) (updB F c.area (doB (F c.area) c) 2).length (updF k c.area k7 2)]) ∧ OB w' W.heap.size (.slice A7 (doB (F c.area) c).length k7) (doB (F c.area) c) ∧ Below W.heap.size W w') := Lib.hid fun W hW => by
    have hrx : RB W AX c.bytes.length c.bytes := (HX.out.keep (Keeps.of_below D0)).keep (Keeps.of_below hW)
    have hd := Done_any A k F c AX kx W hca ((show OB w 0 (.slice (A c.area) (F c.area).length (k c.area)) (F c.area) from (hK.ob c.area hca).1).rbA.keep ((Keeps.of_below D0).trans (Keeps.of_below hW))) hFl hrx (by exact hcp)
    skip
    exact hd
  clear hQ hK kk0 g0 g1 g2 g3 g4 hx hxk D0 hbox hwB hFl hbit hk63
  unfold IsKR at h0
  generalize slotR fr = f at *
  subst h0
  unfold KR
  rw [s0, s1, s2, s3, s8, s21, s22, s23]
  conv => arg 2; whnf
  clear s0 s1 s2 s3 s8 s21 s22 s23
  go_wp2_with (first
    | (go_at_call 50; go_loud (rw [← HWB.out]; (with_reducible refine (HDn.out wB (Below.refl _ _)).mono ?_); rintro e w7 ⟨A7, k7, rfl, ho7, hb7⟩; have O7 := Lib.hid ho7; have B7 : Hid (Below wB.heap.size wB w7) := Lib.hid hb7; have R7 := Lib.hid ((B7.out.block _ (Nat.lt_trans ((Array.getElem?_eq_some_iff.1 HK.out.row).1) HSB.out)).trans ((HB.out.block _ ((Array.getElem?_eq_some_iff.1 HK.out.row).1)).trans HK.out.row)); have y0 : w7.cell? ⟨w0.heap.size, 0, none⟩ = some (.slice (A 0) (F 0).length (k 0)) := cell_of_row _ _ 0 _ _ _ R7.out; have y1 : w7.cell? ⟨w0.heap.size, 1, none⟩ = some (.slice (A 1) (F 1).length (k 1)) := cell_of_row _ _ 1 _ _ _ R7.out; have y2 : w7.cell? ⟨w0.heap.size, 2, none⟩ = some (.slice (A 2) (F 2).length (k 2)) := cell_of_row _ _ 2 _ _ _ R7.out; have f0 : w7.frozen? ⟨w0.heap.size, 0, none⟩ = false := frozen_of_row _ _ _ _ _ R7.out; have f1 : w7.frozen? ⟨w0.heap.size, 1, none⟩ = false := frozen_of_row _ _ _ _ _ R7.out; have f2 : w7.frozen? ⟨w0.heap.size, 2, none⟩ = false := frozen_of_row _ _ _ _ _ R7.out; clear ho7 hb7))
    | fail)
  refine HQ.out _ _ ?_
  unfold RJ
  exact ⟨rfl, rfl, rfl, rfl, rfl, rfl, rfl, rfl, rfl, _, _, HK.out.step HB.out B7.out O7.out HSB.out rfl rfl rfl⟩

set_option maxHeartbeats 4000000 in
set_option maxRecDepth 100000 in
theorem rc_c1_1 {w0 : World} {O : Nat → Prop} {g : Nat} {F : Nat → List UInt8} (fr : Act) (w : World) (Q : Exit → Act → World → Prop) (kept s torn : Int) (b o n cw j kk : Nat) (c : DChg) (AX : Option Addr) (kx : Nat) (hJ : RJ w0 O g F kept s torn (.slice (some ⟨b, o, none⟩) n cw) n j fr w) (hj : j < n) (hn : n ≤ 1000) (hs0 : 0 ≤ s) (_ : c.area < 3) (_ : c.pos + c.bytes.length ≤ 1048576) (_ : (F c.area).length ≤ 1048576)
    (g0 : w0.cell? ⟨b, o + j * 4, none⟩ = some (.int .i64 (c.area : Int))) (g1 : w0.cell? ⟨b, o + j * 4 + 1, none⟩ = some (.int .i64 (c.pos : Int))) (g2 : w0.cell? ⟨b, o + j * 4 + 2, none⟩ = some (.slice AX c.bytes.length kx)) (g3 : w0.cell? ⟨b, o + j * 4 + 3, none⟩ = some (.bool c.cuts)) (g4 : w0.cell? ⟨g, 4, none⟩ = some (.slice (some ⟨b, o, none⟩) n cw)) (hx : RB w0 AX c.bytes.length c.bytes) (hxk : c.bytes.length ≤ kx)
    (hk : kept < 0) (hkk : j = kk) (hbit : bitAt s kk = false) (hk63 : kk < 63) (hk0 : 0 < kk)
    (hQ : ∀ (fr' : Act) (w' : World), RJ w0 O g F kept s torn (.slice (some ⟨b, o, none⟩) n cw) n (j + 1) fr' w' → Q .normal fr' w') :
    Code.wp Tryd.prog (lpC Tryd.f34.body 0) Q fr w := by
  obtain ⟨h0, s0, s1, s2, s3, s8, s21, s22, s23, A, k, hK⟩ := hJ
  have HQ := Lib.hid hQ
  have HK := Lib.hid hK
  have kk0 := Keeps.of_below hK.bel
  have c0 := kk0 _ _ g0
  have c1 := kk0 _ _ g1
  have c2 := kk0 _ _ g2
  have c3 := kk0 _ _ g3
  have c4 := kk0 _ _ g4
  have HX := Lib.hid (hx.keep kk0)
  have HXK := Lib.hid hxk
  have j0 : (0 : Int) ≤ (j : Int) := by omega
  have j1 : (j : Int) < (n : Int) := by omega
  have n1 : (n : Int) ≤ 1000 := by omega
  subst hkk
  have k1 : decide (kept < 0) = true := decide_eq_true hk
  have k2 : decide ((n : Int) < 0) = false := decide_eq_false (by omega)
  have qw : IntKind.u64.wrap ((j : Int)) = (j : Int) := by rw [IntKind.wrap_u64]; omega
  have q1 : decide ((j : Int) < 0) = false := decide_eq_false (by omega)
  have q2 : decide ((j : Int) < 63) = true := decide_eq_true (by omega)
  have q2b : (0 : Int) ≤ (j : Int) := by omega
  have q2c : ((j : Int)) ≤ 62 := by omega
  have q3 : ((s / 2 ^ j).tmod 2 == 1) = false := (rem_bit hs0 j).1.trans hbit
  have q3b : (s / 2 ^ j % 2 == 1) = false := (rem_bit hs0 j).2.trans hbit
  have q4 : ((j : Int) == 0) = false := beq_eq_false_iff_ne.2 (by omega)
  have D0 := (Below.refl w.heap.size w).alloc (Nat.le_refl _) (.cells #[.int .i64 (c.area : Int), .int .i64 (c.pos : Int), .slice AX c.bytes.length kx, .bool c.cuts] 70)
  have hbox := heap_alloc_new w (.cells #[.int .i64 (c.area : Int), .int .i64 (c.pos : Int), .slice AX c.bytes.length kx, .bool c.cuts] 70)
  obtain ⟨wB, hwB⟩ : ∃ W, W = w.alloc (.cells #[.int .i64 (c.area : Int), .int .i64 (c.pos : Int), .slice AX c.bytes.length kx, .bool c.cuts] 70) := ⟨_, rfl⟩
  rw [← hwB] at D0 hbox
  have HB := Lib.hid D0
  have HBX := Lib.hid hbox
  have HWB := Lib.hid hwB
  have HSB : Hid (w.heap.size < wB.heap.size) := Lib.hid (by rw [hwB]; simp)
  have m4 : ∀ ob, (w.alloc ob).cell? ⟨g, 4, none⟩ = some (.slice (some ⟨b, o, none⟩) n cw) := fun ob => Keeps.of_below ((Below.refl w.heap.size w).alloc (Nat.le_refl _) ob) _ _ c4
  have r0 : w.cell? ⟨w0.heap.size, 0, none⟩ = some (.slice (A 0) (F 0).length (k 0)) := cell_of_row _ _ 0 _ _ _ hK.row
  have r1 : w.cell? ⟨w0.heap.size, 1, none⟩ = some (.slice (A 1) (F 1).length (k 1)) := cell_of_row _ _ 1 _ _ _ hK.row
  have r2 : w.cell? ⟨w0.heap.size, 2, none⟩ = some (.slice (A 2) (F 2).length (k 2)) := cell_of_row _ _ 2 _ _ _ hK.row
  have v0 : ∀ ob, (w.alloc ob).cell? ⟨w0.heap.size, 0, none⟩ = some (.slice (A 0) (F 0).length (k 0)) := fun ob => Keeps.of_below ((Below.refl w.heap.size w).alloc (Nat.le_refl _) ob) _ _ r0
  have v1 : ∀ ob, (w.alloc ob).cell? ⟨w0.heap.size, 1, none⟩ = some (.slice (A 1) (F 1).length (k 1)) := fun ob => Keeps.of_below ((Below.refl w.heap.size w).alloc (Nat.le_refl _) ob) _ _ r1
  have v2 : ∀ ob, (w.alloc ob).cell? ⟨w0.heap.size, 2, none⟩ = some (.slice (A 2) (F 2).length (k 2)) := fun ob => Keeps.of_below ((Below.refl w.heap.size w).alloc (Nat.le_refl _) ob) _ _ r2
  clear hQ hK kk0 g0 g1 g2 g3 g4 hx hxk D0 hbox hwB  hbit hk63 hk0
  unfold IsKR at h0
  generalize slotR fr = f at *
  subst h0
  unfold KR
  rw [s0, s1, s2, s3, s8, s21, s22, s23]
  conv => arg 2; whnf
  clear s0 s1 s2 s3 s8 s21 s22 s23
  go_wp2
  refine HQ.out _ _ ?_
  unfold RJ
  exact ⟨rfl, rfl, rfl, rfl, rfl, rfl, rfl, rfl, rfl, A, k, HK.out.below (by have := HB.out; rw [HWB.out] at this; exact this)⟩

set_option maxHeartbeats 4000000 in
set_option maxRecDepth 100000 in
theorem rc_c2_1 {w0 : World} {O : Nat → Prop} {g : Nat} {F : Nat → List UInt8} (fr : Act) (w : World) (Q : Exit → Act → World → Prop) (kept s torn : Int) (b o n cw j kk : Nat) (c : DChg) (AX : Option Addr) (kx : Nat) (hJ : RJ w0 O g F kept s torn (.slice (some ⟨b, o, none⟩) n cw) n j fr w) (hj : j < n) (hn : n ≤ 1000) (_ : 0 ≤ s) (_ : c.area < 3) (_ : c.pos + c.bytes.length ≤ 1048576) (_ : (F c.area).length ≤ 1048576)
    (g0 : w0.cell? ⟨b, o + j * 4, none⟩ = some (.int .i64 (c.area : Int))) (g1 : w0.cell? ⟨b, o + j * 4 + 1, none⟩ = some (.int .i64 (c.pos : Int))) (g2 : w0.cell? ⟨b, o + j * 4 + 2, none⟩ = some (.slice AX c.bytes.length kx)) (g3 : w0.cell? ⟨b, o + j * 4 + 3, none⟩ = some (.bool c.cuts)) (g4 : w0.cell? ⟨g, 4, none⟩ = some (.slice (some ⟨b, o, none⟩) n cw)) (hx : RB w0 AX c.bytes.length c.bytes) (hxk : c.bytes.length ≤ kx)
    (hk : kept < 0) (hkk : j = kk) (hk63 : 63 ≤ kk)
    (hQ : ∀ (fr' : Act) (w' : World), RJ w0 O g F kept s torn (.slice (some ⟨b, o, none⟩) n cw) n (j + 1) fr' w' → Q .normal fr' w') :
    Code.wp Tryd.prog (lpC Tryd.f34.body 0) Q fr w := by
  obtain ⟨h0, s0, s1, s2, s3, s8, s21, s22, s23, A, k, hK⟩ := hJ
  have HQ := Lib.hid hQ
  have HK := Lib.hid hK
  have kk0 := Keeps.of_below hK.bel
  have c0 := kk0 _ _ g0
  have c1 := kk0 _ _ g1
  have c2 := kk0 _ _ g2
  have c3 := kk0 _ _ g3
  have c4 := kk0 _ _ g4
  have HX := Lib.hid (hx.keep kk0)
  have HXK := Lib.hid hxk
  have j0 : (0 : Int) ≤ (j : Int) := by omega
  have j1 : (j : Int) < (n : Int) := by omega
  have n1 : (n : Int) ≤ 1000 := by omega
  subst hkk
  have k1 : decide (kept < 0) = true := decide_eq_true hk
  have k2 : decide ((n : Int) < 0) = false := decide_eq_false (by omega)
  have q1 : decide ((j : Int) < 0) = false := decide_eq_false (by omega)
  have q2 : decide ((j : Int) < 63) = false := decide_eq_false (by omega)
  have q4 : ((j : Int) == 0) = false := beq_eq_false_iff_ne.2 (by omega)
  have D0 := (Below.refl w.heap.size w).alloc (Nat.le_refl _) (.cells #[.int .i64 (c.area : Int), .int .i64 (c.pos : Int), .slice AX c.bytes.length kx, .bool c.cuts] 70)
  have hbox := heap_alloc_new w (.cells #[.int .i64 (c.area : Int), .int .i64 (c.pos : Int), .slice AX c.bytes.length kx, .bool c.cuts] 70)
  obtain ⟨wB, hwB⟩ : ∃ W, W = w.alloc (.cells #[.int .i64 (c.area : Int), .int .i64 (c.pos : Int), .slice AX c.bytes.length kx, .bool c.cuts] 70) := ⟨_, rfl⟩
  rw [← hwB] at D0 hbox
  have HB := Lib.hid D0
  have HBX := Lib.hid hbox
  have HWB := Lib.hid hwB
  have HSB : Hid (w.heap.size < wB.heap.size) := Lib.hid (by rw [hwB]; simp)
  have m4 : ∀ ob, (w.alloc ob).cell? ⟨g, 4, none⟩ = some (.slice (some ⟨b, o, none⟩) n cw) := fun ob => Keeps.of_below ((Below.refl w.heap.size w).alloc (Nat.le_refl _) ob) _ _ c4
  have r0 : w.cell? ⟨w0.heap.size, 0, none⟩ = some (.slice (A 0) (F 0).length (k 0)) := cell_of_row _ _ 0 _ _ _ hK.row
  have r1 : w.cell? ⟨w0.heap.size, 1, none⟩ = some (.slice (A 1) (F 1).length (k 1)) := cell_of_row _ _ 1 _ _ _ hK.row
  have r2 : w.cell? ⟨w0.heap.size, 2, none⟩ = some (.slice (A 2) (F 2).length (k 2)) := cell_of_row _ _ 2 _ _ _ hK.row
  have v0 : ∀ ob, (w.alloc ob).cell? ⟨w0.heap.size, 0, none⟩ = some (.slice (A 0) (F 0).length (k 0)) := fun ob => Keeps.of_below ((Below.refl w.heap.size w).alloc (Nat.le_refl _) ob) _ _ r0
  have v1 : ∀ ob, (w.alloc ob).cell? ⟨w0.heap.size, 1, none⟩ = some (.slice (A 1) (F 1).length (k 1)) := fun ob => Keeps.of_below ((Below.refl w.heap.size w).alloc (Nat.le_refl _) ob) _ _ r1
  have v2 : ∀ ob, (w.alloc ob).cell? ⟨w0.heap.size, 2, none⟩ = some (.slice (A 2) (F 2).length (k 2)) := fun ob => Keeps.of_below ((Below.refl w.heap.size w).alloc (Nat.le_refl _) ob) _ _ r2
  clear hQ hK kk0 g0 g1 g2 g3 g4 hx hxk D0 hbox hwB  hk63
  unfold IsKR at h0
  generalize slotR fr = f at *
  subst h0
  unfold KR
  rw [s0, s1, s2, s3, s8, s21, s22, s23]
  conv => arg 2; whnf
  clear s0 s1 s2 s3 s8 s21 s22 s23
  go_wp2
  refine HQ.out _ _ ?_
  unfold RJ
  exact ⟨rfl, rfl, rfl, rfl, rfl, rfl, rfl, rfl, rfl, A, k, HK.out.below (by have := HB.out; rw [HWB.out] at this; exact this)⟩

set_option maxHeartbeats 4000000 in
set_option maxRecDepth 100000 in
theorem rc_c3_1 {w0 : World} {O : Nat → Prop} {g : Nat} {F : Nat → List UInt8} (fr : Act) (w : World) (Q : Exit → Act → World → Prop) (kept s torn : Int) (b o n cw j kk : Nat) (c : DChg) (AX : Option Addr) (kx : Nat) (hJ : RJ w0 O g F kept s torn (.slice (some ⟨b, o, none⟩) n cw) n j fr w) (hj : j < n) (hn : n ≤ 1000) (hs0 : 0 ≤ s) (_ : c.area < 3) (_ : c.pos + c.bytes.length ≤ 1048576) (_ : (F c.area).length ≤ 1048576)
    (g0 : w0.cell? ⟨b, o + j * 4, none⟩ = some (.int .i64 (c.area : Int))) (g1 : w0.cell? ⟨b, o + j * 4 + 1, none⟩ = some (.int .i64 (c.pos : Int))) (g2 : w0.cell? ⟨b, o + j * 4 + 2, none⟩ = some (.slice AX c.bytes.length kx)) (g3 : w0.cell? ⟨b, o + j * 4 + 3, none⟩ = some (.bool c.cuts)) (g4 : w0.cell? ⟨g, 4, none⟩ = some (.slice (some ⟨b, o, none⟩) n cw)) (hx : RB w0 AX c.bytes.length c.bytes) (hxk : c.bytes.length ≤ kx)
    (hk : kept < 0) (hkk : j = kk) (hbit : bitAt s kk = false) (hk0 : kk = 0) (hcut : c.cuts = true)
    (hQ : ∀ (fr' : Act) (w' : World), RJ w0 O g F kept s torn (.slice (some ⟨b, o, none⟩) n cw) n (j + 1) fr' w' → Q .normal fr' w') :
    Code.wp Tryd.prog (lpC Tryd.f34.body 0) Q fr w := by
  obtain ⟨h0, s0, s1, s2, s3, s8, s21, s22, s23, A, k, hK⟩ := hJ
  have HQ := Lib.hid hQ
  have HK := Lib.hid hK
  have kk0 := Keeps.of_below hK.bel
  have c0 := kk0 _ _ g0
  have c1 := kk0 _ _ g1
  have c2 := kk0 _ _ g2
  have c3 := kk0 _ _ g3
  have c4 := kk0 _ _ g4
  have HX := Lib.hid (hx.keep kk0)
  have HXK := Lib.hid hxk
  have j0 : (0 : Int) ≤ (j : Int) := by omega
  have j1 : (j : Int) < (n : Int) := by omega
  have n1 : (n : Int) ≤ 1000 := by omega
  subst hkk
  have k1 : decide (kept < 0) = true := decide_eq_true hk
  have k2 : decide ((n : Int) < 0) = false := decide_eq_false (by omega)
  have qw : IntKind.u64.wrap ((j : Int)) = (j : Int) := by rw [IntKind.wrap_u64]; omega
  have q1 : decide ((j : Int) < 0) = false := decide_eq_false (by omega)
  have q2 : decide ((j : Int) < 63) = true := decide_eq_true (by omega)
  have q2b : (0 : Int) ≤ (j : Int) := by omega
  have q2c : ((j : Int)) ≤ 62 := by omega
  have q3 : ((s / 2 ^ j).tmod 2 == 1) = false := (rem_bit hs0 j).1.trans hbit
  have q3b : (s / 2 ^ j % 2 == 1) = false := (rem_bit hs0 j).2.trans hbit
  have q4 : ((j : Int) == 0) = true := by rw [beq_iff_eq]; omega
  rw [hcut] at c3 g3
  have D0 := (Below.refl w.heap.size w).alloc (Nat.le_refl _) (.cells #[.int .i64 (c.area : Int), .int .i64 (c.pos : Int), .slice AX c.bytes.length kx, .bool true] 70)
  have hbox := heap_alloc_new w (.cells #[.int .i64 (c.area : Int), .int .i64 (c.pos : Int), .slice AX c.bytes.length kx, .bool true] 70)
  obtain ⟨wB, hwB⟩ : ∃ W, W = w.alloc (.cells #[.int .i64 (c.area : Int), .int .i64 (c.pos : Int), .slice AX c.bytes.length kx, .bool true] 70) := ⟨_, rfl⟩
  rw [← hwB] at D0 hbox
  have HB := Lib.hid D0
  have HBX := Lib.hid hbox
  have HWB := Lib.hid hwB
  have HSB : Hid (w.heap.size < wB.heap.size) := Lib.hid (by rw [hwB]; simp)
  have m4 : ∀ ob, (w.alloc ob).cell? ⟨g, 4, none⟩ = some (.slice (some ⟨b, o, none⟩) n cw) := fun ob => Keeps.of_below ((Below.refl w.heap.size w).alloc (Nat.le_refl _) ob) _ _ c4
  have r0 : w.cell? ⟨w0.heap.size, 0, none⟩ = some (.slice (A 0) (F 0).length (k 0)) := cell_of_row _ _ 0 _ _ _ hK.row
  have r1 : w.cell? ⟨w0.heap.size, 1, none⟩ = some (.slice (A 1) (F 1).length (k 1)) := cell_of_row _ _ 1 _ _ _ hK.row
  have r2 : w.cell? ⟨w0.heap.size, 2, none⟩ = some (.slice (A 2) (F 2).length (k 2)) := cell_of_row _ _ 2 _ _ _ hK.row
  have v0 : ∀ ob, (w.alloc ob).cell? ⟨w0.heap.size, 0, none⟩ = some (.slice (A 0) (F 0).length (k 0)) := fun ob => Keeps.of_below ((Below.refl w.heap.size w).alloc (Nat.le_refl _) ob) _ _ r0
  have v1 : ∀ ob, (w.alloc ob).cell? ⟨w0.heap.size, 1, none⟩ = some (.slice (A 1) (F 1).length (k 1)) := fun ob => Keeps.of_below ((Below.refl w.heap.size w).alloc (Nat.le_refl _) ob) _ _ r1
  have v2 : ∀ ob, (w.alloc ob).cell? ⟨w0.heap.size, 2, none⟩ = some (.slice (A 2) (F 2).length (k 2)) := fun ob => Keeps.of_below ((Below.refl w.heap.size w).alloc (Nat.le_refl _) ob) _ _ r2
  clear hQ hK kk0 g0 g1 g2 g3 g4 hx hxk D0 hbox hwB  hbit hk0 hcut
  unfold IsKR at h0
  generalize slotR fr = f at *
  subst h0
  unfold KR
  rw [s0, s1, s2, s3, s8, s21, s22, s23]
  conv => arg 2; whnf
  clear s0 s1 s2 s3 s8 s21 s22 s23
  go_wp2
  refine HQ.out _ _ ?_
  unfold RJ
  exact ⟨rfl, rfl, rfl, rfl, rfl, rfl, rfl, rfl, rfl, A, k, HK.out.below (by have := HB.out; rw [HWB.out] at this; exact this)⟩

set_option maxHeartbeats 4000000 in
set_option maxRecDepth 100000 in
theorem rc_c4_1 {w0 : World} {O : Nat → Prop} {g : Nat} {F : Nat → List UInt8} (fr : Act) (w : World) (Q : Exit → Act → World → Prop) (kept s torn : Int) (b o n cw j kk : Nat) (c : DChg) (AX : Option Addr) (kx : Nat) (hJ : RJ w0 O g F kept s torn (.slice (some ⟨b, o, none⟩) n cw) n j fr w) (hj : j < n) (hn : n ≤ 1000) (hs0 : 0 ≤ s) (_ : c.area < 3) (_ : c.pos + c.bytes.length ≤ 1048576) (_ : (F c.area).length ≤ 1048576)
    (g0 : w0.cell? ⟨b, o + j * 4, none⟩ = some (.int .i64 (c.area : Int))) (g1 : w0.cell? ⟨b, o + j * 4 + 1, none⟩ = some (.int .i64 (c.pos : Int))) (g2 : w0.cell? ⟨b, o + j * 4 + 2, none⟩ = some (.slice AX c.bytes.length kx)) (g3 : w0.cell? ⟨b, o + j * 4 + 3, none⟩ = some (.bool c.cuts)) (g4 : w0.cell? ⟨g, 4, none⟩ = some (.slice (some ⟨b, o, none⟩) n cw)) (hx : RB w0 AX c.bytes.length c.bytes) (hxk : c.bytes.length ≤ kx)
    (hk : kept < 0) (hkk : j = kk) (hbit : bitAt s kk = false) (hk0 : kk = 0) (hcut : c.cuts = false) (ht : torn ≤ 0)
    (hQ : ∀ (fr' : Act) (w' : World), RJ w0 O g F kept s torn (.slice (some ⟨b, o, none⟩) n cw) n (j + 1) fr' w' → Q .normal fr' w') :
    Code.wp Tryd.prog (lpC Tryd.f34.body 0) Q fr w := by
  obtain ⟨h0, s0, s1, s2, s3, s8, s21, s22, s23, A, k, hK⟩ := hJ
  have HQ := Lib.hid hQ
  have HK := Lib.hid hK
  have kk0 := Keeps.of_below hK.bel
  have c0 := kk0 _ _ g0
  have c1 := kk0 _ _ g1
  have c2 := kk0 _ _ g2
  have c3 := kk0 _ _ g3
  have c4 := kk0 _ _ g4
  have HX := Lib.hid (hx.keep kk0)
  have HXK := Lib.hid hxk
  have j0 : (0 : Int) ≤ (j : Int) := by omega
  have j1 : (j : Int) < (n : Int) := by omega
  have n1 : (n : Int) ≤ 1000 := by omega
  subst hkk
  have k1 : decide (kept < 0) = true := decide_eq_true hk
  have k2 : decide ((n : Int) < 0) = false := decide_eq_false (by omega)
  have qw : IntKind.u64.wrap ((j : Int)) = (j : Int) := by rw [IntKind.wrap_u64]; omega
  have q1 : decide ((j : Int) < 0) = false := decide_eq_false (by omega)
  have q2 : decide ((j : Int) < 63) = true := decide_eq_true (by omega)
  have q2b : (0 : Int) ≤ (j : Int) := by omega
  have q2c : ((j : Int)) ≤ 62 := by omega
  have q3 : ((s / 2 ^ j).tmod 2 == 1) = false := (rem_bit hs0 j).1.trans hbit
  have q3b : (s / 2 ^ j % 2 == 1) = false := (rem_bit hs0 j).2.trans hbit
  have q4 : ((j : Int) == 0) = true := by rw [beq_iff_eq]; omega
  have qt : decide (0 < torn) = false := decide_eq_false (by omega)
  rw [hcut] at c3 g3
  have D0 := (Below.refl w.heap.size w).alloc (Nat.le_refl _) (.cells #[.int .i64 (c.area : Int), .int .i64 (c.pos : Int), .slice AX c.bytes.length kx, .bool false] 70)
  have hbox := heap_alloc_new w (.cells #[.int .i64 (c.area : Int), .int .i64 (c.pos : Int), .slice AX c.bytes.length kx, .bool false] 70)
  obtain ⟨wB, hwB⟩ : ∃ W, W = w.alloc (.cells #[.int .i64 (c.area : Int), .int .i64 (c.pos : Int), .slice AX c.bytes.length kx, .bool false] 70) := ⟨_, rfl⟩
  rw [← hwB] at D0 hbox
  have HB := Lib.hid D0
  have HBX := Lib.hid hbox
  have HWB := Lib.hid hwB
  have HSB : Hid (w.heap.size < wB.heap.size) := Lib.hid (by rw [hwB]; simp)
  have m4 : ∀ ob, (w.alloc ob).cell? ⟨g, 4, none⟩ = some (.slice (some ⟨b, o, none⟩) n cw) := fun ob => Keeps.of_below ((Below.refl w.heap.size w).alloc (Nat.le_refl _) ob) _ _ c4
  have r0 : w.cell? ⟨w0.heap.size, 0, none⟩ = some (.slice (A 0) (F 0).length (k 0)) := cell_of_row _ _ 0 _ _ _ hK.row
  have r1 : w.cell? ⟨w0.heap.size, 1, none⟩ = some (.slice (A 1) (F 1).length (k 1)) := cell_of_row _ _ 1 _ _ _ hK.row
  have r2 : w.cell? ⟨w0.heap.size, 2, none⟩ = some (.slice (A 2) (F 2).length (k 2)) := cell_of_row _ _ 2 _ _ _ hK.row
  have v0 : ∀ ob, (w.alloc ob).cell? ⟨w0.heap.size, 0, none⟩ = some (.slice (A 0) (F 0).length (k 0)) := fun ob => Keeps.of_below ((Below.refl w.heap.size w).alloc (Nat.le_refl _) ob) _ _ r0
  have v1 : ∀ ob, (w.alloc ob).cell? ⟨w0.heap.size, 1, none⟩ = some (.slice (A 1) (F 1).length (k 1)) := fun ob => Keeps.of_below ((Below.refl w.heap.size w).alloc (Nat.le_refl _) ob) _ _ r1
  have v2 : ∀ ob, (w.alloc ob).cell? ⟨w0.heap.size, 2, none⟩ = some (.slice (A 2) (F 2).length (k 2)) := fun ob => Keeps.of_below ((Below.refl w.heap.size w).alloc (Nat.le_refl _) ob) _ _ r2
  clear hQ hK kk0 g0 g1 g2 g3 g4 hx hxk D0 hbox hwB  hbit hk0 hcut ht
  unfold IsKR at h0
  generalize slotR fr = f at *
  subst h0
  unfold KR
  rw [s0, s1, s2, s3, s8, s21, s22, s23]
  conv => arg 2; whnf
  clear s0 s1 s2 s3 s8 s21 s22 s23
  go_wp2
  refine HQ.out _ _ ?_
  unfold RJ
  exact ⟨rfl, rfl, rfl, rfl, rfl, rfl, rfl, rfl, rfl, A, k, HK.out.below (by have := HB.out; rw [HWB.out] at this; exact this)⟩

set_option maxHeartbeats 4000000 in
set_option maxRecDepth 100000 in
theorem rc_c5_1 {w0 : World} {O : Nat → Prop} {g : Nat} {F : Nat → List UInt8} (fr : Act) (w : World) (Q : Exit → Act → World → Prop) (kept s torn : Int) (b o n cw j kk : Nat) (c : DChg) (AX : Option Addr) (kx : Nat) (hJ : RJ w0 O g F kept s torn (.slice (some ⟨b, o, none⟩) n cw) n j fr w) (hj : j < n) (hn : n ≤ 1000) (hs0 : 0 ≤ s) (_ : c.area < 3) (_ : c.pos + c.bytes.length ≤ 1048576) (_ : (F c.area).length ≤ 1048576)
    (g0 : w0.cell? ⟨b, o + j * 4, none⟩ = some (.int .i64 (c.area : Int))) (g1 : w0.cell? ⟨b, o + j * 4 + 1, none⟩ = some (.int .i64 (c.pos : Int))) (g2 : w0.cell? ⟨b, o + j * 4 + 2, none⟩ = some (.slice AX c.bytes.length kx)) (g3 : w0.cell? ⟨b, o + j * 4 + 3, none⟩ = some (.bool c.cuts)) (g4 : w0.cell? ⟨g, 4, none⟩ = some (.slice (some ⟨b, o, none⟩) n cw)) (hx : RB w0 AX c.bytes.length c.bytes) (hxk : c.bytes.length ≤ kx)
    (hk : kept < 0) (hkk : j = kk) (hbit : bitAt s kk = false) (hk0 : kk = 0) (hcut : c.cuts = false) (ht : 0 < torn) (hz : c.bytes = [])
    (hQ : ∀ (fr' : Act) (w' : World), RJ w0 O g F kept s torn (.slice (some ⟨b, o, none⟩) n cw) n (j + 1) fr' w' → Q .normal fr' w') :
    Code.wp Tryd.prog (lpC Tryd.f34.body 0) Q fr w := by
  obtain ⟨h0, s0, s1, s2, s3, s8, s21, s22, s23, A, k, hK⟩ := hJ
  have HQ := Lib.hid hQ
  have HK := Lib.hid hK
  have kk0 := Keeps.of_below hK.bel
  have c0 := kk0 _ _ g0
  have c1 := kk0 _ _ g1
  have c2 := kk0 _ _ g2
  have c3 := kk0 _ _ g3
  have c4 := kk0 _ _ g4
  have HX := Lib.hid (hx.keep kk0)
  have HXK := Lib.hid hxk
  have j0 : (0 : Int) ≤ (j : Int) := by omega
  have j1 : (j : Int) < (n : Int) := by omega
  have n1 : (n : Int) ≤ 1000 := by omega
  subst hkk
  have k1 : decide (kept < 0) = true := decide_eq_true hk
  have k2 : decide ((n : Int) < 0) = false := decide_eq_false (by omega)
  have qw : IntKind.u64.wrap ((j : Int)) = (j : Int) := by rw [IntKind.wrap_u64]; omega
  have q1 : decide ((j : Int) < 0) = false := decide_eq_false (by omega)
  have q2 : decide ((j : Int) < 63) = true := decide_eq_true (by omega)
  have q2b : (0 : Int) ≤ (j : Int) := by omega
  have q2c : ((j : Int)) ≤ 62 := by omega
  have q3 : ((s / 2 ^ j).tmod 2 == 1) = false := (rem_bit hs0 j).1.trans hbit
  have q3b : (s / 2 ^ j % 2 == 1) = false := (rem_bit hs0 j).2.trans hbit
  have q4 : ((j : Int) == 0) = true := by rw [beq_iff_eq]; omega
  have qt : decide (0 < torn) = true := decide_eq_true (by omega)
  rw [hcut] at c3 g3
  rw [hz] at c2 g2
  have D0 := (Below.refl w.heap.size w).alloc (Nat.le_refl _) (.cells #[.int .i64 (c.area : Int), .int .i64 (c.pos : Int), .slice AX ([] : List UInt8).length kx, .bool false] 70)
  have hbox := heap_alloc_new w (.cells #[.int .i64 (c.area : Int), .int .i64 (c.pos : Int), .slice AX ([] : List UInt8).length kx, .bool false] 70)
  obtain ⟨wB, hwB⟩ : ∃ W, W = w.alloc (.cells #[.int .i64 (c.area : Int), .int .i64 (c.pos : Int), .slice AX ([] : List UInt8).length kx, .bool false] 70) := ⟨_, rfl⟩
  rw [← hwB] at D0 hbox
  have HB := Lib.hid D0
  have HBX := Lib.hid hbox
  have HWB := Lib.hid hwB
  have HSB : Hid (w.heap.size < wB.heap.size) := Lib.hid (by rw [hwB]; simp)
  have m4 : ∀ ob, (w.alloc ob).cell? ⟨g, 4, none⟩ = some (.slice (some ⟨b, o, none⟩) n cw) := fun ob => Keeps.of_below ((Below.refl w.heap.size w).alloc (Nat.le_refl _) ob) _ _ c4
  have r0 : w.cell? ⟨w0.heap.size, 0, none⟩ = some (.slice (A 0) (F 0).length (k 0)) := cell_of_row _ _ 0 _ _ _ hK.row
  have r1 : w.cell? ⟨w0.heap.size, 1, none⟩ = some (.slice (A 1) (F 1).length (k 1)) := cell_of_row _ _ 1 _ _ _ hK.row
  have r2 : w.cell? ⟨w0.heap.size, 2, none⟩ = some (.slice (A 2) (F 2).length (k 2)) := cell_of_row _ _ 2 _ _ _ hK.row
  have v0 : ∀ ob, (w.alloc ob).cell? ⟨w0.heap.size, 0, none⟩ = some (.slice (A 0) (F 0).length (k 0)) := fun ob => Keeps.of_below ((Below.refl w.heap.size w).alloc (Nat.le_refl _) ob) _ _ r0
  have v1 : ∀ ob, (w.alloc ob).cell? ⟨w0.heap.size, 1, none⟩ = some (.slice (A 1) (F 1).length (k 1)) := fun ob => Keeps.of_below ((Below.refl w.heap.size w).alloc (Nat.le_refl _) ob) _ _ r1
  have v2 : ∀ ob, (w.alloc ob).cell? ⟨w0.heap.size, 2, none⟩ = some (.slice (A 2) (F 2).length (k 2)) := fun ob => Keeps.of_below ((Below.refl w.heap.size w).alloc (Nat.le_refl _) ob) _ _ r2
  clear hQ hK kk0 g0 g1 g2 g3 g4 hx hxk D0 hbox hwB  hbit hk0 hcut ht hz
  unfold IsKR at h0
  generalize slotR fr = f at *
  subst h0
  unfold KR
  rw [s0, s1, s2, s3, s8, s21, s22, s23]
  conv => arg 2; whnf
  clear s0 s1 s2 s3 s8 s21 s22 s23
  go_wp2
  refine HQ.out _ _ ?_
  unfold RJ
  exact ⟨rfl, rfl, rfl, rfl, rfl, rfl, rfl, rfl, rfl, A, k, HK.out.below (by have := HB.out; rw [HWB.out] at this; exact this)⟩

set_option maxHeartbeats 4000000 in
set_option maxRecDepth 100000 in
theorem rc_a2_2 {w0 : World} {O : Nat → Prop} {g : Nat} {F : Nat → List UInt8} (fr : Act) (w : World) (Q : Exit → Act → World → Prop) (kept s torn : Int) (b o n cw j kk : Nat) (c : DChg) (AX : Option Addr) (kx : Nat) (hJ : RJ w0 O g F kept s torn (.slice (some ⟨b, o, none⟩) n cw) n j fr w) (hj : j < n) (hn : n ≤ 1000) (hs0 : 0 ≤ s) (hca : c.area < 3) (hcp : c.pos + c.bytes.length ≤ 1048576) (hFl : (F c.area).length ≤ 1048576)
    (g0 : w0.cell? ⟨b, o + j * 4, none⟩ = some (.int .i64 (c.area : Int))) (g1 : w0.cell? ⟨b, o + j * 4 + 1, none⟩ = some (.int .i64 (c.pos : Int))) (g2 : w0.cell? ⟨b, o + j * 4 + 2, none⟩ = some (.slice AX c.bytes.length kx)) (g3 : w0.cell? ⟨b, o + j * 4 + 3, none⟩ = some (.bool c.cuts)) (g4 : w0.cell? ⟨g, 4, none⟩ = some (.slice (some ⟨b, o, none⟩) n cw)) (hx : RB w0 AX c.bytes.length c.bytes) (hxk : c.bytes.length ≤ kx)
    (hk0' : 0 ≤ kept) (hk : kept ≤ (n : Int)) (hkk : (j : Int) = kept + (kk : Int)) (hbit : bitAt s kk = true) (hk63 : kk < 63)
    (hQ : ∀ (fr' : Act) (w' : World), RJ w0 O g (updB F c.area (doB (F c.area) c)) kept s torn (.slice (some ⟨b, o, none⟩) n cw) n (j + 1) fr' w' → Q .normal fr' w') :
    Code.wp Tryd.prog (lpC Tryd.f34.body 0) Q fr w := by
  obtain ⟨h0, s0, s1, s2, s3, s8, s21, s22, s23, A, k, hK⟩ := hJ
  have HQ := Lib.hid hQ
  have HK := Lib.hid hK
  have kk0 := Keeps.of_below hK.bel
  have c0 := kk0 _ _ g0
  have c1 := kk0 _ _ g1
  have c2 := kk0 _ _ g2
  have c3 := kk0 _ _ g3
  have c4 := kk0 _ _ g4
  have HX := Lib.hid (hx.keep kk0)
  have HXK := Lib.hid hxk
  have j0 : (0 : Int) ≤ (j : Int) := by omega
  have j1 : (j : Int) < (n : Int) := by omega
  have n1 : (n : Int) ≤ 1000 := by omega
  have k1 : decide (kept < 0) = false := decide_eq_false (by omega)
  have k2 : decide ((n : Int) < kept) = false := decide_eq_false (by omega)
  have qs : decide ((j : Int) < kept) = false := decide_eq_false (by omega)
  have qw : IntKind.u64.wrap ((j : Int) - kept) = (j : Int) - kept := by rw [IntKind.wrap_u64]; omega
  have q1 : decide ((j : Int) - kept < 0) = false := decide_eq_false (by omega)
  have q2 : decide ((j : Int) - kept < 63) = true := decide_eq_true (by omega)
  have q2a : ((j : Int) - kept).toNat = kk := by omega
  have q2b : (0 : Int) ≤ (j : Int) - kept := by omega
  have q2c : ((j : Int) - kept) ≤ 62 := by omega
  have q3 : ((s / 2 ^ kk).tmod 2 == 1) = true := (rem_bit hs0 kk).1.trans hbit
  have q3b : (s / 2 ^ kk % 2 == 1) = true := (rem_bit hs0 kk).2.trans hbit
  have D0 := (Below.refl w.heap.size w).alloc (Nat.le_refl _) (.cells #[.int .i64 (c.area : Int), .int .i64 (c.pos : Int), .slice AX c.bytes.length kx, .bool c.cuts] 70)
  have hbox := heap_alloc_new w (.cells #[.int .i64 (c.area : Int), .int .i64 (c.pos : Int), .slice AX c.bytes.length kx, .bool c.cuts] 70)
  obtain ⟨wB, hwB⟩ : ∃ W, W = w.alloc (.cells #[.int .i64 (c.area : Int), .int .i64 (c.pos : Int), .slice AX c.bytes.length kx, .bool c.cuts] 70) := ⟨_, rfl⟩
  rw [← hwB] at D0 hbox
  have HB := Lib.hid D0
  have HBX := Lib.hid hbox
  have HWB := Lib.hid hwB
  have HSB : Hid (w.heap.size < wB.heap.size) := Lib.hid (by rw [hwB]; simp)
  have m4 : ∀ ob, (w.alloc ob).cell? ⟨g, 4, none⟩ = some (.slice (some ⟨b, o, none⟩) n cw) := fun ob => Keeps.of_below ((Below.refl w.heap.size w).alloc (Nat.le_refl _) ob) _ _ c4
  have r0 : w.cell? ⟨w0.heap.size, 0, none⟩ = some (.slice (A 0) (F 0).length (k 0)) := cell_of_row _ _ 0 _ _ _ hK.row
  have r1 : w.cell? ⟨w0.heap.size, 1, none⟩ = some (.slice (A 1) (F 1).length (k 1)) := cell_of_row _ _ 1 _ _ _ hK.row
  have r2 : w.cell? ⟨w0.heap.size, 2, none⟩ = some (.slice (A 2) (F 2).length (k 2)) := cell_of_row _ _ 2 _ _ _ hK.row
  have v0 : ∀ ob, (w.alloc ob).cell? ⟨w0.heap.size, 0, none⟩ = some (.slice (A 0) (F 0).length (k 0)) := fun ob => Keeps.of_below ((Below.refl w.heap.size w).alloc (Nat.le_refl _) ob) _ _ r0
  have v1 : ∀ ob, (w.alloc ob).cell? ⟨w0.heap.size, 1, none⟩ = some (.slice (A 1) (F 1).length (k 1)) := fun ob => Keeps.of_below ((Below.refl w.heap.size w).alloc (Nat.le_refl _) ob) _ _ r1
  have v2 : ∀ ob, (w.alloc ob).cell? ⟨w0.heap.size, 2, none⟩ = some (.slice (A 2) (F 2).length (k 2)) := fun ob => Keeps.of_below ((Below.refl w.heap.size w).alloc (Nat.le_refl _) ob) _ _ r2
  have HDn : Hid (∀ W, Below wB.heap.size wB W → Calls Tryd.prog 50 #[.agg #[.slice (A 0) (F 0).length (k 0), .slice (A 1) (F 1).length (k 1), .slice (A 2) (F 2).length (k 2)], .agg #[.int .i64 (c.area : Int), .int .i64 (c.pos : Int), .slice AX c.bytes.length kx, .bool c.cuts]] W fun e w' => ∃ A7 k7, e = .returned (.agg #[.slice (updF A c.area A7 0) (updB F c.area (doB (F c.area) c) 0).length (updF k c.area k7 0), .slice (updF A c.area A7 1) (updB F c.area (doB (F c.area) c) 1).length (updF k c.area k7 1), .slice (updF A c.area A7 2) (updB F c.area (doB (F c.area) c) 2).length (updF k c.area k7 2)]) ∧ OB w' W.heap.size (.slice A7 (doB (F c.area) c).length k7) (doB (F c.area) c) ∧ Below W.heap.size W w') := Lib.hid fun W hW => by
    have hrx : RB W AX c.bytes.length c.bytes := (HX.out.keep (Keeps.of_below D0)).keep (Keeps.of_below hW)
    have hd := Done_any A k F c AX kx W hca ((show OB w 0 (.slice (A c.area) (F c.area).length (k c.area)) (F c.area) from (hK.ob c.area hca).1).rbA.keep ((Keeps.of_below D0).trans (Keeps.of_below hW))) hFl hrx (by exact hcp)
    skip
    exact hd
  clear hQ hK kk0 g0 g1 g2 g3 g4 hx hxk D0 hbox hwB hFl hkk hbit hk63
  unfold IsKR at h0
  generalize slotR fr = f at *
  subst h0
  unfold KR
  rw [s0, s1, s2, s3, s8, s21, s22, s23]
  conv => arg 2; whnf
  clear s0 s1 s2 s3 s8 s21 s22 s23
  go_wp2_with (first
    | (go_at_call 50; go_loud (rw [← HWB.out]; (with_reducible refine (HDn.out wB (Below.refl _ _)).mono ?_); rintro e w7 ⟨A7, k7, rfl, ho7, hb7⟩; have O7 := Lib.hid ho7; have B7 : Hid (Below wB.heap.size wB w7) := Lib.hid hb7; have R7 := Lib.hid ((B7.out.block _ (Nat.lt_trans ((Array.getElem?_eq_some_iff.1 HK.out.row).1) HSB.out)).trans ((HB.out.block _ ((Array.getElem?_eq_some_iff.1 HK.out.row).1)).trans HK.out.row)); have y0 : w7.cell? ⟨w0.heap.size, 0, none⟩ = some (.slice (A 0) (F 0).length (k 0)) := cell_of_row _ _ 0 _ _ _ R7.out; have y1 : w7.cell? ⟨w0.heap.size, 1, none⟩ = some (.slice (A 1) (F 1).length (k 1)) := cell_of_row _ _ 1 _ _ _ R7.out; have y2 : w7.cell? ⟨w0.heap.size, 2, none⟩ = some (.slice (A 2) (F 2).length (k 2)) := cell_of_row _ _ 2 _ _ _ R7.out; have f0 : w7.frozen? ⟨w0.heap.size, 0, none⟩ = false := frozen_of_row _ _ _ _ _ R7.out; have f1 : w7.frozen? ⟨w0.heap.size, 1, none⟩ = false := frozen_of_row _ _ _ _ _ R7.out; have f2 : w7.frozen? ⟨w0.heap.size, 2, none⟩ = false := frozen_of_row _ _ _ _ _ R7.out; clear ho7 hb7))
    | fail)
  refine HQ.out _ _ ?_
  unfold RJ
  exact ⟨rfl, rfl, rfl, rfl, rfl, rfl, rfl, rfl, rfl, _, _, HK.out.step HB.out B7.out O7.out HSB.out rfl rfl rfl⟩

set_option maxHeartbeats 4000000 in
set_option maxRecDepth 100000 in
theorem rc_c1_2 {w0 : World} {O : Nat → Prop} {g : Nat} {F : Nat → List UInt8} (fr : Act) (w : World) (Q : Exit → Act → World → Prop) (kept s torn : Int) (b o n cw j kk : Nat) (c : DChg) (AX : Option Addr) (kx : Nat) (hJ : RJ w0 O g F kept s torn (.slice (some ⟨b, o, none⟩) n cw) n j fr w) (hj : j < n) (hn : n ≤ 1000) (hs0 : 0 ≤ s) (_ : c.area < 3) (_ : c.pos + c.bytes.length ≤ 1048576) (_ : (F c.area).length ≤ 1048576)
    (g0 : w0.cell? ⟨b, o + j * 4, none⟩ = some (.int .i64 (c.area : Int))) (g1 : w0.cell? ⟨b, o + j * 4 + 1, none⟩ = some (.int .i64 (c.pos : Int))) (g2 : w0.cell? ⟨b, o + j * 4 + 2, none⟩ = some (.slice AX c.bytes.length kx)) (g3 : w0.cell? ⟨b, o + j * 4 + 3, none⟩ = some (.bool c.cuts)) (g4 : w0.cell? ⟨g, 4, none⟩ = some (.slice (some ⟨b, o, none⟩) n cw)) (hx : RB w0 AX c.bytes.length c.bytes) (hxk : c.bytes.length ≤ kx)
    (hk0' : 0 ≤ kept) (hk : kept ≤ (n : Int)) (hkk : (j : Int) = kept + (kk : Int)) (hbit : bitAt s kk = false) (hk63 : kk < 63) (hk0 : 0 < kk)
    (hQ : ∀ (fr' : Act) (w' : World), RJ w0 O g F kept s torn (.slice (some ⟨b, o, none⟩) n cw) n (j + 1) fr' w' → Q .normal fr' w') :
    Code.wp Tryd.prog (lpC Tryd.f34.body 0) Q fr w := by
  obtain ⟨h0, s0, s1, s2, s3, s8, s21, s22, s23, A, k, hK⟩ := hJ
  have HQ := Lib.hid hQ
  have HK := Lib.hid hK
  have kk0 := Keeps.of_below hK.bel
  have c0 := kk0 _ _ g0
  have c1 := kk0 _ _ g1
  have c2 := kk0 _ _ g2
  have c3 := kk0 _ _ g3
  have c4 := kk0 _ _ g4
  have HX := Lib.hid (hx.keep kk0)
  have HXK := Lib.hid hxk
  have j0 : (0 : Int) ≤ (j : Int) := by omega
  have j1 : (j : Int) < (n : Int) := by omega
  have n1 : (n : Int) ≤ 1000 := by omega
  have k1 : decide (kept < 0) = false := decide_eq_false (by omega)
  have k2 : decide ((n : Int) < kept) = false := decide_eq_false (by omega)
  have qs : decide ((j : Int) < kept) = false := decide_eq_false (by omega)
  have qw : IntKind.u64.wrap ((j : Int) - kept) = (j : Int) - kept := by rw [IntKind.wrap_u64]; omega
  have q1 : decide ((j : Int) - kept < 0) = false := decide_eq_false (by omega)
  have q2 : decide ((j : Int) - kept < 63) = true := decide_eq_true (by omega)
  have q2a : ((j : Int) - kept).toNat = kk := by omega
  have q2b : (0 : Int) ≤ (j : Int) - kept := by omega
  have q2c : ((j : Int) - kept) ≤ 62 := by omega
  have q3 : ((s / 2 ^ kk).tmod 2 == 1) = false := (rem_bit hs0 kk).1.trans hbit
  have q3b : (s / 2 ^ kk % 2 == 1) = false := (rem_bit hs0 kk).2.trans hbit
  have q4 : ((j : Int) - kept == 0) = false := beq_eq_false_iff_ne.2 (by omega)
  have D0 := (Below.refl w.heap.size w).alloc (Nat.le_refl _) (.cells #[.int .i64 (c.area : Int), .int .i64 (c.pos : Int), .slice AX c.bytes.length kx, .bool c.cuts] 70)
  have hbox := heap_alloc_new w (.cells #[.int .i64 (c.area : Int), .int .i64 (c.pos : Int), .slice AX c.bytes.length kx, .bool c.cuts] 70)
  obtain ⟨wB, hwB⟩ : ∃ W, W = w.alloc (.cells #[.int .i64 (c.area : Int), .int .i64 (c.pos : Int), .slice AX c.bytes.length kx, .bool c.cuts] 70) := ⟨_, rfl⟩
  rw [← hwB] at D0 hbox
  have HB := Lib.hid D0
  have HBX := Lib.hid hbox
  have HWB := Lib.hid hwB
  have HSB : Hid (w.heap.size < wB.heap.size) := Lib.hid (by rw [hwB]; simp)
  have m4 : ∀ ob, (w.alloc ob).cell? ⟨g, 4, none⟩ = some (.slice (some ⟨b, o, none⟩) n cw) := fun ob => Keeps.of_below ((Below.refl w.heap.size w).alloc (Nat.le_refl _) ob) _ _ c4
  have r0 : w.cell? ⟨w0.heap.size, 0, none⟩ = some (.slice (A 0) (F 0).length (k 0)) := cell_of_row _ _ 0 _ _ _ hK.row
  have r1 : w.cell? ⟨w0.heap.size, 1, none⟩ = some (.slice (A 1) (F 1).length (k 1)) := cell_of_row _ _ 1 _ _ _ hK.row
  have r2 : w.cell? ⟨w0.heap.size, 2, none⟩ = some (.slice (A 2) (F 2).length (k 2)) := cell_of_row _ _ 2 _ _ _ hK.row
  have v0 : ∀ ob, (w.alloc ob).cell? ⟨w0.heap.size, 0, none⟩ = some (.slice (A 0) (F 0).length (k 0)) := fun ob => Keeps.of_below ((Below.refl w.heap.size w).alloc (Nat.le_refl _) ob) _ _ r0
  have v1 : ∀ ob, (w.alloc ob).cell? ⟨w0.heap.size, 1, none⟩ = some (.slice (A 1) (F 1).length (k 1)) := fun ob => Keeps.of_below ((Below.refl w.heap.size w).alloc (Nat.le_refl _) ob) _ _ r1
  have v2 : ∀ ob, (w.alloc ob).cell? ⟨w0.heap.size, 2, none⟩ = some (.slice (A 2) (F 2).length (k 2)) := fun ob => Keeps.of_below ((Below.refl w.heap.size w).alloc (Nat.le_refl _) ob) _ _ r2
  clear hQ hK kk0 g0 g1 g2 g3 g4 hx hxk D0 hbox hwB  hkk hbit hk63 hk0
  unfold IsKR at h0
  generalize slotR fr = f at *
  subst h0
  unfold KR
  rw [s0, s1, s2, s3, s8, s21, s22, s23]
  conv => arg 2; whnf
  clear s0 s1 s2 s3 s8 s21 s22 s23
  go_wp2
  refine HQ.out _ _ ?_
  unfold RJ
  exact ⟨rfl, rfl, rfl, rfl, rfl, rfl, rfl, rfl, rfl, A, k, HK.out.below (by have := HB.out; rw [HWB.out] at this; exact this)⟩

set_option maxHeartbeats 4000000 in
set_option maxRecDepth 100000 in
theorem rc_c2_2 {w0 : World} {O : Nat → Prop} {g : Nat} {F : Nat → List UInt8} (fr : Act) (w : World) (Q : Exit → Act → World → Prop) (kept s torn : Int) (b o n cw j kk : Nat) (c : DChg) (AX : Option Addr) (kx : Nat) (hJ : RJ w0 O g F kept s torn (.slice (some ⟨b, o, none⟩) n cw) n j fr w) (hj : j < n) (hn : n ≤ 1000) (_ : 0 ≤ s) (_ : c.area < 3) (_ : c.pos + c.bytes.length ≤ 1048576) (_ : (F c.area).length ≤ 1048576)
    (g0 : w0.cell? ⟨b, o + j * 4, none⟩ = some (.int .i64 (c.area : Int))) (g1 : w0.cell? ⟨b, o + j * 4 + 1, none⟩ = some (.int .i64 (c.pos : Int))) (g2 : w0.cell? ⟨b, o + j * 4 + 2, none⟩ = some (.slice AX c.bytes.length kx)) (g3 : w0.cell? ⟨b, o + j * 4 + 3, none⟩ = some (.bool c.cuts)) (g4 : w0.cell? ⟨g, 4, none⟩ = some (.slice (some ⟨b, o, none⟩) n cw)) (hx : RB w0 AX c.bytes.length c.bytes) (hxk : c.bytes.length ≤ kx)
    (hk0' : 0 ≤ kept) (hk : kept ≤ (n : Int)) (hkk : (j : Int) = kept + (kk : Int)) (hk63 : 63 ≤ kk)
    (hQ : ∀ (fr' : Act) (w' : World), RJ w0 O g F kept s torn (.slice (some ⟨b, o, none⟩) n cw) n (j + 1) fr' w' → Q .normal fr' w') :
    Code.wp Tryd.prog (lpC Tryd.f34.body 0) Q fr w := by
  obtain ⟨h0, s0, s1, s2, s3, s8, s21, s22, s23, A, k, hK⟩ := hJ
  have HQ := Lib.hid hQ
  have HK := Lib.hid hK
  have kk0 := Keeps.of_below hK.bel
  have c0 := kk0 _ _ g0
  have c1 := kk0 _ _ g1
  have c2 := kk0 _ _ g2
  have c3 := kk0 _ _ g3
  have c4 := kk0 _ _ g4
  have HX := Lib.hid (hx.keep kk0)
  have HXK := Lib.hid hxk
  have j0 : (0 : Int) ≤ (j : Int) := by omega
  have j1 : (j : Int) < (n : Int) := by omega
  have n1 : (n : Int) ≤ 1000 := by omega
  have k1 : decide (kept < 0) = false := decide_eq_false (by omega)
  have k2 : decide ((n : Int) < kept) = false := decide_eq_false (by omega)
  have qs : decide ((j : Int) < kept) = false := decide_eq_false (by omega)
  have q1 : decide ((j : Int) - kept < 0) = false := decide_eq_false (by omega)
  have q2 : decide ((j : Int) - kept < 63) = false := decide_eq_false (by omega)
  have q4 : ((j : Int) - kept == 0) = false := beq_eq_false_iff_ne.2 (by omega)
  have D0 := (Below.refl w.heap.size w).alloc (Nat.le_refl _) (.cells #[.int .i64 (c.area : Int), .int .i64 (c.pos : Int), .slice AX c.bytes.length kx, .bool c.cuts] 70)
  have hbox := heap_alloc_new w (.cells #[.int .i64 (c.area : Int), .int .i64 (c.pos : Int), .slice AX c.bytes.length kx, .bool c.cuts] 70)
  obtain ⟨wB, hwB⟩ : ∃ W, W = w.alloc (.cells #[.int .i64 (c.area : Int), .int .i64 (c.pos : Int), .slice AX c.bytes.length kx, .bool c.cuts] 70) := ⟨_, rfl⟩
  rw [← hwB] at D0 hbox
  have HB := Lib.hid D0
  have HBX := Lib.hid hbox
  have HWB := Lib.hid hwB
  have HSB : Hid (w.heap.size < wB.heap.size) := Lib.hid (by rw [hwB]; simp)
  have m4 : ∀ ob, (w.alloc ob).cell? ⟨g, 4, none⟩ = some (.slice (some ⟨b, o, none⟩) n cw) := fun ob => Keeps.of_below ((Below.refl w.heap.size w).alloc (Nat.le_refl _) ob) _ _ c4
  have r0 : w.cell? ⟨w0.heap.size, 0, none⟩ = some (.slice (A 0) (F 0).length (k 0)) := cell_of_row _ _ 0 _ _ _ hK.row
  have r1 : w.cell? ⟨w0.heap.size, 1, none⟩ = some (.slice (A 1) (F 1).length (k 1)) := cell_of_row _ _ 1 _ _ _ hK.row
  have r2 : w.cell? ⟨w0.heap.size, 2, none⟩ = some (.slice (A 2) (F 2).length (k 2)) := cell_of_row _ _ 2 _ _ _ hK.row
  have v0 : ∀ ob, (w.alloc ob).cell? ⟨w0.heap.size, 0, none⟩ = some (.slice (A 0) (F 0).length (k 0)) := fun ob => Keeps.of_below ((Below.refl w.heap.size w).alloc (Nat.le_refl _) ob) _ _ r0
  have v1 : ∀ ob, (w.alloc ob).cell? ⟨w0.heap.size, 1, none⟩ = some (.slice (A 1) (F 1).length (k 1)) := fun ob => Keeps.of_below ((Below.refl w.heap.size w).alloc (Nat.le_refl _) ob) _ _ r1
  have v2 : ∀ ob, (w.alloc ob).cell? ⟨w0.heap.size, 2, none⟩ = some (.slice (A 2) (F 2).length (k 2)) := fun ob => Keeps.of_below ((Below.refl w.heap.size w).alloc (Nat.le_refl _) ob) _ _ r2
  clear hQ hK kk0 g0 g1 g2 g3 g4 hx hxk D0 hbox hwB  hkk hk63
  unfold IsKR at h0
  generalize slotR fr = f at *
  subst h0
  unfold KR
  rw [s0, s1, s2, s3, s8, s21, s22, s23]
  conv => arg 2; whnf
  clear s0 s1 s2 s3 s8 s21 s22 s23
  go_wp2
  refine HQ.out _ _ ?_
  unfold RJ
  exact ⟨rfl, rfl, rfl, rfl, rfl, rfl, rfl, rfl, rfl, A, k, HK.out.below (by have := HB.out; rw [HWB.out] at this; exact this)⟩

set_option maxHeartbeats 4000000 in
set_option maxRecDepth 100000 in
theorem rc_c3_2 {w0 : World} {O : Nat → Prop} {g : Nat} {F : Nat → List UInt8} (fr : Act) (w : World) (Q : Exit → Act → World → Prop) (kept s torn : Int) (b o n cw j kk : Nat) (c : DChg) (AX : Option Addr) (kx : Nat) (hJ : RJ w0 O g F kept s torn (.slice (some ⟨b, o, none⟩) n cw) n j fr w) (hj : j < n) (hn : n ≤ 1000) (hs0 : 0 ≤ s) (_ : c.area < 3) (_ : c.pos + c.bytes.length ≤ 1048576) (_ : (F c.area).length ≤ 1048576)
    (g0 : w0.cell? ⟨b, o + j * 4, none⟩ = some (.int .i64 (c.area : Int))) (g1 : w0.cell? ⟨b, o + j * 4 + 1, none⟩ = some (.int .i64 (c.pos : Int))) (g2 : w0.cell? ⟨b, o + j * 4 + 2, none⟩ = some (.slice AX c.bytes.length kx)) (g3 : w0.cell? ⟨b, o + j * 4 + 3, none⟩ = some (.bool c.cuts)) (g4 : w0.cell? ⟨g, 4, none⟩ = some (.slice (some ⟨b, o, none⟩) n cw)) (hx : RB w0 AX c.bytes.length c.bytes) (hxk : c.bytes.length ≤ kx)
    (hk0' : 0 ≤ kept) (hk : kept ≤ (n : Int)) (hkk : (j : Int) = kept + (kk : Int)) (hbit : bitAt s kk = false) (hk0 : kk = 0) (hcut : c.cuts = true)
    (hQ : ∀ (fr' : Act) (w' : World), RJ w0 O g F kept s torn (.slice (some ⟨b, o, none⟩) n cw) n (j + 1) fr' w' → Q .normal fr' w') :
    Code.wp Tryd.prog (lpC Tryd.f34.body 0) Q fr w := by
  obtain ⟨h0, s0, s1, s2, s3, s8, s21, s22, s23, A, k, hK⟩ := hJ
  have HQ := Lib.hid hQ
  have HK := Lib.hid hK
  have kk0 := Keeps.of_below hK.bel
  have c0 := kk0 _ _ g0
  have c1 := kk0 _ _ g1
  have c2 := kk0 _ _ g2
  have c3 := kk0 _ _ g3
  have c4 := kk0 _ _ g4
  have HX := Lib.hid (hx.keep kk0)
  have HXK := Lib.hid hxk
  have j0 : (0 : Int) ≤ (j : Int) := by omega
  have j1 : (j : Int) < (n : Int) := by omega
  have n1 : (n : Int) ≤ 1000 := by omega
  have k1 : decide (kept < 0) = false := decide_eq_false (by omega)
  have k2 : decide ((n : Int) < kept) = false := decide_eq_false (by omega)
  have qs : decide ((j : Int) < kept) = false := decide_eq_false (by omega)
  have qw : IntKind.u64.wrap ((j : Int) - kept) = (j : Int) - kept := by rw [IntKind.wrap_u64]; omega
  have q1 : decide ((j : Int) - kept < 0) = false := decide_eq_false (by omega)
  have q2 : decide ((j : Int) - kept < 63) = true := decide_eq_true (by omega)
  have q2a : ((j : Int) - kept).toNat = kk := by omega
  have q2b : (0 : Int) ≤ (j : Int) - kept := by omega
  have q2c : ((j : Int) - kept) ≤ 62 := by omega
  have q3 : ((s / 2 ^ kk).tmod 2 == 1) = false := (rem_bit hs0 kk).1.trans hbit
  have q3b : (s / 2 ^ kk % 2 == 1) = false := (rem_bit hs0 kk).2.trans hbit
  have q4 : ((j : Int) - kept == 0) = true := by rw [beq_iff_eq]; omega
  rw [hcut] at c3 g3
  have D0 := (Below.refl w.heap.size w).alloc (Nat.le_refl _) (.cells #[.int .i64 (c.area : Int), .int .i64 (c.pos : Int), .slice AX c.bytes.length kx, .bool true] 70)
  have hbox := heap_alloc_new w (.cells #[.int .i64 (c.area : Int), .int .i64 (c.pos : Int), .slice AX c.bytes.length kx, .bool true] 70)
  obtain ⟨wB, hwB⟩ : ∃ W, W = w.alloc (.cells #[.int .i64 (c.area : Int), .int .i64 (c.pos : Int), .slice AX c.bytes.length kx, .bool true] 70) := ⟨_, rfl⟩
  rw [← hwB] at D0 hbox
  have HB := Lib.hid D0
  have HBX := Lib.hid hbox
  have HWB := Lib.hid hwB
  have HSB : Hid (w.heap.size < wB.heap.size) := Lib.hid (by rw [hwB]; simp)
  have m4 : ∀ ob, (w.alloc ob).cell? ⟨g, 4, none⟩ = some (.slice (some ⟨b, o, none⟩) n cw) := fun ob => Keeps.of_below ((Below.refl w.heap.size w).alloc (Nat.le_refl _) ob) _ _ c4
  have r0 : w.cell? ⟨w0.heap.size, 0, none⟩ = some (.slice (A 0) (F 0).length (k 0)) := cell_of_row _ _ 0 _ _ _ hK.row
  have r1 : w.cell? ⟨w0.heap.size, 1, none⟩ = some (.slice (A 1) (F 1).length (k 1)) := cell_of_row _ _ 1 _ _ _ hK.row
  have r2 : w.cell? ⟨w0.heap.size, 2, none⟩ = some (.slice (A 2) (F 2).length (k 2)) := cell_of_row _ _ 2 _ _ _ hK.row
  have v0 : ∀ ob, (w.alloc ob).cell? ⟨w0.heap.size, 0, none⟩ = some (.slice (A 0) (F 0).length (k 0)) := fun ob => Keeps.of_below ((Below.refl w.heap.size w).alloc (Nat.le_refl _) ob) _ _ r0
  have v1 : ∀ ob, (w.alloc ob).cell? ⟨w0.heap.size, 1, none⟩ = some (.slice (A 1) (F 1).length (k 1)) := fun ob => Keeps.of_below ((Below.refl w.heap.size w).alloc (Nat.le_refl _) ob) _ _ r1
  have v2 : ∀ ob, (w.alloc ob).cell? ⟨w0.heap.size, 2, none⟩ = some (.slice (A 2) (F 2).length (k 2)) := fun ob => Keeps.of_below ((Below.refl w.heap.size w).alloc (Nat.le_refl _) ob) _ _ r2
  clear hQ hK kk0 g0 g1 g2 g3 g4 hx hxk D0 hbox hwB  hkk hbit hk0 hcut
  unfold IsKR at h0
  generalize slotR fr = f at *
  subst h0
  unfold KR
  rw [s0, s1, s2, s3, s8, s21, s22, s23]
  conv => arg 2; whnf
  clear s0 s1 s2 s3 s8 s21 s22 s23
  go_wp2
  refine HQ.out _ _ ?_
  unfold RJ
  exact ⟨rfl, rfl, rfl, rfl, rfl, rfl, rfl, rfl, rfl, A, k, HK.out.below (by have := HB.out; rw [HWB.out] at this; exact this)⟩

set_option maxHeartbeats 4000000 in
set_option maxRecDepth 100000 in
theorem rc_c4_2 {w0 : World} {O : Nat → Prop} {g : Nat} {F : Nat → List UInt8} (fr : Act) (w : World) (Q : Exit → Act → World → Prop) (kept s torn : Int) (b o n cw j kk : Nat) (c : DChg) (AX : Option Addr) (kx : Nat) (hJ : RJ w0 O g F kept s torn (.slice (some ⟨b, o, none⟩) n cw) n j fr w) (hj : j < n) (hn : n ≤ 1000) (hs0 : 0 ≤ s) (_ : c.area < 3) (_ : c.pos + c.bytes.length ≤ 1048576) (_ : (F c.area).length ≤ 1048576)
    (g0 : w0.cell? ⟨b, o + j * 4, none⟩ = some (.int .i64 (c.area : Int))) (g1 : w0.cell? ⟨b, o + j * 4 + 1, none⟩ = some (.int .i64 (c.pos : Int))) (g2 : w0.cell? ⟨b, o + j * 4 + 2, none⟩ = some (.slice AX c.bytes.length kx)) (g3 : w0.cell? ⟨b, o + j * 4 + 3, none⟩ = some (.bool c.cuts)) (g4 : w0.cell? ⟨g, 4, none⟩ = some (.slice (some ⟨b, o, none⟩) n cw)) (hx : RB w0 AX c.bytes.length c.bytes) (hxk : c.bytes.length ≤ kx)
    (hk0' : 0 ≤ kept) (hk : kept ≤ (n : Int)) (hkk : (j : Int) = kept + (kk : Int)) (hbit : bitAt s kk = false) (hk0 : kk = 0) (hcut : c.cuts = false) (ht : torn ≤ 0)
    (hQ : ∀ (fr' : Act) (w' : World), RJ w0 O g F kept s torn (.slice (some ⟨b, o, none⟩) n cw) n (j + 1) fr' w' → Q .normal fr' w') :
    Code.wp Tryd.prog (lpC Tryd.f34.body 0) Q fr w := by
  obtain ⟨h0, s0, s1, s2, s3, s8, s21, s22, s23, A, k, hK⟩ := hJ
  have HQ := Lib.hid hQ
  have HK := Lib.hid hK
  have kk0 := Keeps.of_below hK.bel
  have c0 := kk0 _ _ g0
  have c1 := kk0 _ _ g1
  have c2 := kk0 _ _ g2
  have c3 := kk0 _ _ g3
  have c4 := kk0 _ _ g4
  have HX := Lib.hid (hx.keep kk0)
  have HXK := Lib.hid hxk
  have j0 : (0 : Int) ≤ (j : Int) := by omega
  have j1 : (j : Int) < (n : Int) := by omega
  have n1 : (n : Int) ≤ 1000 := by omega
  have k1 : decide (kept < 0) = false := decide_eq_false (by omega)
  have k2 : decide ((n : Int) < kept) = false := decide_eq_false (by omega)
  have qs : decide ((j : Int) < kept) = false := decide_eq_false (by omega)
  have qw : IntKind.u64.wrap ((j : Int) - kept) = (j : Int) - kept := by rw [IntKind.wrap_u64]; omega
  have q1 : decide ((j : Int) - kept < 0) = false := decide_eq_false (by omega)
  have q2 : decide ((j : Int) - kept < 63) = true := decide_eq_true (by omega)
  have q2a : ((j : Int) - kept).toNat = kk := by omega
  have q2b : (0 : Int) ≤ (j : Int) - kept := by omega
  have q2c : ((j : Int) - kept) ≤ 62 := by omega
  have q3 : ((s / 2 ^ kk).tmod 2 == 1) = false := (rem_bit hs0 kk).1.trans hbit
  have q3b : (s / 2 ^ kk % 2 == 1) = false := (rem_bit hs0 kk).2.trans hbit
  have q4 : ((j : Int) - kept == 0) = true := by rw [beq_iff_eq]; omega
  have qt : decide (0 < torn) = false := decide_eq_false (by omega)
  rw [hcut] at c3 g3
  have D0 := (Below.refl w.heap.size w).alloc (Nat.le_refl _) (.cells #[.int .i64 (c.area : Int), .int .i64 (c.pos : Int), .slice AX c.bytes.length kx, .bool false] 70)
  have hbox := heap_alloc_new w (.cells #[.int .i64 (c.area : Int), .int .i64 (c.pos : Int), .slice AX c.bytes.length kx, .bool false] 70)
  obtain ⟨wB, hwB⟩ : ∃ W, W = w.alloc (.cells #[.int .i64 (c.area : Int), .int .i64 (c.pos : Int), .slice AX c.bytes.length kx, .bool false] 70) := ⟨_, rfl⟩
  rw [← hwB] at D0 hbox
  have HB := Lib.hid D0
  have HBX := Lib.hid hbox
  have HWB := Lib.hid hwB
  have HSB : Hid (w.heap.size < wB.heap.size) := Lib.hid (by rw [hwB]; simp)
  have m4 : ∀ ob, (w.alloc ob).cell? ⟨g, 4, none⟩ = some (.slice (some ⟨b, o, none⟩) n cw) := fun ob => Keeps.of_below ((Below.refl w.heap.size w).alloc (Nat.le_refl _) ob) _ _ c4
  have r0 : w.cell? ⟨w0.heap.size, 0, none⟩ = some (.slice (A 0) (F 0).length (k 0)) := cell_of_row _ _ 0 _ _ _ hK.row
  have r1 : w.cell? ⟨w0.heap.size, 1, none⟩ = some (.slice (A 1) (F 1).length (k 1)) := cell_of_row _ _ 1 _ _ _ hK.row
  have r2 : w.cell? ⟨w0.heap.size, 2, none⟩ = some (.slice (A 2) (F 2).length (k 2)) := cell_of_row _ _ 2 _ _ _ hK.row
  have v0 : ∀ ob, (w.alloc ob).cell? ⟨w0.heap.size, 0, none⟩ = some (.slice (A 0) (F 0).length (k 0)) := fun ob => Keeps.of_below ((Below.refl w.heap.size w).alloc (Nat.le_refl _) ob) _ _ r0
  have v1 : ∀ ob, (w.alloc ob).cell? ⟨w0.heap.size, 1, none⟩ = some (.slice (A 1) (F 1).length (k 1)) := fun ob => Keeps.of_below ((Below.refl w.heap.size w).alloc (Nat.le_refl _) ob) _ _ r1
  have v2 : ∀ ob, (w.alloc ob).cell? ⟨w0.heap.size, 2, none⟩ = some (.slice (A 2) (F 2).length (k 2)) := fun ob => Keeps.of_below ((Below.refl w.heap.size w).alloc (Nat.le_refl _) ob) _ _ r2
  clear hQ hK kk0 g0 g1 g2 g3 g4 hx hxk D0 hbox hwB  hkk hbit hk0 hcut ht
  unfold IsKR at h0
  generalize slotR fr = f at *
  subst h0
  unfold KR
  rw [s0, s1, s2, s3, s8, s21, s22, s23]
  conv => arg 2; whnf
  clear s0 s1 s2 s3 s8 s21 s22 s23
  go_wp2
  refine HQ.out _ _ ?_
  unfold RJ
  exact ⟨rfl, rfl, rfl, rfl, rfl, rfl, rfl, rfl, rfl, A, k, HK.out.below (by have := HB.out; rw [HWB.out] at this; exact this)⟩

set_option maxHeartbeats 4000000 in
set_option maxRecDepth 100000 in
theorem rc_c5_2 {w0 : World} {O : Nat → Prop} {g : Nat} {F : Nat → List UInt8} (fr : Act) (w : World) (Q : Exit → Act → World → Prop) (kept s torn : Int) (b o n cw j kk : Nat) (c : DChg) (AX : Option Addr) (kx : Nat) (hJ : RJ w0 O g F kept s torn (.slice (some ⟨b, o, none⟩) n cw) n j fr w) (hj : j < n) (hn : n ≤ 1000) (hs0 : 0 ≤ s) (_ : c.area < 3) (_ : c.pos + c.bytes.length ≤ 1048576) (_ : (F c.area).length ≤ 1048576)
    (g0 : w0.cell? ⟨b, o + j * 4, none⟩ = some (.int .i64 (c.area : Int))) (g1 : w0.cell? ⟨b, o + j * 4 + 1, none⟩ = some (.int .i64 (c.pos : Int))) (g2 : w0.cell? ⟨b, o + j * 4 + 2, none⟩ = some (.slice AX c.bytes.length kx)) (g3 : w0.cell? ⟨b, o + j * 4 + 3, none⟩ = some (.bool c.cuts)) (g4 : w0.cell? ⟨g, 4, none⟩ = some (.slice (some ⟨b, o, none⟩) n cw)) (hx : RB w0 AX c.bytes.length c.bytes) (hxk : c.bytes.length ≤ kx)
    (hk0' : 0 ≤ kept) (hk : kept ≤ (n : Int)) (hkk : (j : Int) = kept + (kk : Int)) (hbit : bitAt s kk = false) (hk0 : kk = 0) (hcut : c.cuts = false) (ht : 0 < torn) (hz : c.bytes = [])
    (hQ : ∀ (fr' : Act) (w' : World), RJ w0 O g F kept s torn (.slice (some ⟨b, o, none⟩) n cw) n (j + 1) fr' w' → Q .normal fr' w') :
    Code.wp Tryd.prog (lpC Tryd.f34.body 0) Q fr w := by
  obtain ⟨h0, s0, s1, s2, s3, s8, s21, s22, s23, A, k, hK⟩ := hJ
  have HQ := Lib.hid hQ
  have HK := Lib.hid hK
  have kk0 := Keeps.of_below hK.bel
  have c0 := kk0 _ _ g0
  have c1 := kk0 _ _ g1
  have c2 := kk0 _ _ g2
  have c3 := kk0 _ _ g3
  have c4 := kk0 _ _ g4
  have HX := Lib.hid (hx.keep kk0)
  have HXK := Lib.hid hxk
  have j0 : (0 : Int) ≤ (j : Int) := by omega
  have j1 : (j : Int) < (n : Int) := by omega
  have n1 : (n : Int) ≤ 1000 := by omega
  have k1 : decide (kept < 0) = false := decide_eq_false (by omega)
  have k2 : decide ((n : Int) < kept) = false := decide_eq_false (by omega)
  have qs : decide ((j : Int) < kept) = false := decide_eq_false (by omega)
  have qw : IntKind.u64.wrap ((j : Int) - kept) = (j : Int) - kept := by rw [IntKind.wrap_u64]; omega
  have q1 : decide ((j : Int) - kept < 0) = false := decide_eq_false (by omega)
  have q2 : decide ((j : Int) - kept < 63) = true := decide_eq_true (by omega)
  have q2a : ((j : Int) - kept).toNat = kk := by omega
  have q2b : (0 : Int) ≤ (j : Int) - kept := by omega
  have q2c : ((j : Int) - kept) ≤ 62 := by omega
  have q3 : ((s / 2 ^ kk).tmod 2 == 1) = false := (rem_bit hs0 kk).1.trans hbit
  have q3b : (s / 2 ^ kk % 2 == 1) = false := (rem_bit hs0 kk).2.trans hbit
  have q4 : ((j : Int) - kept == 0) = true := by rw [beq_iff_eq]; omega
  have qt : decide (0 < torn) = true := decide_eq_true (by omega)
  rw [hcut] at c3 g3
  rw [hz] at c2 g2
  have D0 := (Below.refl w.heap.size w).alloc (Nat.le_refl _) (.cells #[.int .i64 (c.area : Int), .int .i64 (c.pos : Int), .slice AX ([] : List UInt8).length kx, .bool false] 70)
  have hbox := heap_alloc_new w (.cells #[.int .i64 (c.area : Int), .int .i64 (c.pos : Int), .slice AX ([] : List UInt8).length kx, .bool false] 70)
  obtain ⟨wB, hwB⟩ : ∃ W, W = w.alloc (.cells #[.int .i64 (c.area : Int), .int .i64 (c.pos : Int), .slice AX ([] : List UInt8).length kx, .bool false] 70) := ⟨_, rfl⟩
  rw [← hwB] at D0 hbox
  have HB := Lib.hid D0
  have HBX := Lib.hid hbox
  have HWB := Lib.hid hwB
  have HSB : Hid (w.heap.size < wB.heap.size) := Lib.hid (by rw [hwB]; simp)
  have m4 : ∀ ob, (w.alloc ob).cell? ⟨g, 4, none⟩ = some (.slice (some ⟨b, o, none⟩) n cw) := fun ob => Keeps.of_below ((Below.refl w.heap.size w).alloc (Nat.le_refl _) ob) _ _ c4
  have r0 : w.cell? ⟨w0.heap.size, 0, none⟩ = some (.slice (A 0) (F 0).length (k 0)) := cell_of_row _ _ 0 _ _ _ hK.row
  have r1 : w.cell? ⟨w0.heap.size, 1, none⟩ = some (.slice (A 1) (F 1).length (k 1)) := cell_of_row _ _ 1 _ _ _ hK.row
  have r2 : w.cell? ⟨w0.heap.size, 2, none⟩ = some (.slice (A 2) (F 2).length (k 2)) := cell_of_row _ _ 2 _ _ _ hK.row
  have v0 : ∀ ob, (w.alloc ob).cell? ⟨w0.heap.size, 0, none⟩ = some (.slice (A 0) (F 0).length (k 0)) := fun ob => Keeps.of_below ((Below.refl w.heap.size w).alloc (Nat.le_refl _) ob) _ _ r0
  have v1 : ∀ ob, (w.alloc ob).cell? ⟨w0.heap.size, 1, none⟩ = some (.slice (A 1) (F 1).length (k 1)) := fun ob => Keeps.of_below ((Below.refl w.heap.size w).alloc (Nat.le_refl _) ob) _ _ r1
  have v2 : ∀ ob, (w.alloc ob).cell? ⟨w0.heap.size, 2, none⟩ = some (.slice (A 2) (F 2).length (k 2)) := fun ob => Keeps.of_below ((Below.refl w.heap.size w).alloc (Nat.le_refl _) ob) _ _ r2
  clear hQ hK kk0 g0 g1 g2 g3 g4 hx hxk D0 hbox hwB  hkk hbit hk0 hcut ht hz
  unfold IsKR at h0
  generalize slotR fr = f at *
  subst h0
  unfold KR
  rw [s0, s1, s2, s3, s8, s21, s22, s23]
  conv => arg 2; whnf
  clear s0 s1 s2 s3 s8 s21 s22 s23
  go_wp2
  refine HQ.out _ _ ?_
  unfold RJ
  exact ⟨rfl, rfl, rfl, rfl, rfl, rfl, rfl, rfl, rfl, A, k, HK.out.below (by have := HB.out; rw [HWB.out] at this; exact this)⟩
end Go.Proofs.YtifjddkgnfanaaaDoor
