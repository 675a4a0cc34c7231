/- disk: one round of Crash's loop. -/
import Derived.Test.YtgiaifglkecdjaaDoorDiskSync
import Derived.Test.YtgiaifglkecdjaaDoorRefFrame
import Derived.Deep.RegionHeld3
import Derived.WalkSmall
namespace Go.Proofs.YtgiaifglkecdjaaDoor
open Go.RowKit

set_option maxRecDepth 100000 in
def CF (f : Nat → Value) : Act := ⟨#[f 0, f 1, f 2, f 3, f 4, f 5, f 6, f 7, f 8, f 9, f 10, f 11, f 12, f 13, f 14, f 15, f 16, f 17, f 18, f 19, f 20, f 21, f 22, f 23, f 24, f 25, f 26, f 27, f 28, f 29, f 30, f 31, f 32, f 33, f 34, f 35, f 36, f 37, f 38, f 39, f 40, f 41, f 42, f 43, f 44, f 45, f 46, f 47, f 48, f 49, f 50, f 51, f 52, f 53, f 54, f 55, f 56, f 57, f 58, f 59, f 60, f 61, f 62, f 63, f 64, f 65, f 66, f 67, f 68, f 69, f 70, f 71, f 72, f 73, f 74, f 75, f 76, f 77, f 78, f 79, f 80, f 81, f 82, f 83, f 84, f 85, f 86, f 87, f 88, f 89, f 90, f 91, f 92, f 93, f 94, f 95, f 96, f 97, f 98], []⟩
def slotC (a : Act) (i : Nat) : Value := a.tmps.toList.getD i undef
def IsC (a : Act) : Prop := a = CF (slotC a)
def loopsC : Code → List Code
  | .loop c => c :: loopsC c
  | .seq a b => loopsC a ++ loopsC b
  | .block _ c => loopsC c
  | .scope c => loopsC c
  | .cond _ a b => loopsC a ++ loopsC b
  | _ => []
def lpC (b : Option Code) (i : Nat) : Code := (loopsC (b.getD .skip)).getD i .skip

theorem bit_and {s : Int} (h0 : 0 ≤ s) (h1 : s ≤ 18446744073709551615) (k : Nat) : (bits BinOp.and IntKind.u64 (s / 2 ^ k) 1 == 1) = bitAt s k := by
  have hp : (0 : Int) < 2 ^ k := Int.pow_pos (by decide)
  rw [and_one_u64 _ (Int.ediv_nonneg h0 (Int.le_of_lt hp)) (Int.le_trans (Int.ediv_le_self _ h0) h1)]
  rfl
/-- What stands behind the copy of a change. -/
theorem box_row {w : World} {c0 c1 c2 c3 : Value} : (w.alloc (.cells #[c0, c1, c2, c3] 137)).heap[w.heap.size]? = some (.cells #[c0, c1, c2, c3] 137 (0, 0)) := heap_alloc_new w _

set_option maxHeartbeats 2000000 in
set_option maxRecDepth 100000 in
theorem crash_a1 {O : Nat → Prop} {g : Nat} {m : DM} {bv : Nat → Value} {wv : Value} {ws : List (DChg × Value)} (fr : Act) (b o n cw i first nx kx : Nat) (Ax : Option Addr) (s torn : Int) (c : DChg) (w : World) (Q : Exit → Act → World → Prop) (hfr : IsC fr)
    (h0 : slotC fr 0 = .pointer (some ⟨g, 0, none⟩)) (h1 : slotC fr 1 = .int .i64 (first : Int)) (h2 : slotC fr 2 = .int .u64 s) (h3 : slotC fr 3 = .int .i64 torn) (h22 : slotC fr 22 = .slice (some ⟨b, o, none⟩) n cw) (h23 : slotC fr 23 = .int .i64 (n : Int)) (h24 : slotC fr 24 = .int .i64 (i : Int))
    (hi : i < n) (hn : n ≤ 1000) (hf : first ≤ n) (hs0 : 0 ≤ s) (hs1 : s ≤ 18446744073709551615) (hif : i < first)
    (c0 : w.cell? ⟨b, o + i * 4, none⟩ = some (.int .i64 (c.area : Int))) (c1 : w.cell? ⟨b, o + i * 4 + 1, none⟩ = some (.int .i64 (c.pos : Int))) (c2 : w.cell? ⟨b, o + i * 4 + 2, none⟩ = some (.slice Ax nx kx)) (c3 : w.cell? ⟨b, o + i * 4 + 3, none⟩ = some (.bool c.cuts))
    (h : DiskV w O g m bv wv ws) (hbx : ¬ O w.heap.size) (hok : m.Ok) (hca : c.area < 3) (hp : c.pos + c.bytes.length ≤ 1048576) (hx : OB w 0 (.slice Ax nx kx) c.bytes) (hnx : c.bytes.length = nx) (hxa : ∀ i, i < 6 → ∀ q, (Value.slice Ax nx kx).ownBlock = some q → (bv i).ownBlock ≠ some q)
    (hQ : ∀ (fr' : Act) (w' : World) (bv' : Nat → Value), IsC fr' → slotC fr' 0 = .pointer (some ⟨g, 0, none⟩) → slotC fr' 1 = .int .i64 (first : Int) → slotC fr' 2 = .int .u64 s → slotC fr' 3 = .int .i64 torn → slotC fr' 22 = .slice (some ⟨b, o, none⟩) n cw → slotC fr' 23 = .int .i64 (n : Int) → slotC fr' 24 = .int .i64 ((i + 1 : Nat) : Int) →
      DiskV w' (ext O w w') g { m with b := updB m.b c.area (doB (m.b c.area) c) } bv' wv ws → Fr O w w' → Q .normal fr' w') :
    Code.wp Tryd.prog (lpC Tryd.f26.body 0) Q fr w := by
  have hu := And.intro hs0 (And.intro hs1 (And.intro hnx (And.intro hf (And.intro hca hp))))
  clear hu
  have HQ := Lib.hid hQ
  have HX := Lib.hid hx
  have HXA := Lib.hid hxa
  have HK := Lib.hid hok
  have HBX := Lib.hid hbx
  have HV := Lib.hid h
  have q1 : decide ((i : Int) - (first : Int) < 0) = true := decide_eq_true (by omega)
  have D0 := (Below.refl w.heap.size w).alloc (Nat.le_refl _) (.cells #[.int .i64 (c.area : Int), .int .i64 (c.pos : Int), .slice Ax nx kx, .bool c.cuts] 137)
  have HD := Lib.hid D0
  clear hQ hx hxa hok hbx h D0
  unfold IsC at hfr
  generalize slotC fr = f at *
  subst hfr
  unfold CF
  rw [h0, h1, h2, h3, h22, h23, h24]
  conv => arg 2; whnf
  clear h0 h1 h2 h3 h22 h23 h24
  go_wp2_with fail
  obtain ⟨wB, hwB⟩ : ∃ W, W = w.alloc (.cells #[.int .i64 (c.area : Int), .int .i64 (c.pos : Int), .slice Ax nx kx, .bool c.cuts] 137) := ⟨_, rfl⟩
  rw [← hwB]
  have VB : Hid (DiskV wB O g m bv wv ws) := Lib.hid (by rw [hwB]; exact HV.out.below HD.out)
  have XB : Hid (OB wB 0 (.slice Ax nx kx) c.bytes) := Lib.hid (by rw [hwB]; exact OB.below HX.out HD.out)
  have BB : Hid (Below w.heap.size w wB) := Lib.hid (by rw [hwB]; exact HD.out)
  have SB : Hid (w.heap.size < wB.heap.size) := Lib.hid (by rw [hwB]; simp)
  have t0 : wB.cell? ⟨w.heap.size, 0, none⟩ = some (.int .i64 (c.area : Int)) := by rw [hwB]; exact cell_of_row _ _ 0 _ _ _ box_row
  have t1 : wB.cell? ⟨w.heap.size, 1, none⟩ = some (.int .i64 (c.pos : Int)) := by rw [hwB]; exact cell_of_row _ _ 1 _ _ _ box_row
  have t2 : wB.cell? ⟨w.heap.size, 2, none⟩ = some (.slice Ax nx kx) := by rw [hwB]; exact cell_of_row _ _ 2 _ _ _ box_row
  have t3 : wB.cell? ⟨w.heap.size, 3, none⟩ = some (.bool c.cuts) := by rw [hwB]; exact cell_of_row _ _ 3 _ _ _ box_row
  have HT : Hid (∀ w5, Fr O wB w5 → ∀ j, w5.cell? ⟨w.heap.size, j, none⟩ = wB.cell? ⟨w.heap.size, j, none⟩) := Lib.hid fun w5 hf j => hf.cell (p := ⟨w.heap.size, j, none⟩) SB.out HBX.out
  clear hwB c0 c1 c2 c3
  go_region_held3 (fun w' => w'.cell? ⟨w.heap.size, 0, none⟩ = wB.cell? ⟨w.heap.size, 0, none⟩ ∧ w'.cell? ⟨w.heap.size, 1, none⟩ = wB.cell? ⟨w.heap.size, 1, none⟩ ∧ w'.cell? ⟨w.heap.size, 2, none⟩ = wB.cell? ⟨w.heap.size, 2, none⟩ ∧ w'.cell? ⟨w.heap.size, 3, none⟩ = wB.cell? ⟨w.heap.size, 3, none⟩) (go_keep)
    (first | (go_at_call 79; refine (do_any g 1 c.area c (.slice Ax nx kx) _ HK.out O bv _ _ wB.drew (VB.out.below (below_d1 (Below.refl _ _))) (.inl rfl) rfl hca hp (OwnS.drew XB.out) (HXA.out (1 - 1 + c.area) (by omega))).mono ?_; rintro e w5 ⟨rfl, bv5, hv5, hf5⟩; replace hf5 := Fr.undrew hf5; have k0 := HT.out w5 hf5 0; have k1 := HT.out w5 hf5 1; have k2 := HT.out w5 hf5 2; have k3 := HT.out w5 hf5 3; replace hv5 := Lib.hid hv5; replace hf5 := Lib.hid hf5))
  go_wp2
  have hv6 := hv5.out
  rw [show 1 - 1 + c.area = c.area by omega] at hv6
  exact HQ.out _ _ bv5 rfl rfl rfl rfl rfl rfl rfl rfl (hv6.mono fun q hq ho => ho.imp id fun ho => ⟨Nat.le_trans BB.out.size ho.1, hq⟩) ((Fr.of_below BB.out).trans hf5.out fun _ _ h => h)

set_option maxHeartbeats 2000000 in
set_option maxRecDepth 100000 in
theorem crash_a2 {O : Nat → Prop} {g : Nat} {m : DM} {bv : Nat → Value} {wv : Value} {ws : List (DChg × Value)} (fr : Act) (b o n cw i first nx kx : Nat) (Ax : Option Addr) (s torn : Int) (c : DChg) (w : World) (Q : Exit → Act → World → Prop) (hfr : IsC fr)
    (h0 : slotC fr 0 = .pointer (some ⟨g, 0, none⟩)) (h1 : slotC fr 1 = .int .i64 (first : Int)) (h2 : slotC fr 2 = .int .u64 s) (h3 : slotC fr 3 = .int .i64 torn) (h22 : slotC fr 22 = .slice (some ⟨b, o, none⟩) n cw) (h23 : slotC fr 23 = .int .i64 (n : Int)) (h24 : slotC fr 24 = .int .i64 (i : Int))
    (hi : i < n) (hn : n ≤ 1000) (hf : first ≤ n) (hs0 : 0 ≤ s) (hs1 : s ≤ 18446744073709551615) (hif : first ≤ i) (hi63 : i - first < 63) (hbit : bitAt s (i - first) = true)
    (c0 : w.cell? ⟨b, o + i * 4, none⟩ = some (.int .i64 (c.area : Int))) (c1 : w.cell? ⟨b, o + i * 4 + 1, none⟩ = some (.int .i64 (c.pos : Int))) (c2 : w.cell? ⟨b, o + i * 4 + 2, none⟩ = some (.slice Ax nx kx)) (c3 : w.cell? ⟨b, o + i * 4 + 3, none⟩ = some (.bool c.cuts))
    (h : DiskV w O g m bv wv ws) (hbx : ¬ O w.heap.size) (hok : m.Ok) (hca : c.area < 3) (hp : c.pos + c.bytes.length ≤ 1048576) (hx : OB w 0 (.slice Ax nx kx) c.bytes) (hnx : c.bytes.length = nx) (hxa : ∀ i, i < 6 → ∀ q, (Value.slice Ax nx kx).ownBlock = some q → (bv i).ownBlock ≠ some q)
    (hQ : ∀ (fr' : Act) (w' : World) (bv' : Nat → Value), IsC fr' → slotC fr' 0 = .pointer (some ⟨g, 0, none⟩) → slotC fr' 1 = .int .i64 (first : Int) → slotC fr' 2 = .int .u64 s → slotC fr' 3 = .int .i64 torn → slotC fr' 22 = .slice (some ⟨b, o, none⟩) n cw → slotC fr' 23 = .int .i64 (n : Int) → slotC fr' 24 = .int .i64 ((i + 1 : Nat) : Int) →
      DiskV w' (ext O w w') g { m with b := updB m.b c.area (doB (m.b c.area) c) } bv' wv ws → Fr O w w' → Q .normal fr' w') :
    Code.wp Tryd.prog (lpC Tryd.f26.body 0) Q fr w := by
  have hu := And.intro hs0 (And.intro hs1 (And.intro hnx (And.intro hf (And.intro hca hp))))
  clear hu
  have HQ := Lib.hid hQ
  have HX := Lib.hid hx
  have HXA := Lib.hid hxa
  have HK := Lib.hid hok
  have HBX := Lib.hid hbx
  have HV := Lib.hid h
  have q1 : decide ((i : Int) - (first : Int) < 0) = false := decide_eq_false (by omega)
  have q2 : decide ((i : Int) - (first : Int) < 63) = true := decide_eq_true (by omega)
  have q2a : ((i : Int) - (first : Int)).toNat = i - first := by omega
  have q2b : (0 : Int) ≤ (i : Int) - (first : Int) := by omega
  have q3 : (bits BinOp.and IntKind.u64 (s / 2 ^ (i - first)) 1 == 1) = true := (bit_and hs0 hs1 _).trans hbit
  have D0 := (Below.refl w.heap.size w).alloc (Nat.le_refl _) (.cells #[.int .i64 (c.area : Int), .int .i64 (c.pos : Int), .slice Ax nx kx, .bool c.cuts] 137)
  have HD := Lib.hid D0
  clear hQ hx hxa hok hbx h D0
  unfold IsC at hfr
  generalize slotC fr = f at *
  subst hfr
  unfold CF
  rw [h0, h1, h2, h3, h22, h23, h24]
  conv => arg 2; whnf
  clear h0 h1 h2 h3 h22 h23 h24
  go_wp2_with fail
  obtain ⟨wB, hwB⟩ : ∃ W, W = w.alloc (.cells #[.int .i64 (c.area : Int), .int .i64 (c.pos : Int), .slice Ax nx kx, .bool c.cuts] 137) := ⟨_, rfl⟩
  rw [← hwB]
  have VB : Hid (DiskV wB O g m bv wv ws) := Lib.hid (by rw [hwB]; exact HV.out.below HD.out)
  have XB : Hid (OB wB 0 (.slice Ax nx kx) c.bytes) := Lib.hid (by rw [hwB]; exact OB.below HX.out HD.out)
  have BB : Hid (Below w.heap.size w wB) := Lib.hid (by rw [hwB]; exact HD.out)
  have SB : Hid (w.heap.size < wB.heap.size) := Lib.hid (by rw [hwB]; simp)
  have t0 : wB.cell? ⟨w.heap.size, 0, none⟩ = some (.int .i64 (c.area : Int)) := by rw [hwB]; exact cell_of_row _ _ 0 _ _ _ box_row
  have t1 : wB.cell? ⟨w.heap.size, 1, none⟩ = some (.int .i64 (c.pos : Int)) := by rw [hwB]; exact cell_of_row _ _ 1 _ _ _ box_row
  have t2 : wB.cell? ⟨w.heap.size, 2, none⟩ = some (.slice Ax nx kx) := by rw [hwB]; exact cell_of_row _ _ 2 _ _ _ box_row
  have t3 : wB.cell? ⟨w.heap.size, 3, none⟩ = some (.bool c.cuts) := by rw [hwB]; exact cell_of_row _ _ 3 _ _ _ box_row
  have HT : Hid (∀ w5, Fr O wB w5 → ∀ j, w5.cell? ⟨w.heap.size, j, none⟩ = wB.cell? ⟨w.heap.size, j, none⟩) := Lib.hid fun w5 hf j => hf.cell (p := ⟨w.heap.size, j, none⟩) SB.out HBX.out
  clear hwB c0 c1 c2 c3
  go_region_held3 (fun w' => w'.cell? ⟨w.heap.size, 0, none⟩ = wB.cell? ⟨w.heap.size, 0, none⟩ ∧ w'.cell? ⟨w.heap.size, 1, none⟩ = wB.cell? ⟨w.heap.size, 1, none⟩ ∧ w'.cell? ⟨w.heap.size, 2, none⟩ = wB.cell? ⟨w.heap.size, 2, none⟩ ∧ w'.cell? ⟨w.heap.size, 3, none⟩ = wB.cell? ⟨w.heap.size, 3, none⟩) (go_keep)
    (first | (go_at_call 79; refine (do_any g 1 c.area c (.slice Ax nx kx) _ HK.out O bv _ _ wB.drew (VB.out.below (below_d1 (Below.refl _ _))) (.inl rfl) rfl hca hp (OwnS.drew XB.out) (HXA.out (1 - 1 + c.area) (by omega))).mono ?_; rintro e w5 ⟨rfl, bv5, hv5, hf5⟩; replace hf5 := Fr.undrew hf5; have k0 := HT.out w5 hf5 0; have k1 := HT.out w5 hf5 1; have k2 := HT.out w5 hf5 2; have k3 := HT.out w5 hf5 3; replace hv5 := Lib.hid hv5; replace hf5 := Lib.hid hf5))
  go_wp2
  have hv6 := hv5.out
  rw [show 1 - 1 + c.area = c.area by omega] at hv6
  exact HQ.out _ _ bv5 rfl rfl rfl rfl rfl rfl rfl rfl (hv6.mono fun q hq ho => ho.imp id fun ho => ⟨Nat.le_trans BB.out.size ho.1, hq⟩) ((Fr.of_below BB.out).trans hf5.out fun _ _ h => h)

set_option maxHeartbeats 2000000 in
set_option maxRecDepth 100000 in
theorem crash_c1 {O : Nat → Prop} {g : Nat} {m : DM} {bv : Nat → Value} {wv : Value} {ws : List (DChg × Value)} (fr : Act) (b o n cw i first nx kx : Nat) (Ax : Option Addr) (s torn : Int) (c : DChg) (w : World) (Q : Exit → Act → World → Prop) (hfr : IsC fr)
    (h0 : slotC fr 0 = .pointer (some ⟨g, 0, none⟩)) (h1 : slotC fr 1 = .int .i64 (first : Int)) (h2 : slotC fr 2 = .int .u64 s) (h3 : slotC fr 3 = .int .i64 torn) (h22 : slotC fr 22 = .slice (some ⟨b, o, none⟩) n cw) (h23 : slotC fr 23 = .int .i64 (n : Int)) (h24 : slotC fr 24 = .int .i64 (i : Int))
    (hi : i < n) (hn : n ≤ 1000) (hf : first ≤ n) (hs0 : 0 ≤ s) (hs1 : s ≤ 18446744073709551615) (hif : first < i) (hi63 : i - first < 63) (hbit : bitAt s (i - first) = false)
    (c0 : w.cell? ⟨b, o + i * 4, none⟩ = some (.int .i64 (c.area : Int))) (c1 : w.cell? ⟨b, o + i * 4 + 1, none⟩ = some (.int .i64 (c.pos : Int))) (c2 : w.cell? ⟨b, o + i * 4 + 2, none⟩ = some (.slice Ax nx kx)) (c3 : w.cell? ⟨b, o + i * 4 + 3, none⟩ = some (.bool c.cuts))
    (h : DiskV w O g m bv wv ws) (hbx : ¬ O w.heap.size) (hok : m.Ok) (hca : c.area < 3) (hp : c.pos + c.bytes.length ≤ 1048576) (hx : OB w 0 (.slice Ax nx kx) c.bytes) (hnx : c.bytes.length = nx) (hxa : ∀ i, i < 6 → ∀ q, (Value.slice Ax nx kx).ownBlock = some q → (bv i).ownBlock ≠ some q)
    (hQ : ∀ (fr' : Act) (w' : World) (bv' : Nat → Value), IsC fr' → slotC fr' 0 = .pointer (some ⟨g, 0, none⟩) → slotC fr' 1 = .int .i64 (first : Int) → slotC fr' 2 = .int .u64 s → slotC fr' 3 = .int .i64 torn → slotC fr' 22 = .slice (some ⟨b, o, none⟩) n cw → slotC fr' 23 = .int .i64 (n : Int) → slotC fr' 24 = .int .i64 ((i + 1 : Nat) : Int) →
      DiskV w' (ext O w w') g { m with b := m.b } bv' wv ws → Fr O w w' → Q .normal fr' w') :
    Code.wp Tryd.prog (lpC Tryd.f26.body 0) Q fr w := by
  have hu := And.intro hs0 (And.intro hs1 (And.intro hnx (And.intro hf (And.intro hca hp))))
  clear hu
  have HQ := Lib.hid hQ
  have HX := Lib.hid hx
  have HXA := Lib.hid hxa
  have HK := Lib.hid hok
  have HBX := Lib.hid hbx
  have HV := Lib.hid h
  have q1 : decide ((i : Int) - (first : Int) < 0) = false := decide_eq_false (by omega)
  have q2 : decide ((i : Int) - (first : Int) < 63) = true := decide_eq_true (by omega)
  have q2a : ((i : Int) - (first : Int)).toNat = i - first := by omega
  have q2b : (0 : Int) ≤ (i : Int) - (first : Int) := by omega
  have q3 : (bits BinOp.and IntKind.u64 (s / 2 ^ (i - first)) 1 == 1) = false := (bit_and hs0 hs1 _).trans hbit
  have q4 : ((i : Int) - (first : Int) == 0) = false := beq_eq_false_iff_ne.2 (by omega)
  have D0 := (Below.refl w.heap.size w).alloc (Nat.le_refl _) (.cells #[.int .i64 (c.area : Int), .int .i64 (c.pos : Int), .slice Ax nx kx, .bool c.cuts] 137)
  have HD := Lib.hid D0
  clear hQ hx hxa hok hbx h D0
  unfold IsC at hfr
  generalize slotC fr = f at *
  subst hfr
  unfold CF
  rw [h0, h1, h2, h3, h22, h23, h24]
  conv => arg 2; whnf
  clear h0 h1 h2 h3 h22 h23 h24
  go_wp2_with fail
  exact HQ.out _ _ bv rfl rfl rfl rfl rfl rfl rfl rfl ((HV.out.below HD.out).mono fun _ _ ho => .inl ho) (Fr.of_below HD.out)

set_option maxHeartbeats 2000000 in
set_option maxRecDepth 100000 in
theorem crash_c2 {O : Nat → Prop} {g : Nat} {m : DM} {bv : Nat → Value} {wv : Value} {ws : List (DChg × Value)} (fr : Act) (b o n cw i first nx kx : Nat) (Ax : Option Addr) (s torn : Int) (c : DChg) (w : World) (Q : Exit → Act → World → Prop) (hfr : IsC fr)
    (h0 : slotC fr 0 = .pointer (some ⟨g, 0, none⟩)) (h1 : slotC fr 1 = .int .i64 (first : Int)) (h2 : slotC fr 2 = .int .u64 s) (h3 : slotC fr 3 = .int .i64 torn) (h22 : slotC fr 22 = .slice (some ⟨b, o, none⟩) n cw) (h23 : slotC fr 23 = .int .i64 (n : Int)) (h24 : slotC fr 24 = .int .i64 (i : Int))
    (hi : i < n) (hn : n ≤ 1000) (hf : first ≤ n) (hs0 : 0 ≤ s) (hs1 : s ≤ 18446744073709551615) (hif : first + 63 ≤ i)
    (c0 : w.cell? ⟨b, o + i * 4, none⟩ = some (.int .i64 (c.area : Int))) (c1 : w.cell? ⟨b, o + i * 4 + 1, none⟩ = some (.int .i64 (c.pos : Int))) (c2 : w.cell? ⟨b, o + i * 4 + 2, none⟩ = some (.slice Ax nx kx)) (c3 : w.cell? ⟨b, o + i * 4 + 3, none⟩ = some (.bool c.cuts))
    (h : DiskV w O g m bv wv ws) (hbx : ¬ O w.heap.size) (hok : m.Ok) (hca : c.area < 3) (hp : c.pos + c.bytes.length ≤ 1048576) (hx : OB w 0 (.slice Ax nx kx) c.bytes) (hnx : c.bytes.length = nx) (hxa : ∀ i, i < 6 → ∀ q, (Value.slice Ax nx kx).ownBlock = some q → (bv i).ownBlock ≠ some q)
    (hQ : ∀ (fr' : Act) (w' : World) (bv' : Nat → Value), IsC fr' → slotC fr' 0 = .pointer (some ⟨g, 0, none⟩) → slotC fr' 1 = .int .i64 (first : Int) → slotC fr' 2 = .int .u64 s → slotC fr' 3 = .int .i64 torn → slotC fr' 22 = .slice (some ⟨b, o, none⟩) n cw → slotC fr' 23 = .int .i64 (n : Int) → slotC fr' 24 = .int .i64 ((i + 1 : Nat) : Int) →
      DiskV w' (ext O w w') g { m with b := m.b } bv' wv ws → Fr O w w' → Q .normal fr' w') :
    Code.wp Tryd.prog (lpC Tryd.f26.body 0) Q fr w := by
  have hu := And.intro hs0 (And.intro hs1 (And.intro hnx (And.intro hf (And.intro hca hp))))
  clear hu
  have HQ := Lib.hid hQ
  have HX := Lib.hid hx
  have HXA := Lib.hid hxa
  have HK := Lib.hid hok
  have HBX := Lib.hid hbx
  have HV := Lib.hid h
  have q1 : decide ((i : Int) - (first : Int) < 0) = false := decide_eq_false (by omega)
  have q2 : decide ((i : Int) - (first : Int) < 63) = false := decide_eq_false (by omega)
  have q4 : ((i : Int) - (first : Int) == 0) = false := beq_eq_false_iff_ne.2 (by omega)
  have D0 := (Below.refl w.heap.size w).alloc (Nat.le_refl _) (.cells #[.int .i64 (c.area : Int), .int .i64 (c.pos : Int), .slice Ax nx kx, .bool c.cuts] 137)
  have HD := Lib.hid D0
  clear hQ hx hxa hok hbx h D0
  unfold IsC at hfr
  generalize slotC fr = f at *
  subst hfr
  unfold CF
  rw [h0, h1, h2, h3, h22, h23, h24]
  conv => arg 2; whnf
  clear h0 h1 h2 h3 h22 h23 h24
  go_wp2_with fail
  exact HQ.out _ _ bv rfl rfl rfl rfl rfl rfl rfl rfl ((HV.out.below HD.out).mono fun _ _ ho => .inl ho) (Fr.of_below HD.out)

set_option maxHeartbeats 2000000 in
set_option maxRecDepth 100000 in
theorem crash_c3 {O : Nat → Prop} {g : Nat} {m : DM} {bv : Nat → Value} {wv : Value} {ws : List (DChg × Value)} (fr : Act) (b o n cw i first nx kx : Nat) (Ax : Option Addr) (s torn : Int) (c : DChg) (w : World) (Q : Exit → Act → World → Prop) (hfr : IsC fr)
    (h0 : slotC fr 0 = .pointer (some ⟨g, 0, none⟩)) (h1 : slotC fr 1 = .int .i64 (first : Int)) (h2 : slotC fr 2 = .int .u64 s) (h3 : slotC fr 3 = .int .i64 torn) (h22 : slotC fr 22 = .slice (some ⟨b, o, none⟩) n cw) (h23 : slotC fr 23 = .int .i64 (n : Int)) (h24 : slotC fr 24 = .int .i64 (i : Int))
    (hi : i < n) (hn : n ≤ 1000) (hf : first ≤ n) (hs0 : 0 ≤ s) (hs1 : s ≤ 18446744073709551615) (hif : i = first) (hbit : bitAt s 0 = false) (hcut : c.cuts = true)
    (c0 : w.cell? ⟨b, o + i * 4, none⟩ = some (.int .i64 (c.area : Int))) (c1 : w.cell? ⟨b, o + i * 4 + 1, none⟩ = some (.int .i64 (c.pos : Int))) (c2 : w.cell? ⟨b, o + i * 4 + 2, none⟩ = some (.slice Ax nx kx)) (c3 : w.cell? ⟨b, o + i * 4 + 3, none⟩ = some (.bool c.cuts))
    (h : DiskV w O g m bv wv ws) (hbx : ¬ O w.heap.size) (hok : m.Ok) (hca : c.area < 3) (hp : c.pos + c.bytes.length ≤ 1048576) (hx : OB w 0 (.slice Ax nx kx) c.bytes) (hnx : c.bytes.length = nx) (hxa : ∀ i, i < 6 → ∀ q, (Value.slice Ax nx kx).ownBlock = some q → (bv i).ownBlock ≠ some q)
    (hQ : ∀ (fr' : Act) (w' : World) (bv' : Nat → Value), IsC fr' → slotC fr' 0 = .pointer (some ⟨g, 0, none⟩) → slotC fr' 1 = .int .i64 (first : Int) → slotC fr' 2 = .int .u64 s → slotC fr' 3 = .int .i64 torn → slotC fr' 22 = .slice (some ⟨b, o, none⟩) n cw → slotC fr' 23 = .int .i64 (n : Int) → slotC fr' 24 = .int .i64 ((i + 1 : Nat) : Int) →
      DiskV w' (ext O w w') g { m with b := m.b } bv' wv ws → Fr O w w' → Q .normal fr' w') :
    Code.wp Tryd.prog (lpC Tryd.f26.body 0) Q fr w := by
  have hu := And.intro hs0 (And.intro hs1 (And.intro hnx (And.intro hf (And.intro hca hp))))
  clear hu
  have HQ := Lib.hid hQ
  have HX := Lib.hid hx
  have HXA := Lib.hid hxa
  have HK := Lib.hid hok
  have HBX := Lib.hid hbx
  have HV := Lib.hid h
  obtain ⟨ca, cpos, cb, cc⟩ := c
  dsimp only at hcut hca hp hnx c0 c1 c2 c3 HX HQ
  subst hcut
  subst hif
  have q3 : (bits BinOp.and IntKind.u64 s 1 == 1) = false := by have := bit_and hs0 hs1 0; rw [hbit] at this; simpa using this
  obtain ⟨_, _, e9, hkx, hkm, _⟩ := OB.form HX.out
  injection e9 with e9a e9b e9c
  subst e9c
  rw [hnx] at hkx
  clear e9a e9b
  have D0 := (Below.refl w.heap.size w).alloc (Nat.le_refl _) (.cells #[.int .i64 (ca : Int), .int .i64 (cpos : Int), .slice Ax nx kx, .bool true] 137)
  have HD := Lib.hid D0
  clear hQ hx hxa hok hbx h D0
  unfold IsC at hfr
  generalize slotC fr = f at *
  subst hfr
  unfold CF
  rw [h0, h1, h2, h3, h22, h23, h24]
  conv => arg 2; whnf
  clear h0 h1 h2 h3 h22 h23 h24
  go_wp2_with fail
  exact HQ.out _ _ bv rfl rfl rfl rfl rfl rfl rfl rfl ((HV.out.below HD.out).mono fun _ _ ho => .inl ho) (Fr.of_below HD.out)

set_option maxHeartbeats 2000000 in
set_option maxRecDepth 100000 in
theorem crash_c4 {O : Nat → Prop} {g : Nat} {m : DM} {bv : Nat → Value} {wv : Value} {ws : List (DChg × Value)} (fr : Act) (b o n cw i first nx kx : Nat) (Ax : Option Addr) (s torn : Int) (c : DChg) (w : World) (Q : Exit → Act → World → Prop) (hfr : IsC fr)
    (h0 : slotC fr 0 = .pointer (some ⟨g, 0, none⟩)) (h1 : slotC fr 1 = .int .i64 (first : Int)) (h2 : slotC fr 2 = .int .u64 s) (h3 : slotC fr 3 = .int .i64 torn) (h22 : slotC fr 22 = .slice (some ⟨b, o, none⟩) n cw) (h23 : slotC fr 23 = .int .i64 (n : Int)) (h24 : slotC fr 24 = .int .i64 (i : Int))
    (hi : i < n) (hn : n ≤ 1000) (hf : first ≤ n) (hs0 : 0 ≤ s) (hs1 : s ≤ 18446744073709551615) (hif : i = first) (hbit : bitAt s 0 = false) (hcut : c.cuts = false) (ht : torn ≤ 0)
    (c0 : w.cell? ⟨b, o + i * 4, none⟩ = some (.int .i64 (c.area : Int))) (c1 : w.cell? ⟨b, o + i * 4 + 1, none⟩ = some (.int .i64 (c.pos : Int))) (c2 : w.cell? ⟨b, o + i * 4 + 2, none⟩ = some (.slice Ax nx kx)) (c3 : w.cell? ⟨b, o + i * 4 + 3, none⟩ = some (.bool c.cuts))
    (h : DiskV w O g m bv wv ws) (hbx : ¬ O w.heap.size) (hok : m.Ok) (hca : c.area < 3) (hp : c.pos + c.bytes.length ≤ 1048576) (hx : OB w 0 (.slice Ax nx kx) c.bytes) (hnx : c.bytes.length = nx) (hxa : ∀ i, i < 6 → ∀ q, (Value.slice Ax nx kx).ownBlock = some q → (bv i).ownBlock ≠ some q)
    (hQ : ∀ (fr' : Act) (w' : World) (bv' : Nat → Value), IsC fr' → slotC fr' 0 = .pointer (some ⟨g, 0, none⟩) → slotC fr' 1 = .int .i64 (first : Int) → slotC fr' 2 = .int .u64 s → slotC fr' 3 = .int .i64 torn → slotC fr' 22 = .slice (some ⟨b, o, none⟩) n cw → slotC fr' 23 = .int .i64 (n : Int) → slotC fr' 24 = .int .i64 ((i + 1 : Nat) : Int) →
      DiskV w' (ext O w w') g { m with b := m.b } bv' wv ws → Fr O w w' → Q .normal fr' w') :
    Code.wp Tryd.prog (lpC Tryd.f26.body 0) Q fr w := by
  have hu := And.intro hs0 (And.intro hs1 (And.intro hnx (And.intro hf (And.intro hca hp))))
  clear hu
  have HQ := Lib.hid hQ
  have HX := Lib.hid hx
  have HXA := Lib.hid hxa
  have HK := Lib.hid hok
  have HBX := Lib.hid hbx
  have HV := Lib.hid h
  obtain ⟨ca, cpos, cb, cc⟩ := c
  dsimp only at hcut hca hp hnx c0 c1 c2 c3 HX HQ
  subst hcut
  subst hif
  have q3 : (bits BinOp.and IntKind.u64 s 1 == 1) = false := by have := bit_and hs0 hs1 0; rw [hbit] at this; simpa using this
  obtain ⟨_, _, e9, hkx, hkm, _⟩ := OB.form HX.out
  injection e9 with e9a e9b e9c
  subst e9c
  rw [hnx] at hkx
  clear e9a e9b
  have qa : ((nx : Int) < torn) = False := eq_false (by omega)
  have qb : (0 < torn) = False := eq_false (by omega)
  have D0 := (Below.refl w.heap.size w).alloc (Nat.le_refl _) (.cells #[.int .i64 (ca : Int), .int .i64 (cpos : Int), .slice Ax 0 kx, .bool false] 137)
  have HD := Lib.hid D0
  clear hQ hx hxa hok hbx h D0
  unfold IsC at hfr
  generalize slotC fr = f at *
  subst hfr
  unfold CF
  rw [h0, h1, h2, h3, h22, h23, h24]
  conv => arg 2; whnf
  clear h0 h1 h2 h3 h22 h23 h24
  go_wp2_with fail
  exact HQ.out _ _ bv rfl rfl rfl rfl rfl rfl rfl rfl ((HV.out.below HD.out).mono fun _ _ ho => .inl ho) (Fr.of_below HD.out)

set_option maxHeartbeats 2000000 in
set_option maxRecDepth 100000 in
theorem crash_c5 {O : Nat → Prop} {g : Nat} {m : DM} {bv : Nat → Value} {wv : Value} {ws : List (DChg × Value)} (fr : Act) (b o n cw i first nx kx : Nat) (Ax : Option Addr) (s torn : Int) (c : DChg) (w : World) (Q : Exit → Act → World → Prop) (hfr : IsC fr)
    (h0 : slotC fr 0 = .pointer (some ⟨g, 0, none⟩)) (h1 : slotC fr 1 = .int .i64 (first : Int)) (h2 : slotC fr 2 = .int .u64 s) (h3 : slotC fr 3 = .int .i64 torn) (h22 : slotC fr 22 = .slice (some ⟨b, o, none⟩) n cw) (h23 : slotC fr 23 = .int .i64 (n : Int)) (h24 : slotC fr 24 = .int .i64 (i : Int))
    (hi : i < n) (hn : n ≤ 1000) (hf : first ≤ n) (hs0 : 0 ≤ s) (hs1 : s ≤ 18446744073709551615) (hif : i = first) (hbit : bitAt s 0 = false) (hcut : c.cuts = false) (ht : 0 < torn) (hz : nx = 0)
    (c0 : w.cell? ⟨b, o + i * 4, none⟩ = some (.int .i64 (c.area : Int))) (c1 : w.cell? ⟨b, o + i * 4 + 1, none⟩ = some (.int .i64 (c.pos : Int))) (c2 : w.cell? ⟨b, o + i * 4 + 2, none⟩ = some (.slice Ax nx kx)) (c3 : w.cell? ⟨b, o + i * 4 + 3, none⟩ = some (.bool c.cuts))
    (h : DiskV w O g m bv wv ws) (hbx : ¬ O w.heap.size) (hok : m.Ok) (hca : c.area < 3) (hp : c.pos + c.bytes.length ≤ 1048576) (hx : OB w 0 (.slice Ax nx kx) c.bytes) (hnx : c.bytes.length = nx) (hxa : ∀ i, i < 6 → ∀ q, (Value.slice Ax nx kx).ownBlock = some q → (bv i).ownBlock ≠ some q)
    (hQ : ∀ (fr' : Act) (w' : World) (bv' : Nat → Value), IsC fr' → slotC fr' 0 = .pointer (some ⟨g, 0, none⟩) → slotC fr' 1 = .int .i64 (first : Int) → slotC fr' 2 = .int .u64 s → slotC fr' 3 = .int .i64 torn → slotC fr' 22 = .slice (some ⟨b, o, none⟩) n cw → slotC fr' 23 = .int .i64 (n : Int) → slotC fr' 24 = .int .i64 ((i + 1 : Nat) : Int) →
      DiskV w' (ext O w w') g { m with b := m.b } bv' wv ws → Fr O w w' → Q .normal fr' w') :
    Code.wp Tryd.prog (lpC Tryd.f26.body 0) Q fr w := by
  have hu := And.intro hs0 (And.intro hs1 (And.intro hnx (And.intro hf (And.intro hca hp))))
  clear hu
  have HQ := Lib.hid hQ
  have HX := Lib.hid hx
  have HXA := Lib.hid hxa
  have HK := Lib.hid hok
  have HBX := Lib.hid hbx
  have HV := Lib.hid h
  obtain ⟨ca, cpos, cb, cc⟩ := c
  dsimp only at hcut hca hp hnx c0 c1 c2 c3 HX HQ
  subst hcut
  subst hif
  have q3 : (bits BinOp.and IntKind.u64 s 1 == 1) = false := by have := bit_and hs0 hs1 0; rw [hbit] at this; simpa using this
  obtain ⟨_, _, e9, hkx, hkm, _⟩ := OB.form HX.out
  injection e9 with e9a e9b e9c
  subst e9c
  rw [hnx] at hkx
  clear e9a e9b
  subst hz
  have qa : ((0 : Int) < torn) = True := eq_true (by omega)
  have D0 := (Below.refl w.heap.size w).alloc (Nat.le_refl _) (.cells #[.int .i64 (ca : Int), .int .i64 (cpos : Int), .slice Ax 0 kx, .bool false] 137)
  have HD := Lib.hid D0
  clear hQ hx hxa hok hbx h D0
  unfold IsC at hfr
  generalize slotC fr = f at *
  subst hfr
  unfold CF
  rw [h0, h1, h2, h3, h22, h23, h24]
  conv => arg 2; whnf
  clear h0 h1 h2 h3 h22 h23 h24
  go_wp2_with fail
  exact HQ.out _ _ bv rfl rfl rfl rfl rfl rfl rfl rfl ((HV.out.below HD.out).mono fun _ _ ho => .inl ho) (Fr.of_below HD.out)

set_option maxHeartbeats 2000000 in
set_option maxRecDepth 100000 in
theorem crash_b1 {O : Nat → Prop} {g : Nat} {m : DM} {bv : Nat → Value} {wv : Value} {ws : List (DChg × Value)} (fr : Act) (b o n cw i first nx kx : Nat) (Ax : Option Addr) (s torn : Int) (c : DChg) (w : World) (Q : Exit → Act → World → Prop) (hfr : IsC fr)
    (h0 : slotC fr 0 = .pointer (some ⟨g, 0, none⟩)) (h1 : slotC fr 1 = .int .i64 (first : Int)) (h2 : slotC fr 2 = .int .u64 s) (h3 : slotC fr 3 = .int .i64 torn) (h22 : slotC fr 22 = .slice (some ⟨b, o, none⟩) n cw) (h23 : slotC fr 23 = .int .i64 (n : Int)) (h24 : slotC fr 24 = .int .i64 (i : Int))
    (hi : i < n) (hn : n ≤ 1000) (hf : first ≤ n) (hs0 : 0 ≤ s) (hs1 : s ≤ 18446744073709551615) (tn : Nat) (htn : torn = (tn : Int)) (hif : i = first) (hbit : bitAt s 0 = false) (hcut : c.cuts = false) (ht : 0 < tn) (hz : tn ≤ nx)
    (c0 : w.cell? ⟨b, o + i * 4, none⟩ = some (.int .i64 (c.area : Int))) (c1 : w.cell? ⟨b, o + i * 4 + 1, none⟩ = some (.int .i64 (c.pos : Int))) (c2 : w.cell? ⟨b, o + i * 4 + 2, none⟩ = some (.slice Ax nx kx)) (c3 : w.cell? ⟨b, o + i * 4 + 3, none⟩ = some (.bool c.cuts))
    (h : DiskV w O g m bv wv ws) (hbx : ¬ O w.heap.size) (hok : m.Ok) (hca : c.area < 3) (hp : c.pos + c.bytes.length ≤ 1048576) (hx : OB w 0 (.slice Ax nx kx) c.bytes) (hnx : c.bytes.length = nx) (hxa : ∀ i, i < 6 → ∀ q, (Value.slice Ax nx kx).ownBlock = some q → (bv i).ownBlock ≠ some q)
    (hQ : ∀ (fr' : Act) (w' : World) (bv' : Nat → Value), IsC fr' → slotC fr' 0 = .pointer (some ⟨g, 0, none⟩) → slotC fr' 1 = .int .i64 (first : Int) → slotC fr' 2 = .int .u64 s → slotC fr' 3 = .int .i64 torn → slotC fr' 22 = .slice (some ⟨b, o, none⟩) n cw → slotC fr' 23 = .int .i64 (n : Int) → slotC fr' 24 = .int .i64 ((i + 1 : Nat) : Int) →
      DiskV w' (ext O w w') g { m with b := updB m.b c.area (doB (m.b c.area) { c with bytes := c.bytes.take tn }) } bv' wv ws → Fr O w w' → Q .normal fr' w') :
    Code.wp Tryd.prog (lpC Tryd.f26.body 0) Q fr w := by
  have hu := And.intro hs0 (And.intro hs1 (And.intro hnx (And.intro hf (And.intro hca hp))))
  clear hu
  have HQ := Lib.hid hQ
  have HX := Lib.hid hx
  have HXA := Lib.hid hxa
  have HK := Lib.hid hok
  have HBX := Lib.hid hbx
  have HV := Lib.hid h
  obtain ⟨ca, cpos, cb, cc⟩ := c
  dsimp only at hcut hca hp hnx c0 c1 c2 c3 HX HQ
  subst hcut
  subst hif
  have q3 : (bits BinOp.and IntKind.u64 s 1 == 1) = false := by have := bit_and hs0 hs1 0; rw [hbit] at this; simpa using this
  obtain ⟨_, _, e9, hkx, hkm, _⟩ := OB.form HX.out
  injection e9 with e9a e9b e9c
  subst e9c
  rw [hnx] at hkx
  clear e9a e9b
  subst htn
  have qa : ((nx : Int) < (tn : Int)) = False := eq_false (by omega)
  have qb : ((0 : Int) < (tn : Int)) = True := eq_true (by omega)
  have D0 := (Below.refl w.heap.size w).alloc (Nat.le_refl _) (.cells #[.int .i64 (ca : Int), .int .i64 (cpos : Int), .slice Ax tn kx, .bool false] 137)
  have HD := Lib.hid D0
  clear hQ hx hxa hok hbx h D0
  unfold IsC at hfr
  generalize slotC fr = f at *
  subst hfr
  unfold CF
  rw [h0, h1, h2, h3, h22, h23, h24]
  conv => arg 2; whnf
  clear h0 h1 h2 h3 h22 h23 h24
  go_wp2_with fail
  obtain ⟨wB, hwB⟩ : ∃ W, W = w.alloc (.cells #[.int .i64 (ca : Int), .int .i64 (cpos : Int), .slice Ax tn kx, .bool false] 137) := ⟨_, rfl⟩
  rw [← hwB]
  have VB : Hid (DiskV wB O g m bv wv ws) := Lib.hid (by rw [hwB]; exact HV.out.below HD.out)
  have XB : Hid (OB wB 0 (.slice Ax tn kx) (cb.take tn)) := Lib.hid (by rw [hwB]; exact OB.cutTo (OB.below HX.out HD.out) tn (by omega))
  have BB : Hid (Below w.heap.size w wB) := Lib.hid (by rw [hwB]; exact HD.out)
  have SB : Hid (w.heap.size < wB.heap.size) := Lib.hid (by rw [hwB]; simp)
  have t0 : wB.cell? ⟨w.heap.size, 0, none⟩ = some (.int .i64 (ca : Int)) := by rw [hwB]; exact cell_of_row _ _ 0 _ _ _ box_row
  have t1 : wB.cell? ⟨w.heap.size, 1, none⟩ = some (.int .i64 (cpos : Int)) := by rw [hwB]; exact cell_of_row _ _ 1 _ _ _ box_row
  have t2 : wB.cell? ⟨w.heap.size, 2, none⟩ = some (.slice Ax tn kx) := by rw [hwB]; exact cell_of_row _ _ 2 _ _ _ box_row
  have t3 : wB.cell? ⟨w.heap.size, 3, none⟩ = some (.bool false) := by rw [hwB]; exact cell_of_row _ _ 3 _ _ _ box_row
  have HT : Hid (∀ w5, Fr O wB w5 → ∀ j, w5.cell? ⟨w.heap.size, j, none⟩ = wB.cell? ⟨w.heap.size, j, none⟩) := Lib.hid fun w5 hf j => hf.cell (p := ⟨w.heap.size, j, none⟩) SB.out HBX.out
  clear hwB c0 c1 c2 c3
  go_region_held3 (fun w' => w'.cell? ⟨w.heap.size, 0, none⟩ = wB.cell? ⟨w.heap.size, 0, none⟩ ∧ w'.cell? ⟨w.heap.size, 1, none⟩ = wB.cell? ⟨w.heap.size, 1, none⟩ ∧ w'.cell? ⟨w.heap.size, 2, none⟩ = wB.cell? ⟨w.heap.size, 2, none⟩ ∧ w'.cell? ⟨w.heap.size, 3, none⟩ = wB.cell? ⟨w.heap.size, 3, none⟩) (go_keep)
    (first | (go_at_call 79; refine (do_any g 1 ca ⟨ca, cpos, cb.take tn, false⟩ (.slice Ax tn kx) _ HK.out O bv _ _ wB.drew (VB.out.below (below_d1 (Below.refl _ _))) (.inl rfl) rfl hca (by show cpos + (cb.take tn).length ≤ _; rw [List.length_take]; omega) (OwnS.drew XB.out) (fun q hq => HXA.out (1 - 1 + ca) (by omega) q (by rw [← hq] <;> (rcases Ax with _ | Ax <;> rfl)))).mono ?_; rintro e w5 ⟨rfl, bv5, hv5, hf5⟩; replace hf5 := Fr.undrew hf5; have k0 := HT.out w5 hf5 0; have k1 := HT.out w5 hf5 1; have k2 := HT.out w5 hf5 2; have k3 := HT.out w5 hf5 3; replace hv5 := Lib.hid hv5; replace hf5 := Lib.hid hf5))
  go_wp2
  have hv6 := hv5.out
  rw [show 1 - 1 + ca = ca by omega] at hv6
  exact HQ.out _ _ bv5 rfl rfl rfl rfl rfl rfl rfl rfl (hv6.mono fun q hq ho => ho.imp id fun ho => ⟨Nat.le_trans BB.out.size ho.1, hq⟩) ((Fr.of_below BB.out).trans hf5.out fun _ _ h => h)

set_option maxHeartbeats 2000000 in
set_option maxRecDepth 100000 in
theorem crash_b2 {O : Nat → Prop} {g : Nat} {m : DM} {bv : Nat → Value} {wv : Value} {ws : List (DChg × Value)} (fr : Act) (b o n cw i first nx kx : Nat) (Ax : Option Addr) (s torn : Int) (c : DChg) (w : World) (Q : Exit → Act → World → Prop) (hfr : IsC fr)
    (h0 : slotC fr 0 = .pointer (some ⟨g, 0, none⟩)) (h1 : slotC fr 1 = .int .i64 (first : Int)) (h2 : slotC fr 2 = .int .u64 s) (h3 : slotC fr 3 = .int .i64 torn) (h22 : slotC fr 22 = .slice (some ⟨b, o, none⟩) n cw) (h23 : slotC fr 23 = .int .i64 (n : Int)) (h24 : slotC fr 24 = .int .i64 (i : Int))
    (hi : i < n) (hn : n ≤ 1000) (hf : first ≤ n) (hs0 : 0 ≤ s) (hs1 : s ≤ 18446744073709551615) (tn : Nat) (htn : tn = nx) (hif : i = first) (hbit : bitAt s 0 = false) (hcut : c.cuts = false) (ht : (nx : Int) < torn) (hz : 0 < nx)
    (c0 : w.cell? ⟨b, o + i * 4, none⟩ = some (.int .i64 (c.area : Int))) (c1 : w.cell? ⟨b, o + i * 4 + 1, none⟩ = some (.int .i64 (c.pos : Int))) (c2 : w.cell? ⟨b, o + i * 4 + 2, none⟩ = some (.slice Ax nx kx)) (c3 : w.cell? ⟨b, o + i * 4 + 3, none⟩ = some (.bool c.cuts))
    (h : DiskV w O g m bv wv ws) (hbx : ¬ O w.heap.size) (hok : m.Ok) (hca : c.area < 3) (hp : c.pos + c.bytes.length ≤ 1048576) (hx : OB w 0 (.slice Ax nx kx) c.bytes) (hnx : c.bytes.length = nx) (hxa : ∀ i, i < 6 → ∀ q, (Value.slice Ax nx kx).ownBlock = some q → (bv i).ownBlock ≠ some q)
    (hQ : ∀ (fr' : Act) (w' : World) (bv' : Nat → Value), IsC fr' → slotC fr' 0 = .pointer (some ⟨g, 0, none⟩) → slotC fr' 1 = .int .i64 (first : Int) → slotC fr' 2 = .int .u64 s → slotC fr' 3 = .int .i64 torn → slotC fr' 22 = .slice (some ⟨b, o, none⟩) n cw → slotC fr' 23 = .int .i64 (n : Int) → slotC fr' 24 = .int .i64 ((i + 1 : Nat) : Int) →
      DiskV w' (ext O w w') g { m with b := updB m.b c.area (doB (m.b c.area) { c with bytes := c.bytes.take tn }) } bv' wv ws → Fr O w w' → Q .normal fr' w') :
    Code.wp Tryd.prog (lpC Tryd.f26.body 0) Q fr w := by
  have hu := And.intro hs0 (And.intro hs1 (And.intro hnx (And.intro hf (And.intro hca hp))))
  clear hu
  have HQ := Lib.hid hQ
  have HX := Lib.hid hx
  have HXA := Lib.hid hxa
  have HK := Lib.hid hok
  have HBX := Lib.hid hbx
  have HV := Lib.hid h
  obtain ⟨ca, cpos, cb, cc⟩ := c
  dsimp only at hcut hca hp hnx c0 c1 c2 c3 HX HQ
  subst hcut
  subst hif
  have q3 : (bits BinOp.and IntKind.u64 s 1 == 1) = false := by have := bit_and hs0 hs1 0; rw [hbit] at this; simpa using this
  obtain ⟨_, _, e9, hkx, hkm, _⟩ := OB.form HX.out
  injection e9 with e9a e9b e9c
  subst e9c
  rw [hnx] at hkx
  clear e9a e9b
  subst htn
  have qa : ((tn : Int) < torn) = True := eq_true ht
  have qb : ((0 : Int) < (tn : Int)) = True := eq_true (by omega)
  have D0 := (Below.refl w.heap.size w).alloc (Nat.le_refl _) (.cells #[.int .i64 (ca : Int), .int .i64 (cpos : Int), .slice Ax tn kx, .bool false] 137)
  have HD := Lib.hid D0
  clear hQ hx hxa hok hbx h D0
  unfold IsC at hfr
  generalize slotC fr = f at *
  subst hfr
  unfold CF
  rw [h0, h1, h2, h3, h22, h23, h24]
  conv => arg 2; whnf
  clear h0 h1 h2 h3 h22 h23 h24
  go_wp2_with fail
  obtain ⟨wB, hwB⟩ : ∃ W, W = w.alloc (.cells #[.int .i64 (ca : Int), .int .i64 (cpos : Int), .slice Ax tn kx, .bool false] 137) := ⟨_, rfl⟩
  rw [← hwB]
  have VB : Hid (DiskV wB O g m bv wv ws) := Lib.hid (by rw [hwB]; exact HV.out.below HD.out)
  have XB : Hid (OB wB 0 (.slice Ax tn kx) (cb.take tn)) := Lib.hid (by rw [hwB]; exact OB.cutTo (OB.below HX.out HD.out) tn (by omega))
  have BB : Hid (Below w.heap.size w wB) := Lib.hid (by rw [hwB]; exact HD.out)
  have SB : Hid (w.heap.size < wB.heap.size) := Lib.hid (by rw [hwB]; simp)
  have t0 : wB.cell? ⟨w.heap.size, 0, none⟩ = some (.int .i64 (ca : Int)) := by rw [hwB]; exact cell_of_row _ _ 0 _ _ _ box_row
  have t1 : wB.cell? ⟨w.heap.size, 1, none⟩ = some (.int .i64 (cpos : Int)) := by rw [hwB]; exact cell_of_row _ _ 1 _ _ _ box_row
  have t2 : wB.cell? ⟨w.heap.size, 2, none⟩ = some (.slice Ax tn kx) := by rw [hwB]; exact cell_of_row _ _ 2 _ _ _ box_row
  have t3 : wB.cell? ⟨w.heap.size, 3, none⟩ = some (.bool false) := by rw [hwB]; exact cell_of_row _ _ 3 _ _ _ box_row
  have HT : Hid (∀ w5, Fr O wB w5 → ∀ j, w5.cell? ⟨w.heap.size, j, none⟩ = wB.cell? ⟨w.heap.size, j, none⟩) := Lib.hid fun w5 hf j => hf.cell (p := ⟨w.heap.size, j, none⟩) SB.out HBX.out
  clear hwB c0 c1 c2 c3
  go_region_held3 (fun w' => w'.cell? ⟨w.heap.size, 0, none⟩ = wB.cell? ⟨w.heap.size, 0, none⟩ ∧ w'.cell? ⟨w.heap.size, 1, none⟩ = wB.cell? ⟨w.heap.size, 1, none⟩ ∧ w'.cell? ⟨w.heap.size, 2, none⟩ = wB.cell? ⟨w.heap.size, 2, none⟩ ∧ w'.cell? ⟨w.heap.size, 3, none⟩ = wB.cell? ⟨w.heap.size, 3, none⟩) (go_keep)
    (first | (go_at_call 79; refine (do_any g 1 ca ⟨ca, cpos, cb.take tn, false⟩ (.slice Ax tn kx) _ HK.out O bv _ _ wB.drew (VB.out.below (below_d1 (Below.refl _ _))) (.inl rfl) rfl hca (by show cpos + (cb.take tn).length ≤ _; rw [List.length_take]; omega) (OwnS.drew XB.out) (fun q hq => HXA.out (1 - 1 + ca) (by omega) q (by rw [← hq] <;> (rcases Ax with _ | Ax <;> rfl)))).mono ?_; rintro e w5 ⟨rfl, bv5, hv5, hf5⟩; replace hf5 := Fr.undrew hf5; have k0 := HT.out w5 hf5 0; have k1 := HT.out w5 hf5 1; have k2 := HT.out w5 hf5 2; have k3 := HT.out w5 hf5 3; replace hv5 := Lib.hid hv5; replace hf5 := Lib.hid hf5))
  go_wp2
  have hv6 := hv5.out
  rw [show 1 - 1 + ca = ca by omega] at hv6
  exact HQ.out _ _ bv5 rfl rfl rfl rfl rfl rfl rfl rfl (hv6.mono fun q hq ho => ho.imp id fun ho => ⟨Nat.le_trans BB.out.size ho.1, hq⟩) ((Fr.of_below BB.out).trans hf5.out fun _ _ h => h)

end Go.Proofs.YtgiaifglkecdjaaDoor
