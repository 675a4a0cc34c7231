/- Layer 18 (wal): good. -/
import Derived.Test.YtfmagnpmjlppiaaGreatDoorWalK
import Derived.Test.YtfmagnpmjlppiaaGreatDoorDiskS
import Derived.Deep.AppendLies
namespace Go.Proofs.YtfmagnpmjlppiaaGreatDoor
open Go.RowKit

theorem results_row_tmpW {P : Program} {fn : Func} {p u : Tmp} {ty : TypeId} (h : fn.results = #[.cell p ty, .tmp u]) (tmps : Array Value) (w : World) (g : Nat) (t : TypeId) (cs : Array Value) (fr : Nat × Nat) (d : TypeDesc) (x : Value)
  (hp : tmps.getD p undef = .pointer (some ⟨g, 0, none⟩)) (hx : tmps.getD u undef = x) (hg : w.heap[g]? = some (.cells cs t fr))
  (hu : P.underlying ty = some d) (hd : (match d with | .struct _ | .array _ _ => true | _ => false) = true) (hi : (P.info? ty).map (·.size) = some cs.size) :
  (results fn tmps).run P w = .ok (.tuple #[.agg cs, x]) w := by
 have hp' : tmps[p]?.getD undef = .pointer (some ⟨g, 0, none⟩) := by simpa using hp
 have hx' : tmps[u]?.getD undef = x := by simpa using hx
 simp [results, h, hp', hx', asAddr, run_loadVar_row w g t ty cs fr d hg hu hd hi]

theorem info_snap : (Tryz.prog.info? 130).map (·.size) = some 3 := by kernel_rfl

set_option maxHeartbeats 2000000 in
set_option maxRecDepth 100000 in
theorem good_any (slot : Int) (A : Option Addr) (m c : Nat) (l : List UInt8) (w : World) (hb : RB w A m l) (hmc : m ≤ c) (hm : m ≤ 100000000) (ht : ShaTabs w) :
  Calls Tryz.prog 116 #[.int .i64 slot, .slice A m c] w fun e w' => ∃ (gv sv : Int) (A' : Option Addr) (n' c' : Nat) (ok : Bool), e = .returned (.tuple #[.agg #[.int .i64 gv, .int .i64 sv, .slice A' n' c'], .bool ok]) ∧ Below w.heap.size w w' ∧
   (∀ g t, goodB l = some (g, t) → ok = true ∧ gv = (g : Int) ∧ sv = slot ∧ OB w' w.heap.size (.slice A' n' c') t) ∧ (goodB l = none → ok = false) := by
 have HL := Hj hb.1
 by_cases h16 : m < 16
 ·have hN : goodB l = none := by unfold goodB; rw [if_pos (by rw [hb.1]; exact h16)]
  rw [hN]
  have q : decide ((m : Int) < 16) = true := decide_eq_true (by omega)
  clear hb
  go_enter Tryz.func116, Tryz.ntmps116
  go_wp2
  refine bodyPost_ret (results_row_tmpW (x := .bool false) rfl _ _ w.heap.size 130 #[.int .i64 0, .int .i64 0, .slice none 0 0] (0, 0) _ rfl rfl (heap_alloc_new w _) Tryz.underlying130 rfl info_snap) rfl ⟨0, 0, none, 0, 0, false, rfl, (Below.refl _ w).alloc Kj _, (fun _ _ e => by cases e), fun _ => rfl⟩
 obtain ⟨b, o, rfl, -⟩ := hb.2 (by omega)
 have q16 : decide ((m : Int) < 16) = false := decide_eq_false (by omega)
 have HB := Hj hb
 have BA := Hj ((Below.refl _ w).alloc Kj (.cells #[.int .i64 0, .int .i64 0, .slice none 0 0] 130))
 have N0 : Hid (∀ W : World, RB W (some ⟨b, o, none⟩) m l → Calls Tryz.prog 176 #[.slice (some ⟨b, o, none⟩) m c, .int .i64 0] W fun e w' => e = .returned (.int .i64 (numAt l 0 : Int)) ∧ ∃ k, w' = W.drewN k) := Hj fun W h => numbered_any _ m c 0 l W h (by omega) (by omega)
 have N4 : Hid (∀ W : World, RB W (some ⟨b, o, none⟩) m l → Calls Tryz.prog 176 #[.slice (some ⟨b, o, none⟩) m c, .int .i64 4] W fun e w' => e = .returned (.int .i64 (numAt l 4 : Int)) ∧ ∃ k, w' = W.drewN k) := Hj fun W h => numbered_any _ m c 4 l W h (by omega) (by omega)
 have KA : Hid (RB (w.alloc (.cells #[.int .i64 0, .int .i64 0, .slice none 0 0] 130)) (some ⟨b, o, none⟩) m l) := Hj (hb.keep (Kz BA.out))
 have KD : Hid (∀ k, RB ((w.alloc (.cells #[.int .i64 0, .int .i64 0, .slice none 0 0] 130)).drewN k) (some ⟨b, o, none⟩) m l) := Hj fun k => KA.out.keep (Keeps.drewN _ k)
 have HGL : Hid (numAt l 0 < 4294967296) := Hj (numAt_lt _ _)
 obtain ⟨G, hG⟩ : ∃ G, G = numAt l 0 := ⟨_, rfl⟩
 obtain ⟨L, hL⟩ : ∃ L, L = numAt l 4 := ⟨_, rfl⟩
 have HN : Hid (goodB l = if l.length < 16 then none else if G < 1 ∨ 2147483647 < G ∨ l.length - 16 < L then none else if sumB G L ((l.drop 16).take L) = (l.drop 8).take 8 then some (G, (l.drop 16).take L) else none) := Hj (by rw [hG, hL]; rfl)
 rw [← hG] at N0 HGL
 rw [← hL] at N4
 clear hG hL
 by_cases h1 : G < 1
 ·have hN : goodB l = none := by rw [HN.out, if_neg (by rw [HL.out]; exact h16), if_pos (.inl h1)]
  rw [hN]
  have q : decide ((G : Int) < 1) = true := decide_eq_true (by omega)
  clear hb
  go_enter Tryz.func116, Tryz.ntmps116
  go_wp2_with (first
   | (go_at_call 176; (with_reducible refine (N0.out _ KA.out).mono ?_); rintro e w1 ⟨rfl, k1, rfl⟩)
   | (go_at_call 176; (with_reducible refine (N4.out _ (KD.out _)).mono ?_); rintro e w2 ⟨rfl, k2, rfl⟩)
   | fail)
  refine bodyPost_ret (results_row_tmpW (x := .bool false) rfl _ _ w.heap.size 130 #[.int .i64 0, .int .i64 0, .slice none 0 0] (0, 0) _ rfl rfl (heap_setCell_same _ _ _ _ _ _ (heap_setCell_same _ _ _ _ _ _ (heap_setCell_same _ _ _ _ _ _ (heap_alloc_new w _)))) Tryz.underlying130 rfl info_snap) rfl ⟨0, 0, none, 0, 0, false, rfl, (((below_drewN BA.out _).setCell (p := ⟨w.heap.size, 0, none⟩) Kj _).setCell (p := ⟨w.heap.size, 1, none⟩) Kj _).setCell (p := ⟨w.heap.size, 2, none⟩) Kj _, (fun _ _ e => by cases e), fun _ => rfl⟩
 have q1 : decide ((G : Int) < 1) = false := decide_eq_false (by omega)
 by_cases h2 : 2147483647 < G
 ·have hN : goodB l = none := by rw [HN.out, if_neg (by rw [HL.out]; exact h16), if_pos (.inr (.inl h2))]
  rw [hN]
  have q : decide ((G : Int) > 2147483647) = true := decide_eq_true (by omega)
  have q' : decide (2147483647 < (G : Int)) = true := decide_eq_true (by omega)
  clear hb
  go_enter Tryz.func116, Tryz.ntmps116
  go_wp2_with (first
   | (go_at_call 176; (with_reducible refine (N0.out _ KA.out).mono ?_); rintro e w1 ⟨rfl, k1, rfl⟩)
   | (go_at_call 176; (with_reducible refine (N4.out _ (KD.out _)).mono ?_); rintro e w2 ⟨rfl, k2, rfl⟩)
   | fail)
  refine bodyPost_ret (results_row_tmpW (x := .bool false) rfl _ _ w.heap.size 130 #[.int .i64 0, .int .i64 0, .slice none 0 0] (0, 0) _ rfl rfl (heap_setCell_same _ _ _ _ _ _ (heap_setCell_same _ _ _ _ _ _ (heap_setCell_same _ _ _ _ _ _ (heap_alloc_new w _)))) Tryz.underlying130 rfl info_snap) rfl ⟨0, 0, none, 0, 0, false, rfl, (((below_drewN BA.out _).setCell (p := ⟨w.heap.size, 0, none⟩) Kj _).setCell (p := ⟨w.heap.size, 1, none⟩) Kj _).setCell (p := ⟨w.heap.size, 2, none⟩) Kj _, (fun _ _ e => by cases e), fun _ => rfl⟩
 have q2 : decide ((G : Int) > 2147483647) = false := decide_eq_false (by omega)
 have q2' : decide (2147483647 < (G : Int)) = false := decide_eq_false (by omega)
 by_cases h3 : m - 16 < L
 ·have hN : goodB l = none := by rw [HN.out, if_neg (by rw [HL.out]; exact h16), if_pos (.inr (.inr (by rw [HL.out]; exact h3)))]
  rw [hN]
  have q : decide ((L : Int) > (m : Int) - 16) = true := decide_eq_true (by omega)
  have q' : decide ((m : Int) - 16 < (L : Int)) = true := decide_eq_true (by omega)
  clear hb
  go_enter Tryz.func116, Tryz.ntmps116
  go_wp2_with (first
   | (go_at_call 176; (with_reducible refine (N0.out _ KA.out).mono ?_); rintro e w1 ⟨rfl, k1, rfl⟩)
   | (go_at_call 176; (with_reducible refine (N4.out _ (KD.out _)).mono ?_); rintro e w2 ⟨rfl, k2, rfl⟩)
   | fail)
  refine bodyPost_ret (results_row_tmpW (x := .bool false) rfl _ _ w.heap.size 130 #[.int .i64 0, .int .i64 0, .slice none 0 0] (0, 0) _ rfl rfl (heap_setCell_same _ _ _ _ _ _ (heap_setCell_same _ _ _ _ _ _ (heap_setCell_same _ _ _ _ _ _ (heap_alloc_new w _)))) Tryz.underlying130 rfl info_snap) rfl ⟨0, 0, none, 0, 0, false, rfl, (((below_drewN BA.out _).setCell (p := ⟨w.heap.size, 0, none⟩) Kj _).setCell (p := ⟨w.heap.size, 1, none⟩) Kj _).setCell (p := ⟨w.heap.size, 2, none⟩) Kj _, (fun _ _ e => by cases e), fun _ => rfl⟩
 have q3 : decide ((L : Int) > (m : Int) - 16) = false := decide_eq_false (by omega)
 have q3' : decide ((m : Int) - 16 < (L : Int)) = false := decide_eq_false (by omega)
 obtain ⟨text, htext⟩ : ∃ t, t = (l.drop 16).take L := ⟨_, rfl⟩
 have HX : Hid (goodB l = if sumB G L text = (l.drop 8).take 8 then some (G, text) else none) := Hj (by rw [HN.out, if_neg (by rw [HL.out]; exact h16), if_neg (by rw [HL.out]; omega), htext])
 have hr16 := hb.subW 16 L (by omega)
 rw [← htext] at hr16
 have HTl := Hj hr16.1
 have HR := Hj hr16
 have HR0 : Hid (L = 0 → RB w (some ⟨b, o, none⟩) L text) := Hj fun e => by rw [htext, e, List.take_zero]; exact RB.nil _ _
 have HC : Hid (∀ W : World, Below w.heap.size w W → Calls Tryz.prog 78 #[.slice (some ⟨b, o + 16, none⟩) L (c - 16)] W fun e w' => ∃ A' cap, e = .returned (.slice A' text.length cap) ∧ OB w' W.heap.size (.slice A' text.length cap) text ∧ Below W.heap.size W w') := Hj fun W hW =>
  Clone_any _ _ _ _ W (HR.out.keep (Kz hW)) (by omega)
 have HC0 : Hid (L = 0 → ∀ W : World, Below w.heap.size w W → Calls Tryz.prog 78 #[.slice (some ⟨b, o, none⟩) L 0] W fun e w' => ∃ A' cap, e = .returned (.slice A' text.length cap) ∧ OB w' W.heap.size (.slice A' text.length cap) text ∧ Below W.heap.size W w') := Hj fun e W hW =>
  Clone_any _ _ _ _ W ((HR0.out e).keep (Kz hW)) (by omega)
 have HS : Hid (∀ (W : World) (A' : Option Addr) (cap : Nat), Below w.heap.size w W → OB W 0 (.slice A' text.length cap) text → Calls Tryz.prog 149 #[.int .i64 (G : Int), .int .i64 (L : Int), .slice A' text.length cap] W fun e w' => ∃ q, e = .returned (.slice (some ⟨q, 0, none⟩) 8 32) ∧ RB w' (some ⟨q, 0, none⟩) 8 (sumB G L text) ∧ W.heap.size ≤ q ∧ Below W.heap.size W w') := Hj fun W A' cap hW ho => by
  obtain ⟨A2, c2, e, i1, i2, i3⟩ := ho.form
  injection e with e1 e2 e3
  subst e1
  subst e3
  exact wsum_any G L _ _ _ _ W i3 i1 i2 HGL.out (by omega) (by rw [HTl.out]; omega) (ht.keep (Kz hW))
 have HE : Hid (∀ (W : World) (q d : Nat), Below w.heap.size w W → RB W (some ⟨q, 0, none⟩) 8 (sumB G L text) → Calls Tryz.prog 177 #[.slice (some ⟨q, 0, none⟩) 8 32, .slice (some ⟨b, o + 8, none⟩) 8 d] W fun e w' => e = .returned (.bool (decide (sumB G L text = (l.drop 8).take 8))) ∧ ∃ k, w' = W.drewN k) := Hj fun W q d hW hq =>
  Equal_any _ _ 8 8 32 d W _ _ hq ((HB.out.subW 8 8 (by omega)).keep (Kz hW)) (by decide)
 have z1 : (16 : Int) ≤ (m : Int) := by omega
 have z2 : (m : Int) ≤ (c : Int) := by omega
 have z3 : (16 : Int) ≤ (c : Int) := by omega
 have z4 : (16 : Int) + (L : Int) ≤ (c : Int) := by omega
 have z5 : (16 : Int) ≤ 16 + (L : Int) := by omega
 have z6 : ¬ ((c : Int) = 8) := by omega
 clear hb hr16 htext
 go_enter Tryz.func116, Tryz.ntmps116
 go_wp2_with (first
  | (go_at_call 176; (with_reducible refine (N0.out _ KA.out).mono ?_); rintro e w1 ⟨rfl, k1, rfl⟩)
  | (go_at_call 176; (with_reducible refine (N4.out _ (KD.out _)).mono ?_); rintro e w2 ⟨rfl, k2, rfl⟩)
  | (go_at_call 78; go_loud (first | (with_reducible refine (HC.out _ (below_drewN BA.out _)).mono ?_) | (with_reducible refine (HC0.out (by omega) _ (below_drewN BA.out _)).mono ?_)); rintro e w3 ⟨A3, k3, rfl, ho3, hb3⟩; have O3 := Hj ho3; have B3 := Hj hb3; clear ho3 hb3)
  | fail)
 all_goals
  have hsz : w.heap.size + 1 = ((w.alloc (.cells #[.int .i64 0, .int .i64 0, .slice none 0 0] 130)).drewN (k1 + k2)).heap.size := (Array.size_push _).symm
  have B03 : Hid (Below w.heap.size w w3) := Hj ((below_drewN BA.out _).trans (B3.out.mono (by rw [← hsz]; omega)))
  have S3 : Hid (w.heap.size < w3.heap.size) := Hj (by have := B3.out.size; rw [← hsz] at this; omega)
  have T3 : Hid (w3.heap[w.heap.size]? = some (.cells #[.int .i64 0, .int .i64 0, .slice none 0 0] 130 (0, 0))) := Hj ((B3.out.block _ (by rw [← hsz]; omega)).trans (heap_alloc_new w _))
  rw [← hsz] at O3
  clear B3 hsz
  obtain ⟨wB, hwB⟩ : ∃ W, W = w3.alloc (.cells #[.int .i64 (G : Int), .int .i64 slot, .slice A3 text.length k3] 130) := ⟨_, rfl⟩
  rw [← hwB]
  have BB : Hid (Below w3.heap.size w3 wB) := Hj (by rw [hwB]; exact (Below.refl _ _).alloc Kj _)
  have E8 : Hid (wB.heap[w3.heap.size]? = some (.cells #[.int .i64 (G : Int), .int .i64 slot, .slice A3 text.length k3] 130 (0, 0))) := Hj (by rw [hwB]; exact heap_alloc_new w3 _)
  have SB3 : Hid (w3.heap.size < wB.heap.size) := Hj (by rw [hwB]; show _ < (w3.heap.push _).size; rw [Array.size_push]; omega)
  clear hwB
  have BW : Hid (Below w.heap.size w wB) := Hj (B03.out.trans (BB.out.mono B03.out.size))
  have OB3 := Hj ((O3.out.below BB.out).mono (Nat.zero_le _))
  have K0 : Hid (∀ W, Below wB.heap.size wB W → W.cell? ⟨w3.heap.size, 0, none⟩ = some (.int .i64 (G : Int)) ∧ W.cell? ⟨w3.heap.size, 1, none⟩ = some (.int .i64 slot) ∧ W.cell? ⟨w3.heap.size, 2, none⟩ = some (.slice A3 text.length k3)) := Hj fun W h => by
   have k := Kz h
   exact ⟨k _ _ (Kq 0 E8.out), k _ _ (Kq 1 E8.out), k _ _ (Kq 2 E8.out)⟩
  have K1 : Hid (∀ W, Below wB.heap.size wB W → W.heap[w.heap.size]? = some (.cells #[.int .i64 0, .int .i64 0, .slice none 0 0] 130 (0, 0))) := Hj fun W h => (h.block _ (Nat.lt_trans S3.out SB3.out)).trans ((BB.out.block _ S3.out).trans T3.out)
  have K2 : Hid (∀ W, Below wB.heap.size wB W → W.heap[w3.heap.size]? = some (.cells #[.int .i64 (G : Int), .int .i64 slot, .slice A3 text.length k3] 130 (0, 0))) := Hj fun W h => (h.block _ SB3.out).trans E8.out
  have BD : Hid (Below wB.heap.size wB wB.drew) := Hj ⟨rfl, rfl, rfl, Nat.le_refl _, fun _ _ => rfl⟩
  obtain ⟨c0, c1, c2⟩ := K0.out wB (Below.refl _ _)
  go_region_held3 (fun w' => w'.cell? ⟨w3.heap.size, 0, none⟩ = some (.int .i64 (G : Int)) ∧ w'.cell? ⟨w3.heap.size, 1, none⟩ = some (.int .i64 slot) ∧ w'.cell? ⟨w3.heap.size, 2, none⟩ = some (.slice A3 text.length k3)) (first | exact ⟨by assumption, by assumption, by assumption⟩ | exact KS.out _ _ _ | go_keep)
   (first
    | (go_at_call 149; go_loud ((with_reducible refine (HS.out wB.drew A3 k3 (BW.out.trans (BD.out.mono BW.out.size)) (OB3.out.below BD.out)).mono ?_); rintro e w4 ⟨q4, rfl, hr4, hq4, hb4⟩; have B4 : Hid (Below wB.heap.size wB w4) := Hj (BD.out.trans hb4); have R4 := Hj hr4; obtain ⟨y0, y1, y2⟩ := K0.out w4 B4.out; clear hr4 hq4 hb4))
    | (go_at_call 177; go_loud ((with_reducible refine (HE.out w4 q4 _ (BW.out.trans (B4.out.mono BW.out.size)) R4.out).mono ?_); rintro e w5 ⟨rfl, k5, rfl⟩; have B5 := Hj (below_drewN B4.out k5); obtain ⟨u0, u1, u2⟩ := K0.out _ B5.out; have hrow := K1.out _ B5.out; have m0 : (w4.drewN k5).cell? ⟨w.heap.size, 0, none⟩ = some (.int .i64 0) := Kq 0 hrow; have m1 : (w4.drewN k5).cell? ⟨w.heap.size, 1, none⟩ = some (.int .i64 0) := Kq 1 hrow; have m2 : (w4.drewN k5).cell? ⟨w.heap.size, 2, none⟩ = some (.slice none 0 0) := Kq 2 hrow; have f0 : (w4.drewN k5).frozen? ⟨w.heap.size, 0, none⟩ = false := Kx hrow; have f1 : (w4.drewN k5).frozen? ⟨w.heap.size, 1, none⟩ = false := Kx hrow; have f2 : (w4.drewN k5).frozen? ⟨w.heap.size, 2, none⟩ = false := Kx hrow; have KS : Hid (∀ x y z, ((((w4.drewN k5).setCell ⟨w.heap.size, 0, none⟩ x).setCell ⟨w.heap.size, 1, none⟩ y).setCell ⟨w.heap.size, 2, none⟩ z).cell? ⟨w3.heap.size, 0, none⟩ = some (.int .i64 (G : Int)) ∧ ((((w4.drewN k5).setCell ⟨w.heap.size, 0, none⟩ x).setCell ⟨w.heap.size, 1, none⟩ y).setCell ⟨w.heap.size, 2, none⟩ z).cell? ⟨w3.heap.size, 1, none⟩ = some (.int .i64 slot) ∧ ((((w4.drewN k5).setCell ⟨w.heap.size, 0, none⟩ x).setCell ⟨w.heap.size, 1, none⟩ y).setCell ⟨w.heap.size, 2, none⟩ z).cell? ⟨w3.heap.size, 2, none⟩ = some (.slice A3 text.length k3)) := Hj fun x y z => by { have hne : w3.heap.size ≠ w.heap.size := Nat.ne_of_gt S3.out; have h := row_other (k := 2) (row_other (k := 1) (row_other (k := 0) (K2.out _ B5.out) hne x) hne y) hne z; exact ⟨Kq 0 h, Kq 1 h, Kq 2 h⟩ }; replace hrow := Hj hrow)))
 all_goals
  go_wp2
  have hne : w3.heap.size ≠ w.heap.size := Nat.ne_of_gt S3.out
  have BF : Below w.heap.size w ((((w4.drewN k5).setCell ⟨w.heap.size, 0, none⟩ (.int .i64 (G : Int))).setCell ⟨w.heap.size, 1, none⟩ (.int .i64 slot)).setCell ⟨w.heap.size, 2, none⟩ (.slice A3 text.length k3)) := (((BW.out.trans (B5.out.mono BW.out.size)).setCell (p := ⟨w.heap.size, 0, none⟩) Kj _).setCell (p := ⟨w.heap.size, 1, none⟩) Kj _).setCell (p := ⟨w.heap.size, 2, none⟩) Kj _
  have O5 : OB (w4.drewN k5) (w.heap.size + 1) (.slice A3 text.length k3) text := (O3.out.below BB.out).below B5.out
  have FR := (((Fr.refl (fun k => k = w.heap.size) (w4.drewN k5)).setCell (p := ⟨w.heap.size, 0, none⟩) (fun _ => rfl) (.int .i64 (G : Int))).setCell (p := ⟨w.heap.size, 1, none⟩) (fun _ => rfl) (.int .i64 slot)).setCell (p := ⟨w.heap.size, 2, none⟩) (fun _ => rfl) (.slice A3 text.length k3)
  have O6 := (OwnS.kept O5 FR fun k hk e => by have := (OB.lt O5 k hk).1; omega).mono fun k hk => Nat.le_of_succ_le (OB.lt O5 k hk).1
  refine bodyPost_ret (results_row_tmpW (x := .bool (decide (sumB G L text = (l.drop 8).take 8))) rfl _ _ w.heap.size 130 #[.int .i64 (G : Int), .int .i64 slot, .slice A3 text.length k3] (0, 0) _ rfl rfl (heap_setCell_same _ _ _ _ _ _ (heap_setCell_same _ _ _ _ _ _ (heap_setCell_same _ _ _ _ _ _ hrow.out))) Tryz.underlying130 rfl info_snap) rfl ⟨_, _, _, _, _, _, rfl, BF, ?_⟩
  rw [HX.out]
  by_cases hq : sumB G L text = (l.drop 8).take 8
  ·rw [if_pos hq]
   refine ⟨fun g t e => ?_, fun e => by cases e⟩
   injection e with e
   injection e with e1 e2
   subst e1
   subst e2
   exact ⟨decide_eq_true hq, rfl, rfl, O6⟩
  ·rw [if_neg hq]
   exact ⟨fun g t e => (by cases e), fun _ => decide_eq_false hq⟩
end Go.Proofs.YtfmagnpmjlppiaaGreatDoor

/- Layer 18 (wal): a log in memory, beside its disk. -/
namespace Go.Proofs.YtfmagnpmjlppiaaGreatDoor
open Go.RowKit

def lcells (g : Nat) (L : LM) (tv rv : Value) : Array Value := #[.pointer (some ⟨g, 0, none⟩), .int .i64 (L.gen : Int), .int .i64 (L.slot : Int), tv, rv, .int .i64 (endOf L.recs : Int), .bool L.dead]

/-- Block gl is a log of the disk g; P: the blocks that are its own. -/
structure LogV (w : World) (P : Nat → Prop) (gl g : Nat) (L : LM) (tv rv : Value) (ws : List (List UInt8 × Value)) : Prop where
 cells : w.heap[gl]? = some (.cells (lcells g L tv rv) 132 (0, 0))
 text : OB w 0 tv L.text
 recs : OwnS w 0 24 1 rv ws.length (ws.map fun x => x.2)
 eq : ws.map (fun x => x.1) = L.recs
 each : ∀ x ∈ ws, OB w 0 x.2 x.1
 ownG : P gl
 ownT : ∀ k, tv.ownBlock = some k → P k
 ownR : ∀ k, rv.ownBlock = some k → P k
 ownX : ∀ x ∈ ws, ∀ k, x.2.ownBlock = some k → P k
def LogAt (w : World) (P : Nat → Prop) (gl g : Nat) (L : LM) : Prop := ∃ tv rv ws, LogV w P gl g L tv rv ws

section
variable {w w' w0 : World} {O P S S' : Nat → Prop} {gl g : Nat} {m m' : DM} {L L' : LM} {tv rv : Value} {ws : List (List UInt8 × Value)} {ea : Nat → Addr}

theorem LogV.lt (h : LogV w P gl g L tv rv ws) : gl < w.heap.size := (Cz h.cells)
theorem LogV.cell (h : LogV w P gl g L tv rv ws) (k : Nat) : w.cell? ⟨gl, k, none⟩ = (lcells g L tv rv)[k]? := cell_of_row _ _ _ _ _ _ h.cells
theorem LogV.free (h : LogV w P gl g L tv rv ws) (k : Nat) : w.frozen? ⟨gl, k, none⟩ = false := Kx h.cells
theorem LogV.num (h : LogV w P gl g L tv rv ws) : ws.length = L.recs.length := by have := congrArg List.length h.eq; simpa using this
theorem LogV.tne (h : LogV w P gl g L tv rv ws) : tv.ownBlock ≠ some gl := fun e => by
 obtain ⟨cur, hc⟩ := own_type h.text e
 exact absurd (types_ne hc h.cells) (by decide)
theorem LogV.rne (h : LogV w P gl g L tv rv ws) : rv.ownBlock ≠ some gl := fun e => by
 obtain ⟨cur, hc⟩ := own_type h.recs e
 exact absurd (types_ne hc h.cells) (by decide)
theorem LogV.xne (h : LogV w P gl g L tv rv ws) {x : List UInt8 × Value} (hx : x ∈ ws) : x.2.ownBlock ≠ some gl := fun e => by
 obtain ⟨cur, hc⟩ := own_type (h.each x hx) e
 exact absurd (types_ne hc h.cells) (by decide)
theorem LogV.mono (h : LogV w P gl g L tv rv ws) {P' : Nat → Prop} (hp : ∀ k, k < w.heap.size → P k → P' k) : LogV w P' gl g L tv rv ws :=
 ⟨h.cells, h.text, h.recs, h.eq, h.each, hp _ h.lt h.ownG, fun k hk => hp _ (OB.lt h.text k hk).2 (h.ownT k hk), fun k hk => hp _ (OwnS.lt h.recs k hk).2 (h.ownR k hk), fun x hx k hk => hp _ (OB.lt (h.each x hx) k hk).2 (h.ownX x hx k hk)⟩
/-- Nothing of the log's own has turned. -/
theorem LogV.fr (h : LogV w P gl g L tv rv ws) (hf : Fr S w w') (hn : ∀ k, P k → ¬ S k) : LogV w' P gl g L tv rv ws :=
 ⟨(hf.block _ h.lt (hn _ h.ownG)).trans h.cells, OwnS.kept h.text hf fun k hk => hn k (h.ownT k hk), OwnS.kept h.recs hf fun k hk => hn k (h.ownR k hk), h.eq, fun x hx => OwnS.kept (h.each x hx) hf fun k hk => hn k (h.ownX x hx k hk), h.ownG, h.ownT, h.ownR, h.ownX⟩
theorem LogV.below (h : LogV w P gl g L tv rv ws) (hb : Below w.heap.size w w') : LogV w' P gl g L tv rv ws := h.fr (S := fun _ => False) (Fr.of_below hb) fun _ _ x => x
/-- Only the log's block has turned, and in it neither text nor records. -/
theorem LogV.turn (h : LogV w P gl g L tv rv ws) (hf : Fr (fun k => k = gl) w w') (hc : w'.heap[gl]? = some (.cells (lcells g L' tv rv) 132 (0, 0))) (ht : L'.text = L.text) (hr : L'.recs = L.recs) : LogV w' P gl g L' tv rv ws :=
 ⟨hc, by rw [ht]; exact OwnS.kept h.text hf fun k hk e => h.tne (by rw [← e]; exact hk), OwnS.kept h.recs hf fun k hk e => h.rne (by rw [← e]; exact hk), by rw [hr]; exact h.eq, fun x hx => OwnS.kept (h.each x hx) hf fun k hk e => h.xne hx (by rw [← e]; exact hk), h.ownG, h.ownT, h.ownR, h.ownX⟩
theorem DiskV.frW {bv : Nat → Value} {wv : Value} {xs : List (DChg × Value)} (h : DiskV w O g m bv wv xs) (hf : Fr S w w') (hn : ∀ k, O k → ¬ S k) : DiskV w' O g m bv wv xs :=
 ⟨(hf.block _ h.lt (hn _ h.ownG)).trans h.cells, fun i hi => OwnS.kept (h.areas i hi) hf fun k hk => hn k (h.ownB i hi k hk), OwnS.kept h.wts hf fun k hk => hn k (h.ownW k hk), h.eq, fun x hx => OwnS.kept (h.bytes x hx) hf fun k hk => hn k (h.ownX x hx k hk), h.apart, h.apartW, h.ownG, h.ownB, h.ownW, h.ownX⟩

theorem Fr.ext {S : Nat → Prop} {a b c : World} (h : Fr S a b) (k : Fr (ext S a b) b c) : Fr S a c := h.trans k fun i hi h => h.elim id fun h => absurd h.1 (by omega)
theorem ext_trans {S : Nat → Prop} {a b c : World} (h1 : a.heap.size ≤ b.heap.size) (h2 : b.heap.size ≤ c.heap.size) {k : Nat} (h : Go.Proofs.YtfmagnpmjlppiaaGreatDoor.ext (Go.Proofs.YtfmagnpmjlppiaaGreatDoor.ext S a b) b c k) : Go.Proofs.YtfmagnpmjlppiaaGreatDoor.ext S a c k :=
 h.elim (fun h => h.imp id fun h => ⟨h.1, by omega⟩) fun h => .inr ⟨by omega, h.2⟩

/-- A disk and a log of it; S: the blocks that are theirs. -/
def DL (w : World) (S : Nat → Prop) (g : Nat) (m : DM) (gl : Nat) (L : LM) : Prop :=
 ∃ O P, DiskAt w O g m ∧ LogAt w P gl g L ∧ (∀ k, O k → S k) ∧ (∀ k, P k → S k) ∧ (∀ k, O k → ¬ P k)
theorem DL.mono (h : DL w S g m gl L) (hs : ∀ k, S k → S' k) : DL w S' g m gl L :=
 let ⟨O, P, h1, h2, h3, h4, h5⟩ := h; ⟨O, P, h1, h2, fun k hk => hs k (h3 k hk), fun k hk => hs k (h4 k hk), h5⟩

/-- .. above a world that stands. -/
structure DW (w0 w : World) (S : Nat → Prop) (g : Nat) (m : DM) (gl : Nat) (L : LM) : Prop where
 dl : DL w S g m gl L
 up : ∀ k, S k → w0.heap.size ≤ k
 hi : ∀ k, S k → k < w.heap.size
 bel : Below w0.heap.size w0 w
theorem ext_up0 {S : Nat → Prop} (hu : ∀ k, S k → w0.heap.size ≤ k) (hs : w0.heap.size ≤ w.heap.size) : ∀ k, ext S w w' k → w0.heap.size ≤ k := fun k hk => hk.elim (hu k) fun hk => Kv hs hk.1
theorem ext_hi {S : Nat → Prop} (hh : ∀ k, S k → k < w.heap.size) (hs : w.heap.size ≤ w'.heap.size) : ∀ k, ext S w w' k → k < w'.heap.size := fun k hk => hk.elim (fun h => Nat.lt_of_lt_of_le (hh k h) hs) fun hk => hk.2
/-- What the disk does. -/
theorem DW.useD (h : DW w0 w S g m gl L) : ∃ O, DiskAt w O g m ∧ (∀ k, O k → S k) ∧ ∀ w' m', DiskAt w' (ext O w w') g m' → Fr O w w' → DW w0 w' (ext S w w') g m' gl L ∧ Fr S w w' := by
 obtain ⟨⟨O, P, h1, ⟨tv, rv, ws, h2⟩, h3, h4, h5⟩, hu, hh, hb⟩ := h
 refine ⟨O, h1, h3, fun w' m' k1 k2 => ?_⟩
 have hsz := k2.size
 have hF : Fr S w w' := k2.mono fun k _ hk => h3 k hk
 refine ⟨⟨⟨ext O w w', P, k1, ⟨tv, rv, ws, h2.fr k2 fun k hp ho => h5 k ho hp⟩, fun k hk => hk.imp (h3 k) id, fun k hk => .inl (h4 k hk), fun k hk hp => ?_⟩, ext_up0 hu hb.size, ext_hi hh hsz, hb.trans (hF.below hb.size fun k _ hk => hu k hk)⟩, hF⟩
 rcases hk with hk | hk
 ·exact h5 k hk hp
 ·have := hh k (h4 k hp); omega
/-- What the log does. -/
theorem DW.useL (h : DW w0 w S g m gl L) : ∃ P tv rv ws, LogV w P gl g L tv rv ws ∧ (∀ k, P k → S k) ∧ ∀ w' L', LogAt w' (ext P w w') gl g L' → Fr P w w' → DW w0 w' (ext S w w') g m gl L' ∧ Fr S w w' := by
 obtain ⟨⟨O, P, ⟨bv, wv, xs, h1⟩, ⟨tv, rv, ws, h2⟩, h3, h4, h5⟩, hu, hh, hb⟩ := h
 refine ⟨P, tv, rv, ws, h2, h4, fun w' L' k1 k2 => ?_⟩
 have hsz := k2.size
 have hF : Fr S w w' := k2.mono fun k _ hk => h4 k hk
 refine ⟨⟨⟨O, ext P w w', ⟨bv, wv, xs, h1.frW k2 h5⟩, k1, fun k hk => .inl (h3 k hk), fun k hk => hk.imp (h4 k) id, fun k hk hp => ?_⟩, ext_up0 hu hb.size, ext_hi hh hsz, hb.trans (hF.below hb.size fun k _ hk => hu k hk)⟩, hF⟩
 rcases hp with hp | hp
 ·exact h5 k hk hp
 ·have := hh k (h3 k hk); omega
theorem DW.then {w'' : World} {m'' : DM} {L'' : LM} {gl' : Nat} (h1 : Fr S w w') (h2 : DW w0 w'' (ext (ext S w w') w' w'') g m'' gl' L'' ∧ Fr (ext S w w') w' w'') : DW w0 w'' (ext S w w'') g m'' gl' L'' ∧ Fr S w w'' :=
 have hx : ∀ k, ext S w w'' k → ext (ext S w w') w' w'' k := fun k hk => hk.elim (fun h => .inl (.inl h)) fun hk => (Nat.lt_or_ge k w'.heap.size).elim (fun h => .inl (.inr ⟨hk.1, h⟩)) fun h => .inr ⟨h, hk.2⟩
 ⟨⟨h2.1.dl.mono fun _ hk => ext_trans h1.size h2.2.size hk, fun k hk => h2.1.up k (hx k hk), fun k hk => h2.1.hi k (hx k hk), h2.1.bel⟩, h1.ext h2.2⟩
theorem DW.same (h : DW w0 w S g m gl L) : DW w0 w (ext S w w) g m gl L ∧ Fr S w w := ⟨⟨h.dl.mono fun _ hk => .inl hk, fun k hk => hk.elim (h.up k) fun hk => absurd hk.1 (by omega), fun k hk => hk.elim (h.hi k) fun hk => hk.2, h.bel⟩, Fr.refl _ _⟩
theorem DW.below (h : DW w0 w S g m gl L) (hb : Below w.heap.size w w') : DW w0 w' S g m gl L := by
 obtain ⟨⟨O, P, ⟨bv, wv, xs, h1⟩, ⟨tv, rv, ws, h2⟩, h3, h4, h5⟩, hu, hh, hb0⟩ := h
 exact ⟨⟨O, P, ⟨bv, wv, xs, h1.below hb⟩, ⟨tv, rv, ws, h2.below hb⟩, h3, h4, h5⟩, hu, fun k hk => Nat.lt_of_lt_of_le (hh k hk) hb.size, hb0.trans (hb.mono hb0.size)⟩
/-- Memory made first, then a call. -/
theorem DW.behind {w1 w2 : World} {m' : DM} (hs : w0.heap.size ≤ w.heap.size) (hb : Below w.heap.size w w1) (h : DW w0 w2 (ext S w1 w2) g m' gl L' ∧ Fr S w1 w2) : DW w0 w2 (ext S w w2) g m' gl L' ∧ Fr S w w2 := by
 have hF : Fr S w w2 := (Fr.of_below (S := S) hb).trans h.2 fun _ _ hk => hk
 refine ⟨⟨h.1.dl.mono fun k hk => hk.imp id fun hk => ⟨Kv hb.size hk.1, hk.2⟩, fun k hk => hk.elim (fun hk => h.1.up k (.inl hk)) fun hk => Kv hs hk.1, fun k hk => hk.elim (fun hk => h.1.hi k (.inl hk)) fun hk => hk.2, h.1.bel⟩, hF⟩
/-- The cells of the log's block, in every world that keeps it. -/
theorem DW.row (h : DW w0 w S g m gl L) : ∃ P tv rv ws, LogV w P gl g L tv rv ws ∧ ∀ k, P k → S k := by
 obtain ⟨⟨_, P, _, ⟨tv, rv, ws, h2⟩, _, h4, _⟩, _, _, _⟩ := h
 exact ⟨P, tv, rv, ws, h2, h4⟩
theorem DW.disk (h : DW w0 w S g m gl L) : ∃ O, DiskAt w O g m ∧ ∀ k, O k → S k := by
 obtain ⟨⟨O, _, h1, _, h3, _⟩, _, _, _⟩ := h
 exact ⟨O, h1, h3⟩
theorem DW.at (h : DW w0 w S g m gl L) : w.cell? ⟨gl, 0, none⟩ = some (.pointer (some ⟨g, 0, none⟩)) ∧ w.cell? ⟨gl, 1, none⟩ = some (.int .i64 (L.gen : Int)) ∧ w.cell? ⟨gl, 2, none⟩ = some (.int .i64 (L.slot : Int)) ∧ w.cell? ⟨gl, 5, none⟩ = some (.int .i64 (endOf L.recs : Int)) ∧ w.cell? ⟨gl, 6, none⟩ = some (.bool L.dead) := by
 obtain ⟨P, tv, rv, ws, h2, _⟩ := h.row
 exact ⟨h2.cell 0, h2.cell 1, h2.cell 2, h2.cell 5, h2.cell 6⟩
theorem DW.fz (h : DW w0 w S g m gl L) (k : Nat) : w.frozen? ⟨gl, k, none⟩ = false := by
 obtain ⟨P, tv, rv, ws, h2, _⟩ := h.row
 exact h2.free k

/-- What stands from the beginning: errors, tables. -/
structure EW (w : World) (ea : Nat → Addr) : Prop where
 sha : ShaTabs w
 d : DErrs w ea
 long : w.cell? ⟨7, 0, none⟩ = some (.iface 338 (.pointer (some (ea 3))))
 size : 28 ≤ w.heap.size

theorem DW.g26 (h : DW w0 w S g m gl L) (hE : EW w0 ea) : 28 ≤ g := by
 obtain ⟨O, ⟨bv, wv, xs, h1⟩, h3⟩ := h.disk
 exact Kv hE.size (h.up g (h3 g h1.ownG))
theorem DW.errs (h : DW w0 w S g m gl L) (hE : EW w0 ea) : DErrs w ea := hE.d.keep (Kz h.bel)

theorem Write_W (area at_ : Int) (A : Option Addr) (n k : Nat) (bs : List UInt8) (h : DW w0 w S g m gl L) (hE : EW w0 ea) (hok : m.Ok) (hb : RB w A n bs) (hn : n ≤ 1048576) (hw : m.waits.length ≤ 1000) :
  Calls Tryz.prog 188 #[.pointer (some ⟨g, 0, none⟩), .int .i64 area, .int .i64 at_, .slice A n k] w fun e w' => e = .returned (dErr ea (m.writeE area at_ bs.length)) ∧ DW w0 w' (ext S w w') g (m.write area at_ bs) gl L ∧ Fr S w w' := by
 obtain ⟨O, h1, _, hu⟩ := h.useD
 refine (DWrite_any area at_ A n k bs h1 hok (h.errs hE) (h.g26 hE) hb hn hw).mono ?_
 rintro e w' ⟨rfl, hd', hf⟩
 exact ⟨rfl, hu _ _ hd' hf⟩
theorem Cut_W (area at_ : Int) (h : DW w0 w S g m gl L) (hE : EW w0 ea) (hok : m.Ok) (hw : m.waits.length ≤ 1000) :
  Calls Tryz.prog 72 #[.pointer (some ⟨g, 0, none⟩), .int .i64 area, .int .i64 at_] w fun e w' => e = .returned (dErr ea (m.cutE area at_)) ∧ DW w0 w' (ext S w w') g (m.cut area at_) gl L ∧ Fr S w w' := by
 obtain ⟨O, h1, _, hu⟩ := h.useD
 refine (DCut_any area at_ h1 hok (h.errs hE) (h.g26 hE) hw).mono ?_
 rintro e w' ⟨rfl, hd', hf⟩
 exact ⟨rfl, hu _ _ hd' hf⟩
/-- The error's number of a sync. -/
def syE (m : DM) : Nat := if m.dead = true then 25 else 0
theorem Sync_W (h : DW w0 w S g m gl L) (hE : EW w0 ea) (hok : m.Ok) :
  Calls Tryz.prog 73 #[.pointer (some ⟨g, 0, none⟩)] w fun e w' => e = .returned (dErr ea (syE m)) ∧ DW w0 w' (ext S w w') g m.sync gl L ∧ Fr S w w' := by
 obtain ⟨O, h1, _, hu⟩ := h.useD
 refine (Sync_any h1 hok (h.errs hE) (h.g26 hE)).mono ?_
 rintro e w' ⟨rfl, hd', hf⟩
 exact ⟨rfl, hu _ _ hd' hf⟩
theorem Free_W (h : DW w0 w S g m gl L) (hok : m.Ok) : Calls Tryz.prog 96 #[.pointer (some ⟨g, 0, none⟩)] w fun e w' => e = .returned (.int .i64 m.free) ∧ w = w' := by
 obtain ⟨O, ⟨bv, wv, xs, h1⟩, _⟩ := h.disk
 exact Free_any hok h1
theorem Size_W (a : Nat) (ha : a < 3) (h : DW w0 w S g m gl L) : Calls Tryz.prog 71 #[.pointer (some ⟨g, 0, none⟩), .int .i64 (a : Int)] w fun e w' => e = .returned (.int .i64 ((m.b (3 + a)).length : Int)) ∧ w = w' := by
 obtain ⟨O, ⟨bv, wv, xs, h1⟩, _⟩ := h.disk
 exact Size_in a ha h1

theorem dErr_pos (ea : Nat → Addr) {n : Nat} (h : n ≠ 0) : dErr ea n = .iface 338 (.pointer (some (ea n))) := by
 cases n with
 | zero => exact absurd rfl h
 | succ n => rfl

/-! ### write, clear -/
set_option maxHeartbeats 1000000 in
set_option maxRecDepth 100000 in
theorem wwrite_any (area at_ : Int) (A : Option Addr) (n k : Nat) (bs : List UInt8) (h : DW w0 w S g m gl L) (hE : EW w0 ea) (hok : m.Ok) (hb : RB w A n bs) (hn : n ≤ 1048576) (hw : m.waits.length ≤ 1000) :
  Calls Tryz.prog 144 #[.pointer (some ⟨gl, 0, none⟩), .int .i64 area, .int .i64 at_, .slice A n k] w fun e w' => e = .returned (dErr ea (wrE m area at_ bs)) ∧ DW w0 w' (ext S w w') g (wrM m area at_ bs) gl L ∧ Fr S w w' := by
 have c0 := h.at.1
 have H1 := Hj (Write_W area at_ A n k bs h hE hok hb hn hw)
 have HO := Hj (hok.write area at_ bs)
 have HE := Hj hE
 clear h hE hb
 unfold wrE wrM
 by_cases h0 : m.writeE area at_ bs.length = 0
 ·rw [if_pos h0, if_pos h0]
  change Calls _ _ _ _ fun e w' => e = .returned (dErr ea (syE (m.write area at_ bs))) ∧ _
  rw [h0] at H1
  generalize m.write area at_ bs = m1 at *
  clear h0
  have H2 := Hj (dErr_zero ea)
  rw [H2.out] at H1
  go_enter Tryz.func144, Tryz.ntmps144
  go_wp2_with (first
   | (go_at_call 188; (with_reducible refine H1.out.mono ?_); rintro e w1 ⟨rfl, hd1, hf1⟩; have c1 := hd1.at.1; have D1 := Hj hd1; have F1 := Hj hf1; clear hd1 hf1)
   | (go_at_call 73; (with_reducible refine (Sync_W D1.out HE.out HO.out).mono ?_); rintro e w2 ⟨rfl, hd2, hf2⟩; have D2 := Hj hd2; have F2 := Hj hf2; clear hd2 hf2))
  go_ret
  exact ⟨rfl, DW.then F1.out ⟨D2.out, F2.out⟩⟩
 ·rw [if_neg h0, if_neg h0]
  rw [dErr_pos ea h0] at H1 ⊢
  go_enter Tryz.func144, Tryz.ntmps144
  go_wp2_with (first
   | (go_at_call 188; (with_reducible refine H1.out.mono ?_); rintro e w1 ⟨rfl, hd1, hf1⟩; have D1 := Hj hd1; have F1 := Hj hf1; clear hd1 hf1))
  go_ret
  exact ⟨rfl, D1.out, F1.out⟩
set_option maxHeartbeats 1000000 in
set_option maxRecDepth 100000 in
theorem wclear_any (area : Int) (h : DW w0 w S g m gl L) (hE : EW w0 ea) (hok : m.Ok) (hw : m.waits.length ≤ 1000) :
  Calls Tryz.prog 150 #[.pointer (some ⟨gl, 0, none⟩), .int .i64 area] w fun e w' => e = .returned (dErr ea (clE m area)) ∧ DW w0 w' (ext S w w') g (clM m area) gl L ∧ Fr S w w' := by
 have c0 := h.at.1
 have H1 := Hj (Cut_W area 0 h hE hok hw)
 have HO := Hj (hok.cut area 0)
 have HE := Hj hE
 clear h hE
 unfold clE clM
 by_cases h0 : m.cutE area 0 = 0
 ·rw [if_pos h0, if_pos h0]
  change Calls _ _ _ _ fun e w' => e = .returned (dErr ea (syE (m.cut area 0))) ∧ _
  rw [h0] at H1
  generalize m.cut area 0 = m1 at *
  clear h0
  have H2 := Hj (dErr_zero ea)
  rw [H2.out] at H1
  go_enter Tryz.func150, Tryz.ntmps150
  go_wp2_with (first
   | (go_at_call 72; (with_reducible refine H1.out.mono ?_); rintro e w1 ⟨rfl, hd1, hf1⟩; have c1 := hd1.at.1; have D1 := Hj hd1; have F1 := Hj hf1; clear hd1 hf1)
   | (go_at_call 73; (with_reducible refine (Sync_W D1.out HE.out HO.out).mono ?_); rintro e w2 ⟨rfl, hd2, hf2⟩; have D2 := Hj hd2; have F2 := Hj hf2; clear hd2 hf2))
  go_ret
  exact ⟨rfl, DW.then F1.out ⟨D2.out, F2.out⟩⟩
 ·rw [if_neg h0, if_neg h0]
  rw [dErr_pos ea h0] at H1 ⊢
  go_enter Tryz.func150, Tryz.ntmps150
  go_wp2_with (first
   | (go_at_call 72; (with_reducible refine H1.out.mono ?_); rintro e w1 ⟨rfl, hd1, hf1⟩; have D1 := Hj hd1; have F1 := Hj hf1; clear hd1 hf1))
  go_ret
  exact ⟨rfl, D1.out, F1.out⟩

/-! ### done -/
/-- The log behind done. -/
def LM.done (L : LM) (e : Nat) : LM := if e = 0 then L else { L with dead := true }
def dnE (e : Nat) : Nat := if e = 0 then 0 else 25
set_option maxHeartbeats 1000000 in
set_option maxRecDepth 100000 in
theorem wdone_any (e0 : Nat) (h : DW w0 w S g m gl L) (hE : EW w0 ea) :
  Calls Tryz.prog 97 #[.pointer (some ⟨gl, 0, none⟩), dErr ea e0] w fun e w' => e = .returned (dErr ea (dnE e0)) ∧ DW w0 w' (ext S w w') g m gl (L.done e0) ∧ Fr S w w' := by
 unfold dnE LM.done
 by_cases h0 : e0 = 0
 ·subst h0
  rw [if_pos rfl, if_pos rfl, dErr_zero]
  have HS := Hj h.same
  clear h hE
  go_enter Tryz.func97, Tryz.ntmps97
  go_wp2
  go_ret
  exact ⟨rfl, HS.out⟩
 ·rw [if_neg h0, if_neg h0, dErr_pos ea h0, dErr_pos ea (n := 25) (by decide)]
  have c6 := h.at.2.2.2.2
  have f6 := h.fz 6
  have d1 := (hE.d.keep (Kz h.bel)).down
  have hg : 25 < w0.heap.size := Nat.lt_of_lt_of_le (by decide) hE.size
  obtain ⟨P, tv, rv, ws, hV, _, hu⟩ := h.useL
  have hPl := hV.ownG
  have hne : gl ≠ 25 := fun e => by
   obtain ⟨P', tv', rv', ws', hV', hP'⟩ := h.row
   have := h.up gl (hP' gl hV'.ownG)
   omega
  have HU := Hj hu
  have HV := Hj hV
  clear h hE hu hV
  go_enter Tryz.func97, Tryz.ntmps97
  go_wp2
  go_ret
  have hf : Fr (fun k => k = gl) w (w.setCell ⟨gl, 6, none⟩ (.bool true)) := (Fr.refl (fun k => k = gl) w).setCell (p := ⟨gl, 6, none⟩) (fun _ => rfl) _
  exact ⟨rfl, HU.out _ _ ⟨_, _, _, (HV.out.turn (L' := { L with dead := true }) hf (heap_setCell_same _ _ _ _ _ _ HV.out.cells) rfl rfl).mono fun _ _ hk => Or.inl hk⟩ (hf.mono fun _ _ e => by subst e; exact hPl)⟩
end
end Go.Proofs.YtfmagnpmjlppiaaGreatDoor

/- Layer 18 (wal): swap. -/
namespace Go.Proofs.YtfmagnpmjlppiaaGreatDoor
open Go.RowKit

section
variable {w w' w0 : World} {S : Nat → Prop} {gl g : Nat} {m : DM} {L : LM} {ea : Nat → Addr}
/-- A slice whose block is none of S. -/
def Off (S : Nat → Prop) (A : Option Addr) : Prop := ∀ p, A = some p → ¬ S p.block
theorem RB.fr {A : Option Addr} {n : Nat} {l : List UInt8} (h : RB w A n l) (hf : Fr S w w') (ha : Off S A) : RB w' A n l :=
 ⟨h.1, fun hn => let ⟨b, o, e, hc⟩ := h.2 hn; ⟨b, o, e, fun k hk => (hf.cell (p := ⟨b, o + k, none⟩) (World.block_lt_of_cell? w _ (hc k hk)) (fun hs => ha _ e hs)).trans (hc k hk)⟩⟩
theorem RB.fr0 {A : Option Addr} {n : Nat} {l : List UInt8} (h : RB w A n l) (hf : Fr S w w') (ha : 0 < n → Off S A) : RB w' A n l := by
 rcases Nat.eq_zero_or_pos n with h0 | h0
 ·subst h0
  exact ⟨h.1, fun h => absurd h (by omega)⟩
 ·exact h.fr hf (ha h0)
theorem flush_waits {m : DM} (h : syE m = 0) : m.sync.waits = [] := by
 unfold syE at h
 split at h
 ·cases h
 ·rename_i hd
  unfold DM.sync
  rw [if_neg hd]
  rfl
theorem clM_waits {m : DM} {a : Int} (h : clE m a = 0) : (clM m a).waits = [] := by
 unfold clE at h
 unfold clM
 split at h
 ·rename_i h0
  rw [if_pos h0]
  exact flush_waits h
 ·rename_i h0
  exact absurd h h0
theorem wrM_waits {m : DM} {a p : Int} {bs : List UInt8} (h : wrE m a p bs = 0) : (wrM m a p bs).waits = [] := by
 unfold wrE at h
 unfold wrM
 split at h
 ·rename_i h0
  rw [if_pos h0]
  exact flush_waits h
 ·rename_i h0
  exact absurd h h0

set_option maxHeartbeats 2000000 in
set_option maxRecDepth 100000 in
theorem swap_any (gen slot : Nat) (A : Option Addr) (n c : Nat) (text : List UInt8) (h : DW w0 w S g m gl L) (hE : EW w0 ea) (hok : m.Ok) (hb : RB w A n text) (hA : Off S A) (hnc : n ≤ c) (hc : c ≤ maxLen) (hn : 16 + n ≤ 1048576) (hg : gen < 4294967296) (hw : m.waits.length ≤ 1000) :
  Calls Tryz.prog 98 #[.pointer (some ⟨gl, 0, none⟩), .agg #[.int .i64 (gen : Int), .int .i64 (slot : Int), .slice A n c]] w fun e w' => e = .returned (dErr ea (swE m slot (snapB gen text))) ∧ DW w0 w' (ext S w w') g (swM m slot (snapB gen text)) gl L ∧ Fr S w w' := by
 have D0 := (Below.refl w.heap.size w).alloc Kj (.cells #[.int .i64 (gen : Int), .int .i64 (slot : Int), .slice A n c] 130)
 have E0 := heap_alloc_new w (.cells #[.int .i64 (gen : Int), .int .i64 (slot : Int), .slice A n c] 130)
 have Z0 : w.heap.size < (w.alloc (.cells #[.int .i64 (gen : Int), .int .i64 (slot : Int), .slice A n c] 130)).heap.size := by show _ < (w.heap.push _).size; rw [Array.size_push]; omega
 obtain ⟨wa, hwa⟩ : ∃ W, W = w.alloc (.cells #[.int .i64 (gen : Int), .int .i64 (slot : Int), .slice A n c] 130) := ⟨_, rfl⟩
 rw [← hwa] at D0 E0 Z0
 have HSw : Hid (w0.heap.size ≤ w.heap.size) := Hj h.bel.size
 have HU : Hid (¬ S w.heap.size) := Hj fun e => Nat.lt_irrefl _ (h.hi _ e)
 have Ha := h.below D0
 have c0 : wa.cell? ⟨w.heap.size, 0, none⟩ = some (.int .i64 (gen : Int)) := Kq 0 E0
 have c1 : wa.cell? ⟨w.heap.size, 1, none⟩ = some (.int .i64 (slot : Int)) := Kq 1 E0
 have c2 : wa.cell? ⟨w.heap.size, 2, none⟩ = some (.slice A n c) := Kq 2 E0
 have K0 : Hid (∀ W, Fr S wa W → W.cell? ⟨w.heap.size, 0, none⟩ = some (.int .i64 (gen : Int)) ∧ W.cell? ⟨w.heap.size, 1, none⟩ = some (.int .i64 (slot : Int)) ∧ W.cell? ⟨w.heap.size, 2, none⟩ = some (.slice A n c)) := Hj fun W hf =>
  ⟨(hf.cell (p := ⟨w.heap.size, 0, none⟩) Z0 HU.out).trans c0, (hf.cell (p := ⟨w.heap.size, 1, none⟩) Z0 HU.out).trans c1, (hf.cell (p := ⟨w.heap.size, 2, none⟩) Z0 HU.out).trans c2⟩
 have HR : Hid (∀ W, Fr S wa W → RB W A n text) := Hj fun W hf => (hb.keep (Kz D0)).fr hf hA
 have HTL := Hj hb.1
 have HE := Hj hE
 have HD0 := Hj D0
 have H1 := Hj (wclear_any (slot : Int) Ha hE hok hw)
 have HO1 := Hj (hok.clM (slot : Int))
 have HSB : Hid (∀ W, Below w0.heap.size w0 W → RB W A n text → Calls Tryz.prog 95 #[.agg #[.int .i64 (gen : Int), .int .i64 (slot : Int), .slice A n c]] W fun e w' => ∃ A' cap, e = .returned (.slice A' (16 + n) cap) ∧ RB w' A' (16 + n) (snapB gen text) ∧ Below W.heap.size W w') := Hj fun W hW hr =>
  (sbytes_any gen slot A n c text W hr hnc hc hg (by omega) (hE.sha.keep (Kz hW))).mono fun e w' ⟨v, h1, h2, h3⟩ => by
   obtain ⟨A', cap, rfl, _, _, h6⟩ := h2.form
   rw [snapB_length, hr.1] at h1 h6
   exact ⟨A', cap, h1, h6, h3⟩
 have HW1 : Hid (clE m (slot : Int) = 0 → (clM m (slot : Int)).waits.length ≤ 1000) := Hj fun e => by rw [clM_waits e]; decide
 unfold swE swM
 generalize hm1 : clM m (slot : Int) = m1 at *
 generalize he1 : clE m (slot : Int) = e1 at *
 clear h hE hb hA hm1 he1 D0 E0 Z0 Ha c0 c1 c2 hok
 by_cases h1 : e1 = 0
 ·subst h1
  rw [if_pos rfl, if_pos rfl]
  have HW1' := Hj (HW1.out rfl)
  clear HW1
  have Hz := Hj (dErr_zero ea)
  rw [Hz.out] at H1
  have HO2 := Hj (HO1.out.wrM (slot : Int) 0 (snapB gen text))
  have HW2 : Hid (wrE m1 (slot : Int) 0 (snapB gen text) = 0 → (wrM m1 (slot : Int) 0 (snapB gen text)).waits.length ≤ 1000) := Hj fun e => by rw [wrM_waits e]; decide
  have H2 : Hid (∀ W S', DW w0 W S' g m1 gl L → ∀ A' cap, RB W A' (16 + n) (snapB gen text) → Calls Tryz.prog 144 #[.pointer (some ⟨gl, 0, none⟩), .int .i64 (slot : Int), .int .i64 0, .slice A' (16 + n) cap] W fun e w' => e = .returned (dErr ea (wrE m1 (slot : Int) 0 (snapB gen text))) ∧ DW w0 w' (ext S' W w') g (wrM m1 (slot : Int) 0 (snapB gen text)) gl L ∧ Fr S' W w') := Hj fun W S' hd A' cap hr =>
   wwrite_any (slot : Int) 0 A' (16 + n) cap _ hd HE.out HO1.out hr hn HW1'.out
  generalize wrM m1 (slot : Int) 0 (snapB gen text) = m2 at *
  generalize wrE m1 (slot : Int) 0 (snapB gen text) = e2 at *
  by_cases h2 : e2 = 0
  ·subst h2
   rw [if_pos rfl, if_pos rfl]
   have HW2' := Hj (HW2.out rfl)
   clear HW2
   rw [Hz.out] at H2
   go_enter Tryz.func98, Tryz.ntmps98
   go_wp2_with (first
    | (go_at_call 150; rw [← hwa]; (with_reducible refine H1.out.mono ?_); rintro e w1 ⟨rfl, hd1, hf1⟩; obtain ⟨x0, x1, x2⟩ := K0.out w1 hf1; have D1 := Hj hd1; have F1 := Hj hf1; clear hd1 hf1)
    | fail)
   have F1d : Hid (Fr S wa w1.drew) := Hj F1.out.drew
   go_region_held3 (fun w' => w'.cell? ⟨w.heap.size, 0, none⟩ = some (.int .i64 (gen : Int)) ∧ w'.cell? ⟨w.heap.size, 1, none⟩ = some (.int .i64 (slot : Int)) ∧ w'.cell? ⟨w.heap.size, 2, none⟩ = some (.slice A n c)) (first | exact ⟨by assumption, by assumption, by assumption⟩ | go_keep)
    (first
     | (go_at_call 95; go_loud ((with_reducible refine (HSB.out w1.drew (Below.drew D1.out.bel) (HR.out _ F1d.out)).mono ?_); rintro e w2 ⟨A2, k2, rfl, hr2, hb2⟩; have B2 : Hid (Below w1.heap.size w1 w2) := Hj (Below.undrewW hb2); have F2 : Hid (Fr S wa w2) := Hj (F1.out.trans (Fr.of_below (S := S) B2.out) fun _ _ hk => hk); obtain ⟨y0, y1, y2⟩ := K0.out w2 F2.out; have R2 := Hj hr2; clear hr2 hb2))
     | (go_at_call 144; go_loud ((with_reducible refine (H2.out w2 _ (D1.out.below B2.out) A2 k2 R2.out).mono ?_); rintro e w3 ⟨rfl, hd3, hf3⟩; have F3 : Hid (Fr S wa w3) := Hj (F2.out.trans hf3 fun k hk hs => hs.elim id fun hs => absurd hs.1 (Nat.not_le_of_lt hk)); obtain ⟨u0, u1, u2⟩ := K0.out w3 F3.out; have D3 := Hj hd3; have FF3 := Hj hf3; clear hd3 hf3)))
   all_goals
    go_wp2_with (first
     | (go_at_call 150; go_loud ((with_reducible refine (wclear_any 2 D3.out HE.out HO2.out HW2'.out).mono ?_); rintro e w4 ⟨rfl, hd4, hf4⟩; have D4 := Hj hd4; have F4 := Hj hf4; clear hd4 hf4))
     | fail)
    go_ret
    refine ⟨rfl, ?_⟩
    exact DW.behind HSw.out HD0.out (DW.then F1.out (DW.behind D1.out.bel.size B2.out (DW.then FF3.out ⟨D4.out, F4.out⟩)))
  ·rw [if_neg h2, if_neg h2]
   rw [dErr_pos ea h2] at H2 ⊢
   go_enter Tryz.func98, Tryz.ntmps98
   go_wp2_with (first
    | (go_at_call 150; rw [← hwa]; (with_reducible refine H1.out.mono ?_); rintro e w1 ⟨rfl, hd1, hf1⟩; obtain ⟨x0, x1, x2⟩ := K0.out w1 hf1; have D1 := Hj hd1; have F1 := Hj hf1; clear hd1 hf1)
    | fail)
   have F1d : Hid (Fr S wa w1.drew) := Hj F1.out.drew
   go_region_held3 (fun w' => w'.cell? ⟨w.heap.size, 0, none⟩ = some (.int .i64 (gen : Int)) ∧ w'.cell? ⟨w.heap.size, 1, none⟩ = some (.int .i64 (slot : Int)) ∧ w'.cell? ⟨w.heap.size, 2, none⟩ = some (.slice A n c)) (first | exact ⟨by assumption, by assumption, by assumption⟩ | go_keep)
    (first
     | (go_at_call 95; go_loud ((with_reducible refine (HSB.out w1.drew (Below.drew D1.out.bel) (HR.out _ F1d.out)).mono ?_); rintro e w2 ⟨A2, k2, rfl, hr2, hb2⟩; have B2 : Hid (Below w1.heap.size w1 w2) := Hj (Below.undrewW hb2); have F2 : Hid (Fr S wa w2) := Hj (F1.out.trans (Fr.of_below (S := S) B2.out) fun _ _ hk => hk); obtain ⟨y0, y1, y2⟩ := K0.out w2 F2.out; have R2 := Hj hr2; clear hr2 hb2))
     | (go_at_call 144; go_loud ((with_reducible refine (H2.out w2 _ (D1.out.below B2.out) A2 k2 R2.out).mono ?_); rintro e w3 ⟨rfl, hd3, hf3⟩; have F3 : Hid (Fr S wa w3) := Hj (F2.out.trans hf3 fun k hk hs => hs.elim id fun hs => absurd hs.1 (Nat.not_le_of_lt hk)); obtain ⟨u0, u1, u2⟩ := K0.out w3 F3.out; have D3 := Hj hd3; have FF3 := Hj hf3; clear hd3 hf3)))
   all_goals
    go_wp2
    go_ret
    refine ⟨rfl, ?_⟩
    exact DW.behind HSw.out HD0.out (DW.then F1.out (DW.behind D1.out.bel.size B2.out ⟨D3.out, FF3.out⟩))
 ·rw [if_neg h1, if_neg h1]
  rw [dErr_pos ea h1] at H1 ⊢
  go_enter Tryz.func98, Tryz.ntmps98
  go_wp2_with (first
   | (go_at_call 150; go_loud (rw [← hwa]; (with_reducible refine H1.out.mono ?_); rintro e w1 ⟨rfl, hd1, hf1⟩; have D1 := Hj hd1; have F1 := Hj hf1; clear hd1 hf1))
   | fail)
  go_ret
  exact ⟨rfl, DW.behind HSw.out HD0.out ⟨D1.out, F1.out⟩⟩
end
end Go.Proofs.YtfmagnpmjlppiaaGreatDoor

/- Layer 18 (wal): one record more in memory; Append. -/
namespace Go.Proofs.YtfmagnpmjlppiaaGreatDoor
open Go.RowKit

theorem info_byt : (Tryz.prog.info? 24).map (fun i => (i.zero, i.size, i.bytes)) = some (some (.slice none 0 0), 1, 24) := by kernel_rfl
theorem Src.one (w W : World) (A : Option Addr) (n k : Nat) (cp : Nat) (hW : Keeps (w.alloc (.cells #[.slice A n k] 24)) W) : Src Tryz.prog 1 88 (.slice (some ⟨w.heap.size, 0, none⟩) 1 cp) 1 [.slice A n k] W :=
 Src.ofSlice _ Tryz.underlying88 _ _ cp _ rfl (fun j u hu => hW _ _ (World.news_of_block (cs := #[.slice A n k]) (heap_alloc_new w _) j u hu)) (fun u hu => by
  rw [List.mem_singleton.1 hu]; rfl)
theorem step_append_r {ops : Array Oper} {o : Oper} {a : Act} {w : World} {K : Act → World → Prop} {Q : Exit → Act → World → Prop} {E : Prop} (hgd : o.guard = none) (s x : Operand)
  (ho : o.op = .call { callee := .builtin .append, args := #[s, x], argTypes := #[88, 88] })
  {v : Value} {n : Nat} {ws : List Value} (hown : OwnS w 0 24 1 v n ws) (hs : a.eval s = v)
  {xv y : Value} (hsrc : Src Tryz.prog 1 88 xv 1 [y] w) (hx : a.eval x = xv) (hbytes : n ≤ 1000000)
  (h : ∀ v' w', OwnS w' 0 24 1 v' (n + 1) (ws ++ [y]) → w.grownBy w' v.ownBlock → (v'.ownBlock = v.ownBlock ∨ v'.ownBlock = some w.heap.size) → K (a.put o.dst v') w') :
  if Region.wanted o (yielded ops a.tmps) = true then Oper.wp Tryz.prog o a w K Q else E := by
 obtain ⟨i0, hi, hz0, hz1, hz2⟩ := info_parts4 info_byt
 exact step_append_ownS hgd s x 88 88 ho i0 _ 24 Tryz.underlying88 hi hz0 hz1 hz2 rfl (by omega) hs hown xv 1 _ hx hsrc (by unfold maxLen; omega) (by omega) (Nat.zero_le _) fun v' w' h1 h2 h3 => h v' w' h1 h2 h3

section
variable {w w' w0 : World} {S P : Nat → Prop} {gl g : Nat} {m : DM} {L : LM} {ea : Nat → Addr} {tv rv : Value} {ws : List (List UInt8 × Value)}
/-- One record more. -/
theorem LogV.push (h : LogV w P gl g L tv rv ws) {x : List UInt8} {xv rv' : Value} (hf : Fr (fun k => k = gl ∨ rv.ownBlock = some k) w w') (hc : w'.heap[gl]? = some (.cells (lcells g (L.with x) tv rv') 132 (0, 0)))
  (hv : OwnS w' 0 24 1 rv' (ws.length + 1) (ws.map (fun x => x.2) ++ [xv])) (hat : rv'.ownBlock = rv.ownBlock ∨ ∃ k, rv'.ownBlock = some k ∧ w.heap.size ≤ k)
  (hx : OB w' w.heap.size xv x) : LogV w' (ext P w w') gl g (L.with x) tv rv' (ws ++ [(x, xv)]) := by
 have hxn : ∀ (x : Value) (l : List UInt8), OB w 0 x l → ∀ k, x.ownBlock = some k → ¬ (k = gl ∨ rv.ownBlock = some k) := fun x l hx k hk e => by
  obtain ⟨cur, hcur⟩ := own_type hx hk
  rcases e with rfl | e
  ·exact absurd (types_ne hcur h.cells) (by decide)
  ·obtain ⟨cur', hc'⟩ := own_type h.recs e
   exact absurd (types_ne hcur hc') (by decide)
 refine ⟨hc, OwnS.kept h.text hf (hxn _ _ h.text), ?_, ?_, fun x hx' => ?_, .inl h.ownG, fun k hk => .inl (h.ownT k hk), fun k hk => ?_, fun x hx' k hk => ?_⟩
 ·rw [List.length_append, List.map_append]; exact hv
 ·rw [List.map_append, h.eq]; rfl
 ·rcases List.mem_append.1 hx' with hx' | hx'
  ·exact OwnS.kept (h.each x hx') hf (hxn _ _ (h.each x hx'))
  ·rw [List.mem_singleton.1 hx']
   exact hx.mono (Nat.zero_le _)
 ·rcases hat with e | ⟨q, e, hq⟩
  ·exact .inl (h.ownR k (e.symm.trans hk))
  ·refine .inr ⟨?_, (OwnS.lt hv k hk).2⟩
   rw [e] at hk
   injection hk with hk
   omega
 ·rcases List.mem_append.1 hx' with hx' | hx'
  ·exact .inl (h.ownX x hx' k hk)
  ·rw [List.mem_singleton.1 hx'] at hk
   exact .inr (OB.lt hx k hk)

/-- What stands behind the append: w: before; wa: memory made; w3: appended. -/
theorem push_facts {wa w3 : World} {v3 : Value} (h : LogV w P gl g L tv rv ws) (hb : Below w.heap.size w wa) (hgr : wa.grownBy w3 rv.ownBlock) (hat : v3.ownBlock = rv.ownBlock ∨ v3.ownBlock = some wa.heap.size) :
  w3.heap[gl]? = some (.cells (lcells g L tv rv) 132 (0, 0)) ∧ Fr (fun q => q = gl ∨ rv.ownBlock = some q) w w3 ∧ (v3.ownBlock = rv.ownBlock ∨ ∃ q, v3.ownBlock = some q ∧ w.heap.size ≤ q) := by
 have hg3 := ((Fr.of_grown hgr).block gl (Nat.lt_of_lt_of_le h.lt hb.size) (fun e => h.rne e.symm)).trans ((hb.block gl h.lt).trans h.cells)
 exact ⟨hg3, (Fr.of_below hb).trans (Fr.of_grown hgr) (fun q _ hq => .inr hq.symm), hat.imp id fun e => ⟨_, e, hb.size⟩⟩
/-- .. and behind both stores. -/
theorem push_done {wa w3 : World} {A3 : Option Addr} {c3 : Nat} {x : List UInt8} {xv : Value} (h : LogV w P gl g L tv rv ws) (hb : Below w.heap.size w wa) (hgr : wa.grownBy w3 rv.ownBlock) (hat : (Value.slice A3 (ws.length + 1) c3).ownBlock = rv.ownBlock ∨ (Value.slice A3 (ws.length + 1) c3).ownBlock = some wa.heap.size)
  (hv : OwnS w3 0 24 1 (.slice A3 (ws.length + 1) c3) (ws.length + 1) (ws.map (fun x => x.2) ++ [xv])) (hx : OB wa w.heap.size xv x) :
  LogAt ((w3.setCell ⟨gl, 4, none⟩ (.slice A3 (ws.length + 1) c3)).setCell ⟨gl, 5, none⟩ (.int .i64 ((endOf L.recs + (20 + x.length) : Nat) : Int))) (ext P w ((w3.setCell ⟨gl, 4, none⟩ (.slice A3 (ws.length + 1) c3)).setCell ⟨gl, 5, none⟩ (.int .i64 ((endOf L.recs + (20 + x.length) : Nat) : Int)))) gl g (L.with x) ∧
   Fr P w ((w3.setCell ⟨gl, 4, none⟩ (.slice A3 (ws.length + 1) c3)).setCell ⟨gl, 5, none⟩ (.int .i64 ((endOf L.recs + (20 + x.length) : Nat) : Int))) := by
 obtain ⟨h1, h2, h3⟩ := push_facts h hb hgr hat
 have hF := (h2.setCell (p := ⟨gl, 4, none⟩) (fun _ => .inl rfl) (.slice A3 (ws.length + 1) c3)).setCell (p := ⟨gl, 5, none⟩) (fun _ => .inl rfl) (.int .i64 ((endOf L.recs + (20 + x.length) : Nat) : Int))
 have keep : ∀ (v : Value) (b n : Nat) (e : TypeId) (l : List Value), OwnS w3 b e 1 v n l → e ≠ 132 → OwnS ((w3.setCell ⟨gl, 4, none⟩ (.slice A3 (ws.length + 1) c3)).setCell ⟨gl, 5, none⟩ (.int .i64 ((endOf L.recs + (20 + x.length) : Nat) : Int))) b e 1 v n l := fun v b n e l ho hne =>
  OwnS.kept ho (((Fr.refl (fun k => k = gl) w3).setCell (p := ⟨gl, 4, none⟩) (fun _ => rfl) (.slice A3 (ws.length + 1) c3)).setCell (p := ⟨gl, 5, none⟩) (fun _ => rfl) (.int .i64 ((endOf L.recs + (20 + x.length) : Nat) : Int))) fun k hk e => by
   subst e
   obtain ⟨cur, hcur⟩ := own_type ho hk
   exact hne (types_ne hcur h1)
 have hx3 : OB w3 w.heap.size xv x := OwnS.kept hx (Fr.of_grown hgr) fun k hk e => by
  obtain ⟨cur, hcur⟩ := own_type h.recs e.symm
  have := (OB.lt hx k hk).1
  have := (OwnS.lt h.recs k e.symm).2
  omega
 refine ⟨⟨tv, _, _, h.push hF ?_ (keep _ _ _ _ _ hv (by decide)) h3 (keep _ _ _ _ _ hx3 (by decide))⟩, hF.mono fun q _ hq => ?_⟩
 ·have := heap_setCell_same _ gl 5 _ _ (.int .i64 ((endOf L.recs + (20 + x.length) : Nat) : Int)) (heap_setCell_same _ gl 4 _ _ (.slice A3 (ws.length + 1) c3) h1)
  rw [this]
  show some (Obj.cells #[.pointer (some ⟨g, 0, none⟩), .int .i64 (L.gen : Int), .int .i64 (L.slot : Int), tv, .slice A3 (ws.length + 1) c3, .int .i64 ((endOf L.recs + (20 + x.length) : Nat) : Int), .bool L.dead] _ _) = some (Obj.cells #[.pointer (some ⟨g, 0, none⟩), .int .i64 (L.gen : Int), .int .i64 (L.slot : Int), tv, .slice A3 (ws.length + 1) c3, .int .i64 (endOf (L.recs ++ [x]) : Int), .bool L.dead] _ _)
  rw [endOf_snoc]
 ·rcases hq with rfl | hq
  ·exact h.ownG
  ·exact h.ownR q hq
end
end Go.Proofs.YtfmagnpmjlppiaaGreatDoor

/- Layer 18 (wal): Append. -/
namespace Go.Proofs.YtfmagnpmjlppiaaGreatDoor
open Go.RowKit

section
variable {w w' w0 : World} {S P : Nat → Prop} {gl g : Nat} {m : DM} {L : LM} {ea : Nat → Addr} {tv rv : Value} {ws : List (List UInt8 × Value)}

set_option maxHeartbeats 1000000 in
set_option maxRecDepth 100000 in
theorem append_bad (A : Option Addr) (n c : Nat) (text : List UInt8) (h : DW w0 w S g m gl L) (hE : EW w0 ea) (hok : m.Ok) (hb : RB w A n text) (hr : L.room m text ≠ 0) :
  Calls Tryz.prog 89 #[.pointer (some ⟨gl, 0, none⟩), .slice A n c] w fun e w' => e = .returned (dErr ea (L.room m text)) ∧ w = w' := by
 have c6 := h.at.2.2.2.2
 have c0 := h.at.1
 have d1 := (h.errs hE).down
 have d2 := (h.errs hE).full
 have d3 : w.cell? ⟨7, 0, none⟩ = some (.iface 338 (.pointer (some (ea 3)))) := Kz h.bel _ _ hE.long
 have HF := Hj (Free_W h hok)
 have hl := hb.1
 clear h hE hb
 unfold LM.room at hr ⊢
 cases hd : L.dead with
 | true =>
  rw [if_pos rfl]
  rw [hd] at c6
  show Calls _ _ _ _ fun e w' => e = .returned (.iface 338 (.pointer (some (ea 25)))) ∧ w = w'
  go_enter Tryz.func89, Tryz.ntmps89
  go_wp2
  go_ret
  exact ⟨rfl, rfl⟩
 | false =>
  rw [hd] at c6 hr
  rw [if_neg (by decide)] at hr ⊢
  by_cases h1 : 16384 < text.length
  ·rw [if_pos h1]
   have q1 : decide ((n : Int) > 16384) = true := decide_eq_true (by omega)
   have q1' : decide (16384 < (n : Int)) = true := decide_eq_true (by omega)
   show Calls _ _ _ _ fun e w' => e = .returned (.iface 338 (.pointer (some (ea 3)))) ∧ w = w'
   go_enter Tryz.func89, Tryz.ntmps89
   go_wp2
   go_ret
   exact ⟨rfl, rfl⟩
  ·rw [if_neg h1] at hr ⊢
   by_cases h2 : m.free < 20 + (text.length : Int)
   ·rw [if_pos h2]
    have q1 : decide ((n : Int) > 16384) = false := decide_eq_false (by omega)
    have q1' : decide (16384 < (n : Int)) = false := decide_eq_false (by omega)
    have q2 : decide (20 + (n : Int) > m.free) = true := decide_eq_true (by omega)
    have q2' : decide (m.free < 20 + (n : Int)) = true := decide_eq_true (by omega)
    have n0 : (n : Int) ≤ 16384 := by omega
    clear h1 h2 hr hl
    generalize m.free = F at *
    show Calls _ _ _ _ fun e w' => e = .returned (.iface 338 (.pointer (some (ea 26)))) ∧ w = w'
    go_enter Tryz.func89, Tryz.ntmps89
    go_wp2_with (first
     | (go_at_call 96; (with_reducible refine HF.out.mono ?_); rintro e w1 ⟨rfl, rfl⟩)
     | fail)
    go_ret
    exact ⟨rfl, rfl⟩
   ·rw [if_neg h2] at hr
    exact absurd rfl hr

set_option maxHeartbeats 2000000 in
set_option maxRecDepth 100000 in
theorem append_good (A : Option Addr) (n c : Nat) (text : List UInt8) (h : DW w0 w S g m gl L) (hE : EW w0 ea) (hok : m.Ok) (hL : L.Ok) (hb : RB w A n text) (hA : 0 < n → Off S A) (hnc : n ≤ c) (hc : c ≤ maxLen) (hw : m.waits.length ≤ 1000) (hr : L.room m text = 0) :
  Calls Tryz.prog 89 #[.pointer (some ⟨gl, 0, none⟩), .slice A n c] w fun e w' => e = .returned (dErr ea (dnE (wrE m 2 (endOf L.recs : Int) (recB L.gen L.recs.length text)))) ∧ DW w0 w' (ext S w w') g (wrM m 2 (endOf L.recs : Int) (recB L.gen L.recs.length text)) gl (if wrE m 2 (endOf L.recs : Int) (recB L.gen L.recs.length text) = 0 then L.with text else { L with dead := true }) ∧ Fr S w w' := by
 obtain ⟨hd, h1, h2⟩ := room_zero hr
 have hl := hb.1
 have c0 := h.at.1
 have c1 := h.at.2.1
 have c6 := h.at.2.2.2.2
 rw [hd] at c6
 have HF := Hj (Free_W h hok)
 have q1 : decide ((n : Int) > 16384) = false := decide_eq_false (by omega)
 have q1' : decide (16384 < (n : Int)) = false := decide_eq_false (by omega)
 have q2 : decide (20 + (n : Int) > m.free) = false := decide_eq_false (by omega)
 have q2' : decide (m.free < 20 + (n : Int)) = false := decide_eq_false (by omega)
 have n0 : (n : Int) ≤ 16384 := by omega
 have hge := endOf_ge L.recs
 have hL3 := hL.recs
 have hL1 := hL.gen
 obtain ⟨P0, tv0, rv0, ws0, hV0, hP0⟩ := h.row
 have hnum := hV0.num
 obtain ⟨AR, cR, e4, _, _⟩ := hV0.recs.form
 have c4 : w.cell? ⟨gl, 4, none⟩ = some (.slice AR L.recs.length cR) := by rw [← hnum, ← e4]; exact hV0.cell 4
 have HK : Hid (∀ W, Below w.heap.size w W → W.cell? ⟨gl, 1, none⟩ = some (.int .i64 (L.gen : Int)) ∧ W.cell? ⟨gl, 4, none⟩ = some (.slice AR L.recs.length cR) ∧ W.cell? ⟨gl, 0, none⟩ = some (.pointer (some ⟨g, 0, none⟩)) ∧ W.cell? ⟨gl, 5, none⟩ = some (.int .i64 (endOf L.recs : Int))) := Hj fun W hW =>
  ⟨Kz hW _ _ c1, Kz hW _ _ c4, Kz hW _ _ c0, Kz hW _ _ h.at.2.2.2.1⟩
 have HR : Hid (∀ W, Below w.heap.size w W → Calls Tryz.prog 143 #[.int .i64 (L.gen : Int), .int .i64 (L.recs.length : Int), .slice A n c] W fun e w' => ∃ A' cap, e = .returned (.slice A' (20 + n) cap) ∧ RB w' A' (20 + n) (recB L.gen L.recs.length text) ∧ Below W.heap.size W w') := Hj fun W hW =>
  (record_any L.gen L.recs.length A n c text W (hb.keep (Kz hW)) hnc hc (by omega) (by omega) (by omega) (hE.sha.keep (Kz (h.bel.trans (hW.mono h.bel.size))))).mono fun e w' ⟨v, k1, k2, k3⟩ => by
   obtain ⟨A', cap, rfl, _, _, k6⟩ := k2.form
   rw [recB_length, hl] at k1 k6
   exact ⟨A', cap, k1, k6, k3⟩
 have HD := Hj h
 have HE := Hj hE
 have HWr : Hid (∀ W S', DW w0 W S' g m gl L → ∀ A' cap, RB W A' (20 + n) (recB L.gen L.recs.length text) → Calls Tryz.prog 144 #[.pointer (some ⟨gl, 0, none⟩), .int .i64 2, .int .i64 (endOf L.recs : Int), .slice A' (20 + n) cap] W fun e w' => e = .returned (dErr ea (wrE m 2 (endOf L.recs : Int) (recB L.gen L.recs.length text))) ∧ DW w0 w' (ext S' W w') g (wrM m 2 (endOf L.recs : Int) (recB L.gen L.recs.length text)) gl L ∧ Fr S' W w') := Hj fun W S' hd A' cap hr =>
  wwrite_any 2 _ A' (20 + n) cap _ hd hE hok hr (by omega) hw
 have HB := Hj hb
 have HA := Hj hA
 have HN : Hid (n ≤ 16384) := Hj (by omega)
 have HLN : Hid (L.recs.length ≤ 1000000) := Hj (by omega)
 have HEN : Hid (endOf L.recs ≤ 1048576) := Hj hL3
 have HTL := Hj hl
 clear h hE hok hL hb hA hnc hc hw hr hd h1 h2 hV0 hP0 e4 hnum hge hL3 hL1 hl
 generalize wrM m 2 (endOf L.recs : Int) (recB L.gen L.recs.length text) = m1 at *
 generalize wrE m 2 (endOf L.recs : Int) (recB L.gen L.recs.length text) = e1 at *
 generalize m.free = F at *
 by_cases he : e1 = 0
 ·subst he
  rw [if_pos rfl, show dnE 0 = 0 from rfl]
  have Hz := Hj (dErr_zero ea)
  rw [Hz.out] at HWr ⊢
  have HDn : Hid (∀ W S', DW w0 W S' g m1 gl L → Calls Tryz.prog 97 #[.pointer (some ⟨gl, 0, none⟩), .nilIface] W fun e w' => e = .returned .nilIface ∧ DW w0 w' (ext S' W w') g m1 gl L ∧ Fr S' W w') := Hj fun W S' hd => by
   have := wdone_any 0 hd HE.out
   rw [show dnE 0 = 0 from rfl, Hz.out, show L.done 0 = L from if_pos rfl] at this
   exact this
  have HCl : Hid (∀ W, RB W A n text → Calls Tryz.prog 78 #[.slice A n c] W fun e w' => ∃ A' cap, e = .returned (.slice A' text.length cap) ∧ OB w' W.heap.size (.slice A' text.length cap) text ∧ Below W.heap.size W w') := Hj fun W h => Clone_any A n c text W h (by have := HN.out; omega)
  go_enter Tryz.func89, Tryz.ntmps89
  go_wp2_with (first
   | (go_at_call 96; (with_reducible refine HF.out.mono ?_); rintro e w1 ⟨rfl, rfl⟩)
   | fail)
  have Bd : Hid (Below w.heap.size w w.drew) := Hj (Below.drew (Below.refl _ _))
  go_region_held3 (fun w' => w'.cell? ⟨gl, 1, none⟩ = some (.int .i64 (L.gen : Int)) ∧ w'.cell? ⟨gl, 4, none⟩ = some (.slice AR L.recs.length cR)) (first | exact ⟨by assumption, by assumption⟩ | go_keep)
   (first
    | (go_at_call 143; go_loud ((with_reducible refine (HR.out w.drew Bd.out).mono ?_); rintro e w2 ⟨A2, k2, rfl, hr2, hb2⟩; have B2 : Hid (Below w.heap.size w w2) := Hj (Below.undrewW hb2); obtain ⟨x1, x4, x0, x5⟩ := HK.out w2 B2.out; have R2 := Hj hr2; clear hr2 hb2)))
  all_goals
   go_wp2_with (first
    | (go_at_call 144; go_loud ((with_reducible refine (HWr.out w2 S (HD.out.below B2.out) A2 k2 R2.out).mono ?_); rintro e w3 ⟨rfl, hd3, hf3⟩; have D3 := Hj hd3; have F3 := Hj hf3; clear hd3 hf3))
    | (go_at_call 97; go_loud ((with_reducible refine (HDn.out w3 _ D3.out).mono ?_); rintro e w4 ⟨rfl, hd4, hf4⟩; have D4 := Hj hd4; have F4 := Hj hf4; clear hd4 hf4))
    | fail)
   have FS4 := DW.behind HD.out.bel.size B2.out (DW.then F3.out ⟨D4.out, F4.out⟩)
   have HFS := Hj FS4
   have R4 := Hj ((HB.out.keep (Keeps.drewN w 0)).fr0 FS4.2 HA.out)
   obtain ⟨P, tv, rv, ws, hV, hPS, hU⟩ := FS4.1.useL
   have HV := Hj hV
   have HU := Hj hU
   obtain ⟨AV, cV, eV, _, _⟩ := hV.recs.form
   subst eV
   have hwn : ws.length ≤ 1000000 := by rw [hV.num]; exact HLN.out
   have cA : w4.cell? ⟨gl, 4, none⟩ = some (.slice AV ws.length cV) := hV.cell 4
   clear hV hPS hU FS4
   have cE : w4.cell? ⟨gl, 5, none⟩ = some (.int .i64 (endOf L.recs : Int)) := HFS.out.1.at.2.2.2.1
   have he0 : (0 : Int) ≤ (endOf L.recs : Int) ∧ (endOf L.recs : Int) ≤ 1048576 := by have := HEN.out; omega
   obtain ⟨he0, he1⟩ := he0
   have hq : ((endOf L.recs + (20 + text.length) : Nat) : Int) = (endOf L.recs : Int) + (20 + (n : Int)) := by have := HTL.out; omega
   have HQ := Hj hq
   clear hq
   go_region_law (first
    | (refine step_append_r rfl (.tmp 57) (.tmp 60) (by rfl) (HV.out.recs.below B6.out) (by rfl) (Src.one w5 _ A5 text.length k5 1 (fun _ _ h => h)) (by rfl) hwn ?_; intro v7 w7 hown7 hgr7 hat7; obtain ⟨A7, c7, rfl, -, -⟩ := OwnS.form hown7; have hp7 := push_facts HV.out B6.out hgr7 hat7; have m4 : w7.cell? ⟨gl, 4, none⟩ = some (.slice AV ws.length cV) := Kq 4 hp7.1; have m5 : w7.cell? ⟨gl, 5, none⟩ = some (.int .i64 (endOf L.recs : Int)) := Kq 5 hp7.1; have f4 : w7.frozen? ⟨gl, 4, none⟩ = false := Kx hp7.1; have f5 : w7.frozen? ⟨gl, 5, none⟩ = false := Kx hp7.1; have X7 := Hj (push_done HV.out B6.out hgr7 hat7 hown7 O6.out); clear hp7 hown7 hgr7 hat7)
    | (go_simp; go_at_call 78; go_loud ((with_reducible refine (HCl.out w4.drew (R4.out.keep (Keeps.drew w4))).mono ?_); rintro e w5 ⟨A5, k5, rfl, ho5, hb5⟩; have B5 : Hid (Below w4.heap.size w4 w5) := Hj (Below.undrewW hb5); have ck := Kz B5.out _ _ cA; have D6 := (Below.refl w5.heap.size w5).alloc Kj (.cells #[.slice A5 text.length k5] 24); have ck2 := Kz D6 _ _ ck; have B6 := Hj (B5.out.trans (D6.mono B5.out.size)); have O6 := Hj ((show OB w5 w4.heap.size _ _ from ho5).below D6); clear ho5 hb5 D6)))
   all_goals
    go_wp2
    go_ret
    have Y := HU.out _ _ X7.out.1 X7.out.2
    rw [HQ.out] at Y
    exact ⟨rfl, DW.then HFS.out.2 Y⟩
 ·rw [if_neg he]
  have HDE : Hid (dErr ea (dnE e1) = .iface 338 (.pointer (some (ea 25)))) := Hj (by unfold dnE; rw [if_neg he]; rfl)
  have HLD : Hid (L.done e1 = { L with dead := true }) := Hj (by unfold LM.done; rw [if_neg he])
  have HDn : Hid (∀ W S', DW w0 W S' g m1 gl L → Calls Tryz.prog 97 #[.pointer (some ⟨gl, 0, none⟩), dErr ea e1] W fun e w' => e = .returned (.iface 338 (.pointer (some (ea 25)))) ∧ DW w0 w' (ext S' W w') g m1 gl { L with dead := true } ∧ Fr S' W w') := Hj fun W S' hd => by
   have := wdone_any e1 hd HE.out
   rw [HDE.out, HLD.out] at this
   exact this
  rw [HDE.out]
  clear HDE HLD he
  generalize dErr ea e1 = E1 at *
  go_enter Tryz.func89, Tryz.ntmps89
  go_wp2_with (first
   | (go_at_call 96; (with_reducible refine HF.out.mono ?_); rintro e w1 ⟨rfl, rfl⟩)
   | fail)
  have Bd : Hid (Below w.heap.size w w.drew) := Hj (Below.drew (Below.refl _ _))
  go_region_held3 (fun w' => w'.cell? ⟨gl, 1, none⟩ = some (.int .i64 (L.gen : Int)) ∧ w'.cell? ⟨gl, 4, none⟩ = some (.slice AR L.recs.length cR)) (first | exact ⟨by assumption, by assumption⟩ | go_keep)
   (first
    | (go_at_call 143; go_loud ((with_reducible refine (HR.out w.drew Bd.out).mono ?_); rintro e w2 ⟨A2, k2, rfl, hr2, hb2⟩; have B2 : Hid (Below w.heap.size w w2) := Hj (Below.undrewW hb2); obtain ⟨x1, x4, x0, x5⟩ := HK.out w2 B2.out; have R2 := Hj hr2; clear hr2 hb2)))
  all_goals
   go_wp2_with (first
    | (go_at_call 144; go_loud ((with_reducible refine (HWr.out w2 S (HD.out.below B2.out) A2 k2 R2.out).mono ?_); rintro e w3 ⟨rfl, hd3, hf3⟩; have D3 := Hj hd3; have F3 := Hj hf3; clear hd3 hf3))
    | (go_at_call 97; go_loud ((with_reducible refine (HDn.out w3 _ D3.out).mono ?_); rintro e w4 ⟨rfl, hd4, hf4⟩; have D4 := Hj hd4; have F4 := Hj hf4; clear hd4 hf4))
    | fail)
   go_ret
   exact ⟨rfl, DW.behind HD.out.bel.size B2.out (DW.then F3.out ⟨D4.out, F4.out⟩)⟩

theorem Append_any (A : Option Addr) (n c : Nat) (text : List UInt8) (h : DW w0 w S g m gl L) (hE : EW w0 ea) (hok : m.Ok) (hL : L.Ok) (hb : RB w A n text) (hA : 0 < n → Off S A) (hnc : n ≤ c) (hc : c ≤ maxLen) (hw : m.waits.length ≤ 1000) :
  Calls Tryz.prog 89 #[.pointer (some ⟨gl, 0, none⟩), .slice A n c] w fun e w' => e = .returned (dErr ea (L.appE m text)) ∧ DW w0 w' (ext S w w') g (L.appM m text) gl (L.app m text) ∧ Fr S w w' := by
 unfold LM.appE LM.appM LM.app
 by_cases hr : L.room m text = 0
 ·rw [if_pos hr, if_pos hr, if_pos hr]
  exact append_good A n c text h hE hok hL hb hA hnc hc hw hr
 ·rw [if_neg hr, if_neg hr, if_neg hr]
  refine (append_bad A n c text h hE hok hb hr).mono ?_
  rintro e w' ⟨rfl, rfl⟩
  exact ⟨rfl, h.same⟩
end
end Go.Proofs.YtfmagnpmjlppiaaGreatDoor
