/- Layer 18 (wal): good. -/
import Derived.Test.YtjodehdmafagoaaDoorWalK
import Derived.Test.YtjodehdmafagoaaDoorDiskS
namespace Go.Proofs.YtjodehdmafagoaaDoor
open Go.RowKit

theorem results_row_tmpW {P : Program} {fn : Func} {p u : Tmp} {ty : TypeId} (h : fn.results = #[.cell p ty, .tmp u]) (tmps : Array Value) (w : World) (g : Nat) (t : TypeId) (cs : Array Value) (fr : Nat × Nat) (d : TypeDesc) (x : Value)
    (hp : tmps.getD p undef = .pointer (some ⟨g, 0, none⟩)) (hx : tmps.getD u undef = x) (hg : w.heap[g]? = some (.cells cs t fr))
    (hu : P.underlying ty = some d) (hd : (match d with | .struct _ | .array _ _ => true | _ => false) = true) (hi : (P.info? ty).map (·.size) = some cs.size) :
    (results fn tmps).run P w = .ok (.tuple #[.agg cs, x]) w := by
  have hp' : tmps[p]?.getD undef = .pointer (some ⟨g, 0, none⟩) := by simpa using hp
  have hx' : tmps[u]?.getD undef = x := by simpa using hx
  simp [results, h, hp', hx', asAddr, run_loadVar_row w g t ty cs fr d hg hu hd hi]

theorem info_snap : (Tryd.prog.info? 75).map (·.size) = some 3 := by kernel_rfl

set_option maxHeartbeats 2000000 in
set_option maxRecDepth 100000 in
theorem good_any (slot : Int) (A : Option Addr) (m c : Nat) (l : List UInt8) (w : World) (hb : RB w A m l) (hmc : m ≤ c) (hm : m ≤ 100000000) (ht : ShaTabs w) :
    Calls Tryd.prog 56 #[.int .i64 slot, .slice A m c] w fun e w' => ∃ (gv sv : Int) (A' : Option Addr) (n' c' : Nat) (ok : Bool), e = .returned (.tuple #[.agg #[.int .i64 gv, .int .i64 sv, .slice A' n' c'], .bool ok]) ∧ Below w.heap.size w w' ∧
      (∀ g t, goodB l = some (g, t) → ok = true ∧ gv = (g : Int) ∧ sv = slot ∧ OB w' w.heap.size (.slice A' n' c') t) ∧ (goodB l = none → ok = false) := by
  have HL := Lib.hid hb.1
  by_cases h16 : m < 16
  · have hN : goodB l = none := by unfold goodB; rw [if_pos (by rw [hb.1]; exact h16)]
    rw [hN]
    have q : decide ((m : Int) < 16) = true := decide_eq_true (by omega)
    clear hb
    go_enter Tryd.func56, Tryd.ntmps56
    go_wp2
    refine bodyPost_ret (results_row_tmpW (x := .bool false) rfl _ _ w.heap.size 75 #[.int .i64 0, .int .i64 0, .slice none 0 0] (0, 0) _ rfl rfl (heap_alloc_new w _) Tryd.underlying75 rfl info_snap) rfl ⟨0, 0, none, 0, 0, false, rfl, (Below.refl _ w).alloc (Nat.le_refl _) _, (fun _ _ e => by cases e), fun _ => rfl⟩
  obtain ⟨b, o, rfl, -⟩ := hb.2 (by omega)
  have q16 : decide ((m : Int) < 16) = false := decide_eq_false (by omega)
  have HB := Lib.hid hb
  have BA := Lib.hid ((Below.refl _ w).alloc (Nat.le_refl _) (.cells #[.int .i64 0, .int .i64 0, .slice none 0 0] 75))
  have N0 : Hid (∀ W : World, RB W (some ⟨b, o, none⟩) m l → Calls Tryd.prog 72 #[.slice (some ⟨b, o, none⟩) m c, .int .i64 0] W fun e w' => e = .returned (.int .i64 (numAt l 0 : Int)) ∧ ∃ k, w' = W.drewN k) := Lib.hid fun W h => numbered_any _ m c 0 l W h (by omega) (by omega)
  have N4 : Hid (∀ W : World, RB W (some ⟨b, o, none⟩) m l → Calls Tryd.prog 72 #[.slice (some ⟨b, o, none⟩) m c, .int .i64 4] W fun e w' => e = .returned (.int .i64 (numAt l 4 : Int)) ∧ ∃ k, w' = W.drewN k) := Lib.hid fun W h => numbered_any _ m c 4 l W h (by omega) (by omega)
  have KA : Hid (RB (w.alloc (.cells #[.int .i64 0, .int .i64 0, .slice none 0 0] 75)) (some ⟨b, o, none⟩) m l) := Lib.hid (hb.keep (Keeps.of_below BA.out))
  have KD : Hid (∀ k, RB ((w.alloc (.cells #[.int .i64 0, .int .i64 0, .slice none 0 0] 75)).drewN k) (some ⟨b, o, none⟩) m l) := Lib.hid fun k => KA.out.keep (Keeps.drewN _ k)
  have HGL : Hid (numAt l 0 < 4294967296) := Lib.hid (numAt_lt _ _)
  obtain ⟨G, hG⟩ : ∃ G, G = numAt l 0 := ⟨_, rfl⟩
  obtain ⟨L, hL⟩ : ∃ L, L = numAt l 4 := ⟨_, rfl⟩
  have HN : Hid (goodB l = if l.length < 16 then none else if G < 1 ∨ 2147483647 < G ∨ l.length - 16 < L then none else if sumB G L ((l.drop 16).take L) = (l.drop 8).take 8 then some (G, (l.drop 16).take L) else none) := Lib.hid (by rw [hG, hL]; rfl)
  rw [← hG] at N0 HGL
  rw [← hL] at N4
  clear hG hL
  by_cases h1 : G < 1
  · have hN : goodB l = none := by rw [HN.out, if_neg (by rw [HL.out]; exact h16), if_pos (.inl h1)]
    rw [hN]
    have q : decide ((G : Int) < 1) = true := decide_eq_true (by omega)
    clear hb
    go_enter Tryd.func56, Tryd.ntmps56
    go_wp2_with (first
      | (go_at_call 72; (with_reducible refine (N0.out _ KA.out).mono ?_); rintro e w1 ⟨rfl, k1, rfl⟩)
      | (go_at_call 72; (with_reducible refine (N4.out _ (KD.out _)).mono ?_); rintro e w2 ⟨rfl, k2, rfl⟩)
      | fail)
    refine bodyPost_ret (results_row_tmpW (x := .bool false) rfl _ _ w.heap.size 75 #[.int .i64 0, .int .i64 0, .slice none 0 0] (0, 0) _ rfl rfl (heap_setCell_same _ _ _ _ _ _ (heap_setCell_same _ _ _ _ _ _ (heap_setCell_same _ _ _ _ _ _ (heap_alloc_new w _)))) Tryd.underlying75 rfl info_snap) rfl ⟨0, 0, none, 0, 0, false, rfl, (((below_drewN BA.out _).setCell (p := ⟨w.heap.size, 0, none⟩) (Nat.le_refl _) _).setCell (p := ⟨w.heap.size, 1, none⟩) (Nat.le_refl _) _).setCell (p := ⟨w.heap.size, 2, none⟩) (Nat.le_refl _) _, (fun _ _ e => by cases e), fun _ => rfl⟩
  have q1 : decide ((G : Int) < 1) = false := decide_eq_false (by omega)
  by_cases h2 : 2147483647 < G
  · have hN : goodB l = none := by rw [HN.out, if_neg (by rw [HL.out]; exact h16), if_pos (.inr (.inl h2))]
    rw [hN]
    have q : decide ((G : Int) > 2147483647) = true := decide_eq_true (by omega)
    have q' : decide (2147483647 < (G : Int)) = true := decide_eq_true (by omega)
    clear hb
    go_enter Tryd.func56, Tryd.ntmps56
    go_wp2_with (first
      | (go_at_call 72; (with_reducible refine (N0.out _ KA.out).mono ?_); rintro e w1 ⟨rfl, k1, rfl⟩)
      | (go_at_call 72; (with_reducible refine (N4.out _ (KD.out _)).mono ?_); rintro e w2 ⟨rfl, k2, rfl⟩)
      | fail)
    refine bodyPost_ret (results_row_tmpW (x := .bool false) rfl _ _ w.heap.size 75 #[.int .i64 0, .int .i64 0, .slice none 0 0] (0, 0) _ rfl rfl (heap_setCell_same _ _ _ _ _ _ (heap_setCell_same _ _ _ _ _ _ (heap_setCell_same _ _ _ _ _ _ (heap_alloc_new w _)))) Tryd.underlying75 rfl info_snap) rfl ⟨0, 0, none, 0, 0, false, rfl, (((below_drewN BA.out _).setCell (p := ⟨w.heap.size, 0, none⟩) (Nat.le_refl _) _).setCell (p := ⟨w.heap.size, 1, none⟩) (Nat.le_refl _) _).setCell (p := ⟨w.heap.size, 2, none⟩) (Nat.le_refl _) _, (fun _ _ e => by cases e), fun _ => rfl⟩
  have q2 : decide ((G : Int) > 2147483647) = false := decide_eq_false (by omega)
  have q2' : decide (2147483647 < (G : Int)) = false := decide_eq_false (by omega)
  by_cases h3 : m - 16 < L
  · have hN : goodB l = none := by rw [HN.out, if_neg (by rw [HL.out]; exact h16), if_pos (.inr (.inr (by rw [HL.out]; exact h3)))]
    rw [hN]
    have q : decide ((L : Int) > (m : Int) - 16) = true := decide_eq_true (by omega)
    have q' : decide ((m : Int) - 16 < (L : Int)) = true := decide_eq_true (by omega)
    clear hb
    go_enter Tryd.func56, Tryd.ntmps56
    go_wp2_with (first
      | (go_at_call 72; (with_reducible refine (N0.out _ KA.out).mono ?_); rintro e w1 ⟨rfl, k1, rfl⟩)
      | (go_at_call 72; (with_reducible refine (N4.out _ (KD.out _)).mono ?_); rintro e w2 ⟨rfl, k2, rfl⟩)
      | fail)
    refine bodyPost_ret (results_row_tmpW (x := .bool false) rfl _ _ w.heap.size 75 #[.int .i64 0, .int .i64 0, .slice none 0 0] (0, 0) _ rfl rfl (heap_setCell_same _ _ _ _ _ _ (heap_setCell_same _ _ _ _ _ _ (heap_setCell_same _ _ _ _ _ _ (heap_alloc_new w _)))) Tryd.underlying75 rfl info_snap) rfl ⟨0, 0, none, 0, 0, false, rfl, (((below_drewN BA.out _).setCell (p := ⟨w.heap.size, 0, none⟩) (Nat.le_refl _) _).setCell (p := ⟨w.heap.size, 1, none⟩) (Nat.le_refl _) _).setCell (p := ⟨w.heap.size, 2, none⟩) (Nat.le_refl _) _, (fun _ _ e => by cases e), fun _ => rfl⟩
  have q3 : decide ((L : Int) > (m : Int) - 16) = false := decide_eq_false (by omega)
  have q3' : decide ((m : Int) - 16 < (L : Int)) = false := decide_eq_false (by omega)
  obtain ⟨text, htext⟩ : ∃ t, t = (l.drop 16).take L := ⟨_, rfl⟩
  have HX : Hid (goodB l = if sumB G L text = (l.drop 8).take 8 then some (G, text) else none) := Lib.hid (by rw [HN.out, if_neg (by rw [HL.out]; exact h16), if_neg (by rw [HL.out]; omega), htext])
  have hr16 := hb.subW 16 L (by omega)
  rw [← htext] at hr16
  have HTl := Lib.hid hr16.1
  have HR := Lib.hid hr16
  have HR0 : Hid (L = 0 → RB w (some ⟨b, o, none⟩) L text) := Lib.hid fun e => by rw [htext, e, List.take_zero]; exact RB.nil _ _
  have HC : Hid (∀ W : World, Below w.heap.size w W → Calls Tryd.prog 32 #[.slice (some ⟨b, o + 16, none⟩) L (c - 16)] W fun e w' => ∃ A' cap, e = .returned (.slice A' text.length cap) ∧ OB w' W.heap.size (.slice A' text.length cap) text ∧ Below W.heap.size W w') := Lib.hid fun W hW =>
    Clone_any _ _ _ _ W (HR.out.keep (Keeps.of_below hW)) (by omega)
  have HC0 : Hid (L = 0 → ∀ W : World, Below w.heap.size w W → Calls Tryd.prog 32 #[.slice (some ⟨b, o, none⟩) L 0] W fun e w' => ∃ A' cap, e = .returned (.slice A' text.length cap) ∧ OB w' W.heap.size (.slice A' text.length cap) text ∧ Below W.heap.size W w') := Lib.hid fun e W hW =>
    Clone_any _ _ _ _ W ((HR0.out e).keep (Keeps.of_below hW)) (by omega)
  have HS : Hid (∀ (W : World) (A' : Option Addr) (cap : Nat), Below w.heap.size w W → OB W 0 (.slice A' text.length cap) text → Calls Tryd.prog 60 #[.int .i64 (G : Int), .int .i64 (L : Int), .slice A' text.length cap] W fun e w' => ∃ q, e = .returned (.slice (some ⟨q, 0, none⟩) 8 32) ∧ RB w' (some ⟨q, 0, none⟩) 8 (sumB G L text) ∧ W.heap.size ≤ q ∧ Below W.heap.size W w') := Lib.hid fun W A' cap hW ho => by
    obtain ⟨A2, c2, e, i1, i2, i3⟩ := ho.form
    injection e with e1 e2 e3
    subst e1
    subst e3
    exact wsum_any G L _ _ _ _ W i3 i1 i2 HGL.out (by omega) (by rw [HTl.out]; omega) (ht.keep (Keeps.of_below hW))
  have HE : Hid (∀ (W : World) (q d : Nat), Below w.heap.size w W → RB W (some ⟨q, 0, none⟩) 8 (sumB G L text) → Calls Tryd.prog 73 #[.slice (some ⟨q, 0, none⟩) 8 32, .slice (some ⟨b, o + 8, none⟩) 8 d] W fun e w' => e = .returned (.bool (decide (sumB G L text = (l.drop 8).take 8))) ∧ ∃ k, w' = W.drewN k) := Lib.hid fun W q d hW hq =>
    Equal_any _ _ 8 8 32 d W _ _ hq ((HB.out.subW 8 8 (by omega)).keep (Keeps.of_below hW)) (by decide)
  have z1 : (16 : Int) ≤ (m : Int) := by omega
  have z2 : (m : Int) ≤ (c : Int) := by omega
  have z3 : (16 : Int) ≤ (c : Int) := by omega
  have z4 : (16 : Int) + (L : Int) ≤ (c : Int) := by omega
  have z5 : (16 : Int) ≤ 16 + (L : Int) := by omega
  have z6 : ¬ ((c : Int) = 8) := by omega
  clear hb hr16 htext
  go_enter Tryd.func56, Tryd.ntmps56
  go_wp2_with (first
    | (go_at_call 72; (with_reducible refine (N0.out _ KA.out).mono ?_); rintro e w1 ⟨rfl, k1, rfl⟩)
    | (go_at_call 72; (with_reducible refine (N4.out _ (KD.out _)).mono ?_); rintro e w2 ⟨rfl, k2, rfl⟩)
    | (go_at_call 32; go_loud (first | (with_reducible refine (HC.out _ (below_drewN BA.out _)).mono ?_) | (with_reducible refine (HC0.out (by omega) _ (below_drewN BA.out _)).mono ?_)); rintro e w3 ⟨A3, k3, rfl, ho3, hb3⟩; have O3 := Lib.hid ho3; have B3 := Lib.hid hb3; clear ho3 hb3)
    | fail)
  all_goals
    have hsz : w.heap.size + 1 = ((w.alloc (.cells #[.int .i64 0, .int .i64 0, .slice none 0 0] 75)).drewN (k1 + k2)).heap.size := (Array.size_push _).symm
    have B03 : Hid (Below w.heap.size w w3) := Lib.hid ((below_drewN BA.out _).trans (B3.out.mono (by rw [← hsz]; omega)))
    have S3 : Hid (w.heap.size < w3.heap.size) := Lib.hid (by have := B3.out.size; rw [← hsz] at this; omega)
    have T3 : Hid (w3.heap[w.heap.size]? = some (.cells #[.int .i64 0, .int .i64 0, .slice none 0 0] 75 (0, 0))) := Lib.hid ((B3.out.block _ (by rw [← hsz]; omega)).trans (heap_alloc_new w _))
    rw [← hsz] at O3
    clear B3 hsz
    obtain ⟨wB, hwB⟩ : ∃ W, W = w3.alloc (.cells #[.int .i64 (G : Int), .int .i64 slot, .slice A3 text.length k3] 75) := ⟨_, rfl⟩
    rw [← hwB]
    have BB : Hid (Below w3.heap.size w3 wB) := Lib.hid (by rw [hwB]; exact (Below.refl _ _).alloc (Nat.le_refl _) _)
    have E8 : Hid (wB.heap[w3.heap.size]? = some (.cells #[.int .i64 (G : Int), .int .i64 slot, .slice A3 text.length k3] 75 (0, 0))) := Lib.hid (by rw [hwB]; exact heap_alloc_new w3 _)
    have SB3 : Hid (w3.heap.size < wB.heap.size) := Lib.hid (by rw [hwB]; show _ < (w3.heap.push _).size; rw [Array.size_push]; omega)
    clear hwB
    have BW : Hid (Below w.heap.size w wB) := Lib.hid (B03.out.trans (BB.out.mono B03.out.size))
    have OB3 := Lib.hid ((O3.out.below BB.out).mono (Nat.zero_le _))
    have K0 : Hid (∀ W, Below wB.heap.size wB W → W.cell? ⟨w3.heap.size, 0, none⟩ = some (.int .i64 (G : Int)) ∧ W.cell? ⟨w3.heap.size, 1, none⟩ = some (.int .i64 slot) ∧ W.cell? ⟨w3.heap.size, 2, none⟩ = some (.slice A3 text.length k3)) := Lib.hid fun W h => by
      have k := Keeps.of_below h
      exact ⟨k _ _ (cell_of_row _ _ 0 _ _ _ E8.out), k _ _ (cell_of_row _ _ 1 _ _ _ E8.out), k _ _ (cell_of_row _ _ 2 _ _ _ E8.out)⟩
    have K1 : Hid (∀ W, Below wB.heap.size wB W → W.heap[w.heap.size]? = some (.cells #[.int .i64 0, .int .i64 0, .slice none 0 0] 75 (0, 0))) := Lib.hid fun W h => (h.block _ (Nat.lt_trans S3.out SB3.out)).trans ((BB.out.block _ S3.out).trans T3.out)
    have K2 : Hid (∀ W, Below wB.heap.size wB W → W.heap[w3.heap.size]? = some (.cells #[.int .i64 (G : Int), .int .i64 slot, .slice A3 text.length k3] 75 (0, 0))) := Lib.hid fun W h => (h.block _ SB3.out).trans E8.out
    have BD : Hid (Below wB.heap.size wB wB.drew) := Lib.hid ⟨rfl, rfl, rfl, Nat.le_refl _, fun _ _ => rfl⟩
    obtain ⟨c0, c1, c2⟩ := K0.out wB (Below.refl _ _)
    go_region_held3 (fun w' => w'.cell? ⟨w3.heap.size, 0, none⟩ = some (.int .i64 (G : Int)) ∧ w'.cell? ⟨w3.heap.size, 1, none⟩ = some (.int .i64 slot) ∧ w'.cell? ⟨w3.heap.size, 2, none⟩ = some (.slice A3 text.length k3)) (first | exact ⟨by assumption, by assumption, by assumption⟩ | exact KS.out _ _ _ | go_keep)
      (first
        | (go_at_call 60; go_loud ((with_reducible refine (HS.out wB.drew A3 k3 (BW.out.trans (BD.out.mono BW.out.size)) (OB3.out.below BD.out)).mono ?_); rintro e w4 ⟨q4, rfl, hr4, hq4, hb4⟩; have B4 : Hid (Below wB.heap.size wB w4) := Lib.hid (BD.out.trans hb4); have R4 := Lib.hid hr4; obtain ⟨y0, y1, y2⟩ := K0.out w4 B4.out; clear hr4 hq4 hb4))
        | (go_at_call 73; go_loud ((with_reducible refine (HE.out w4 q4 _ (BW.out.trans (B4.out.mono BW.out.size)) R4.out).mono ?_); rintro e w5 ⟨rfl, k5, rfl⟩; have B5 := Lib.hid (below_drewN B4.out k5); obtain ⟨u0, u1, u2⟩ := K0.out _ B5.out; have hrow := K1.out _ B5.out; have m0 : (w4.drewN k5).cell? ⟨w.heap.size, 0, none⟩ = some (.int .i64 0) := cell_of_row _ _ 0 _ _ _ hrow; have m1 : (w4.drewN k5).cell? ⟨w.heap.size, 1, none⟩ = some (.int .i64 0) := cell_of_row _ _ 1 _ _ _ hrow; have m2 : (w4.drewN k5).cell? ⟨w.heap.size, 2, none⟩ = some (.slice none 0 0) := cell_of_row _ _ 2 _ _ _ hrow; have f0 : (w4.drewN k5).frozen? ⟨w.heap.size, 0, none⟩ = false := frozen_of_row _ _ _ _ _ hrow; have f1 : (w4.drewN k5).frozen? ⟨w.heap.size, 1, none⟩ = false := frozen_of_row _ _ _ _ _ hrow; have f2 : (w4.drewN k5).frozen? ⟨w.heap.size, 2, none⟩ = false := frozen_of_row _ _ _ _ _ hrow; have KS : Hid (∀ x y z, ((((w4.drewN k5).setCell ⟨w.heap.size, 0, none⟩ x).setCell ⟨w.heap.size, 1, none⟩ y).setCell ⟨w.heap.size, 2, none⟩ z).cell? ⟨w3.heap.size, 0, none⟩ = some (.int .i64 (G : Int)) ∧ ((((w4.drewN k5).setCell ⟨w.heap.size, 0, none⟩ x).setCell ⟨w.heap.size, 1, none⟩ y).setCell ⟨w.heap.size, 2, none⟩ z).cell? ⟨w3.heap.size, 1, none⟩ = some (.int .i64 slot) ∧ ((((w4.drewN k5).setCell ⟨w.heap.size, 0, none⟩ x).setCell ⟨w.heap.size, 1, none⟩ y).setCell ⟨w.heap.size, 2, none⟩ z).cell? ⟨w3.heap.size, 2, none⟩ = some (.slice A3 text.length k3)) := Lib.hid fun x y z => by { have hne : w3.heap.size ≠ w.heap.size := Nat.ne_of_gt S3.out; have h := row_other (k := 2) (row_other (k := 1) (row_other (k := 0) (K2.out _ B5.out) hne x) hne y) hne z; exact ⟨cell_of_row _ _ 0 _ _ _ h, cell_of_row _ _ 1 _ _ _ h, cell_of_row _ _ 2 _ _ _ h⟩ }; replace hrow := Lib.hid hrow)))
  all_goals
    go_wp2
    have hne : w3.heap.size ≠ w.heap.size := Nat.ne_of_gt S3.out
    have BF : Below w.heap.size w ((((w4.drewN k5).setCell ⟨w.heap.size, 0, none⟩ (.int .i64 (G : Int))).setCell ⟨w.heap.size, 1, none⟩ (.int .i64 slot)).setCell ⟨w.heap.size, 2, none⟩ (.slice A3 text.length k3)) := (((BW.out.trans (B5.out.mono BW.out.size)).setCell (p := ⟨w.heap.size, 0, none⟩) (Nat.le_refl _) _).setCell (p := ⟨w.heap.size, 1, none⟩) (Nat.le_refl _) _).setCell (p := ⟨w.heap.size, 2, none⟩) (Nat.le_refl _) _
    have O5 : OB (w4.drewN k5) (w.heap.size + 1) (.slice A3 text.length k3) text := (O3.out.below BB.out).below B5.out
    have FR := (((Fr.refl (fun k => k = w.heap.size) (w4.drewN k5)).setCell (p := ⟨w.heap.size, 0, none⟩) (fun _ => rfl) (.int .i64 (G : Int))).setCell (p := ⟨w.heap.size, 1, none⟩) (fun _ => rfl) (.int .i64 slot)).setCell (p := ⟨w.heap.size, 2, none⟩) (fun _ => rfl) (.slice A3 text.length k3)
    have O6 := (OwnS.kept O5 FR fun k hk e => by have := (OB.lt O5 k hk).1; omega).mono fun k hk => Nat.le_of_succ_le (OB.lt O5 k hk).1
    refine bodyPost_ret (results_row_tmpW (x := .bool (decide (sumB G L text = (l.drop 8).take 8))) rfl _ _ w.heap.size 75 #[.int .i64 (G : Int), .int .i64 slot, .slice A3 text.length k3] (0, 0) _ rfl rfl (heap_setCell_same _ _ _ _ _ _ (heap_setCell_same _ _ _ _ _ _ (heap_setCell_same _ _ _ _ _ _ hrow.out))) Tryd.underlying75 rfl info_snap) rfl ⟨_, _, _, _, _, _, rfl, BF, ?_⟩
    rw [HX.out]
    by_cases hq : sumB G L text = (l.drop 8).take 8
    · rw [if_pos hq]
      refine ⟨fun g t e => ?_, fun e => by cases e⟩
      injection e with e
      injection e with e1 e2
      subst e1
      subst e2
      exact ⟨decide_eq_true hq, rfl, rfl, O6⟩
    · rw [if_neg hq]
      exact ⟨fun g t e => (by cases e), fun _ => decide_eq_false hq⟩
end Go.Proofs.YtjodehdmafagoaaDoor
