/- The document's log (layer 18): Compact where a call of the disk fails. -/
import Derived.Test.YtifjddkgnfanaaaDoorRlJ
namespace Go.Proofs.YtifjddkgnfanaaaDoor
open Go.RowKit

section
variable {w w' w0 : World} {S P : Nat → Prop} {gl g : Nat} {m m1 m2 m3 m4 m5 m6 : DM} {L : LM} {tv rv : Value} {ws : List (List UInt8 × Value)}

set_option maxHeartbeats 8000000 in
set_option maxRecDepth 100000 in
theorem compR_1 (A : Option Addr) (n c : Nat) (to l l3 l4 l5 : Nat) (F v : Int) (h : RW w0 w S g m gl L) (hdead : L.dead = false) (hgen : L.gen < 2147483647) (ht2 : to < 3) (hti : (1 : Int) - (L.slot : Int) = (to : Int)) (HL : Hid ((to = 0 → l = l3) ∧ (to = 1 → l = l4) ∧ (to = 2 → l = l5))) (hq2 : ¬ F < 16 + (n : Int) - (l : Int)) (hn : n ≤ 1000000) (hl : l ≤ 1048576)
    (HF : Hid (∀ W, Below w.heap.size w W → Calls Tryd.prog 26 #[.pointer (some ⟨g, 0, none⟩)] W fun e w' => e = .returned (.int .i64 F) ∧ Below W.heap.size W w'))
    (HS : Hid (∀ W, Below w.heap.size w W → Calls Tryd.prog 25 #[.pointer (some ⟨g, 0, none⟩)] W fun e w' => ∃ (B0 B1 B2 : Option Addr) (d0 d1 d2 : Nat), e = .returned (.agg #[.slice B0 l3 d0, .slice B1 l4 d1, .slice B2 l5 d2]) ∧ Below W.heap.size W w'))
    (H1 : Hid (∀ W S', RW w0 W S' g m gl L → Calls Tryd.prog 56 #[.pointer (some ⟨g, 0, none⟩), .int .i64 (to : Int), .int .i64 0] W fun e w' => e = .returned (.int .i64 v) ∧ RW w0 w' (ext S' W w') g m1 gl L ∧ Fr S' W w')) (hv : v ≠ 0) :
    Calls Tryd.prog 37 #[.pointer (some ⟨gl, 0, none⟩), .slice A n c] w fun e w' => e = .returned (.int .i64 25) ∧ RW w0 w' (ext S w w') g m1 gl { L with dead := true } ∧ Fr S w w' := by
  have c5 := h.at.2.2.2
  have c2 := h.at.2.2.1
  have c1 := h.at.2.1
  have c0 := h.at.1
  rw [hdead] at c5
  have HK : Hid (∀ W, Below w.heap.size w W → W.cell? ⟨gl, 0, none⟩ = some (.pointer (some ⟨g, 0, none⟩)) ∧ W.cell? ⟨gl, 1, none⟩ = some (.int .i64 (L.gen : Int))) := Lib.hid fun W hW => ⟨Keeps.of_below hW _ _ c0, Keeps.of_below hW _ _ c1⟩
  have HD := Lib.hid h
  have q1 : decide (2147483647 ≤ (L.gen : Int)) = false := decide_eq_false (by omega)
  have q1n : decide (2147483647 ≤ L.gen) = false := decide_eq_false (by omega)
  have q2 : decide (F < 16 + (n : Int) - (l : Int)) = false := decide_eq_false hq2
  have n0 : (n : Int) ≤ 1000000 := by omega
  have l0 : (l : Int) ≤ 1048576 := by omega
  have s0 : IntKind.i64.wrap (16 + (n : Int)) = 16 + (n : Int) := IntWalk.i64_in _ (by omega)
  have s1 : IntKind.i64.wrap (16 + (n : Int) - (l : Int)) = 16 + (n : Int) - (l : Int) := IntWalk.i64_in _ (by omega)
  have s2 : IntKind.i64.wrap ((L.gen : Int) + 1) = (L.gen : Int) + 1 := IntWalk.i64_in _ (by omega)
  have HT := Lib.hid ht2
  have p1 : (v == 0) = false := beq_eq_false_iff_ne.2 hv
  have p2 : (v != 0) = true := by rw [bne_iff_ne]; exact hv
  have Bd : Hid (Below w.heap.size w w.drew) := Lib.hid (Below.drew (Below.refl _ _))
  clear h hdead hgen ht2 hq2 hn hl hv
  go_enter Tryd.func37, Tryd.ntmps37
  go_wp2
  go_region_held3 (fun w' => w'.cell? ⟨gl, 0, none⟩ = some (.pointer (some ⟨g, 0, none⟩)) ∧ w'.cell? ⟨gl, 1, none⟩ = some (.int .i64 (L.gen : Int))) (first | exact ⟨by assumption, by assumption⟩ | go_keep)
    (first
      | (go_at_call 25; go_loud ((with_reducible refine (HS.out w.drew Bd.out).mono ?_); rintro e w1 ⟨B0, B1, B2, d0, d1, d2, rfl, hb1⟩; have B1' : Hid (Below w.heap.size w w1) := Lib.hid (Bd.out.trans hb1); obtain ⟨x0, x1⟩ := HK.out w1 B1'.out; obtain ⟨Ba, da, hix⟩ := run_index3 B0 B1 B2 d0 d1 d2 l3 l4 l5 l to HT.out HL.out.1 HL.out.2.1 HL.out.2.2; clear hb1))
      | (go_at_call 26; go_loud ((with_reducible refine (HF.out w1 B1'.out).mono ?_); rintro e w2 ⟨rfl, hb2⟩; have B2' : Hid (Below w.heap.size w w2) := Lib.hid (B1'.out.trans (hb2.mono B1'.out.size)); obtain ⟨y0, y1⟩ := HK.out w2 B2'.out; have D0 := Lib.hid (HD.out.made B2'.out); clear hb2))
      | fail)
  all_goals
    go_wp2_with (first
      | (go_at_call 56; go_loud ((with_reducible refine (H1.out w2 _ D0.out.1).mono ?_); rintro e wc1 ⟨rfl, hd, hf⟩; have D1 := Lib.hid (RW.then D0.out.2 ⟨hd, hf⟩); have a1 := hd.at.1; have b1 := hd.at.2.1; have c1' := hd.at.2.2.2; have z1 := hd.fz 5; clear hd hf))
      | fail)
    go_ret
    exact ⟨rfl, RW.then D1.out.2 D1.out.1.die⟩

set_option maxHeartbeats 8000000 in
set_option maxRecDepth 100000 in
theorem compR_2 (A : Option Addr) (n c : Nat) (to l l3 l4 l5 : Nat) (F v : Int) (h : RW w0 w S g m gl L) (hdead : L.dead = false) (hgen : L.gen < 2147483647) (ht2 : to < 3) (hti : (1 : Int) - (L.slot : Int) = (to : Int)) (HL : Hid ((to = 0 → l = l3) ∧ (to = 1 → l = l4) ∧ (to = 2 → l = l5))) (hq2 : ¬ F < 16 + (n : Int) - (l : Int)) (hn : n ≤ 1000000) (hl : l ≤ 1048576)
    (HF : Hid (∀ W, Below w.heap.size w W → Calls Tryd.prog 26 #[.pointer (some ⟨g, 0, none⟩)] W fun e w' => e = .returned (.int .i64 F) ∧ Below W.heap.size W w'))
    (HS : Hid (∀ W, Below w.heap.size w W → Calls Tryd.prog 25 #[.pointer (some ⟨g, 0, none⟩)] W fun e w' => ∃ (B0 B1 B2 : Option Addr) (d0 d1 d2 : Nat), e = .returned (.agg #[.slice B0 l3 d0, .slice B1 l4 d1, .slice B2 l5 d2]) ∧ Below W.heap.size W w'))
    (H1 : Hid (∀ W S', RW w0 W S' g m gl L → Calls Tryd.prog 56 #[.pointer (some ⟨g, 0, none⟩), .int .i64 (to : Int), .int .i64 0] W fun e w' => e = .returned (.int .i64 0) ∧ RW w0 w' (ext S' W w') g m1 gl L ∧ Fr S' W w'))
    (H2 : Hid (∀ W S', RW w0 W S' g m1 gl L → Calls Tryd.prog 10 #[.pointer (some ⟨g, 0, none⟩)] W fun e w' => e = .returned (.int .i64 v) ∧ RW w0 w' (ext S' W w') g m2 gl L ∧ Fr S' W w')) (hv : v ≠ 0) :
    Calls Tryd.prog 37 #[.pointer (some ⟨gl, 0, none⟩), .slice A n c] w fun e w' => e = .returned (.int .i64 25) ∧ RW w0 w' (ext S w w') g m2 gl { L with dead := true } ∧ Fr S w w' := by
  have c5 := h.at.2.2.2
  have c2 := h.at.2.2.1
  have c1 := h.at.2.1
  have c0 := h.at.1
  rw [hdead] at c5
  have HK : Hid (∀ W, Below w.heap.size w W → W.cell? ⟨gl, 0, none⟩ = some (.pointer (some ⟨g, 0, none⟩)) ∧ W.cell? ⟨gl, 1, none⟩ = some (.int .i64 (L.gen : Int))) := Lib.hid fun W hW => ⟨Keeps.of_below hW _ _ c0, Keeps.of_below hW _ _ c1⟩
  have HD := Lib.hid h
  have q1 : decide (2147483647 ≤ (L.gen : Int)) = false := decide_eq_false (by omega)
  have q1n : decide (2147483647 ≤ L.gen) = false := decide_eq_false (by omega)
  have q2 : decide (F < 16 + (n : Int) - (l : Int)) = false := decide_eq_false hq2
  have n0 : (n : Int) ≤ 1000000 := by omega
  have l0 : (l : Int) ≤ 1048576 := by omega
  have s0 : IntKind.i64.wrap (16 + (n : Int)) = 16 + (n : Int) := IntWalk.i64_in _ (by omega)
  have s1 : IntKind.i64.wrap (16 + (n : Int) - (l : Int)) = 16 + (n : Int) - (l : Int) := IntWalk.i64_in _ (by omega)
  have s2 : IntKind.i64.wrap ((L.gen : Int) + 1) = (L.gen : Int) + 1 := IntWalk.i64_in _ (by omega)
  have HT := Lib.hid ht2
  have p1 : (v == 0) = false := beq_eq_false_iff_ne.2 hv
  have p2 : (v != 0) = true := by rw [bne_iff_ne]; exact hv
  have Bd : Hid (Below w.heap.size w w.drew) := Lib.hid (Below.drew (Below.refl _ _))
  clear h hdead hgen ht2 hq2 hn hl hv
  go_enter Tryd.func37, Tryd.ntmps37
  go_wp2
  go_region_held3 (fun w' => w'.cell? ⟨gl, 0, none⟩ = some (.pointer (some ⟨g, 0, none⟩)) ∧ w'.cell? ⟨gl, 1, none⟩ = some (.int .i64 (L.gen : Int))) (first | exact ⟨by assumption, by assumption⟩ | go_keep)
    (first
      | (go_at_call 25; go_loud ((with_reducible refine (HS.out w.drew Bd.out).mono ?_); rintro e w1 ⟨B0, B1, B2, d0, d1, d2, rfl, hb1⟩; have B1' : Hid (Below w.heap.size w w1) := Lib.hid (Bd.out.trans hb1); obtain ⟨x0, x1⟩ := HK.out w1 B1'.out; obtain ⟨Ba, da, hix⟩ := run_index3 B0 B1 B2 d0 d1 d2 l3 l4 l5 l to HT.out HL.out.1 HL.out.2.1 HL.out.2.2; clear hb1))
      | (go_at_call 26; go_loud ((with_reducible refine (HF.out w1 B1'.out).mono ?_); rintro e w2 ⟨rfl, hb2⟩; have B2' : Hid (Below w.heap.size w w2) := Lib.hid (B1'.out.trans (hb2.mono B1'.out.size)); obtain ⟨y0, y1⟩ := HK.out w2 B2'.out; have D0 := Lib.hid (HD.out.made B2'.out); clear hb2))
      | fail)
  all_goals
    go_wp2_with (first
      | (go_at_call 56; go_loud ((with_reducible refine (H1.out w2 _ D0.out.1).mono ?_); rintro e wc1 ⟨rfl, hd, hf⟩; have D1 := Lib.hid (RW.then D0.out.2 ⟨hd, hf⟩); have a1 := hd.at.1; have b1 := hd.at.2.1; have c1' := hd.at.2.2.2; have z1 := hd.fz 5; clear hd hf))
      | (go_at_call 10; go_loud ((with_reducible refine (H2.out wc1 _ D1.out.1).mono ?_); rintro e wc2 ⟨rfl, hd, hf⟩; have D2 := Lib.hid (RW.then D1.out.2 ⟨hd, hf⟩); have a2 := hd.at.1; have b2 := hd.at.2.1; have c2' := hd.at.2.2.2; have z2 := hd.fz 5; clear hd hf))
      | fail)
    go_ret
    exact ⟨rfl, RW.then D2.out.2 D2.out.1.die⟩

set_option maxHeartbeats 8000000 in
set_option maxRecDepth 100000 in
theorem compR_3 (A : Option Addr) (n c : Nat) (text : List UInt8) (to l l3 l4 l5 : Nat) (F v : Int) (h : RW w0 w S g m gl L) (hdead : L.dead = false) (hgen : L.gen < 2147483647) (ht2 : to < 3) (hti : (1 : Int) - (L.slot : Int) = (to : Int)) (HL : Hid ((to = 0 → l = l3) ∧ (to = 1 → l = l4) ∧ (to = 2 → l = l5))) (hq2 : ¬ F < 16 + (n : Int) - (l : Int)) (hn : n ≤ 1000000) (hl : l ≤ 1048576)
    (HF : Hid (∀ W, Below w.heap.size w W → Calls Tryd.prog 26 #[.pointer (some ⟨g, 0, none⟩)] W fun e w' => e = .returned (.int .i64 F) ∧ Below W.heap.size W w'))
    (HS : Hid (∀ W, Below w.heap.size w W → Calls Tryd.prog 25 #[.pointer (some ⟨g, 0, none⟩)] W fun e w' => ∃ (B0 B1 B2 : Option Addr) (d0 d1 d2 : Nat), e = .returned (.agg #[.slice B0 l3 d0, .slice B1 l4 d1, .slice B2 l5 d2]) ∧ Below W.heap.size W w'))
    (HSn : Hid (∀ W, Fr S w W → Calls Tryd.prog 60 #[.int .i64 ((L.gen : Int) + 1), .slice A n c] W fun e w' => ∃ A' c', e = .returned (.slice A' (16 + n) c') ∧ OB w' W.heap.size (.slice A' (16 + n) c') (snapB (L.gen + 1) text) ∧ Below W.heap.size W w'))
    (H1 : Hid (∀ W S', RW w0 W S' g m gl L → Calls Tryd.prog 56 #[.pointer (some ⟨g, 0, none⟩), .int .i64 (to : Int), .int .i64 0] W fun e w' => e = .returned (.int .i64 0) ∧ RW w0 w' (ext S' W w') g m1 gl L ∧ Fr S' W w'))
    (H2 : Hid (∀ W S', RW w0 W S' g m1 gl L → Calls Tryd.prog 10 #[.pointer (some ⟨g, 0, none⟩)] W fun e w' => e = .returned (.int .i64 0) ∧ RW w0 w' (ext S' W w') g m2 gl L ∧ Fr S' W w'))
    (H3 : Hid (∀ W S', RW w0 W S' g m2 gl L → ∀ A' c', RB W A' (16 + n) (snapB (L.gen + 1) text) → Calls Tryd.prog 8 #[.pointer (some ⟨g, 0, none⟩), .int .i64 (to : Int), .int .i64 0, .slice A' (16 + n) c'] W fun e w' => e = .returned (.int .i64 v) ∧ RW w0 w' (ext S' W w') g m3 gl L ∧ Fr S' W w')) (hv : v ≠ 0) :
    Calls Tryd.prog 37 #[.pointer (some ⟨gl, 0, none⟩), .slice A n c] w fun e w' => e = .returned (.int .i64 25) ∧ RW w0 w' (ext S w w') g m3 gl { L with dead := true } ∧ Fr S w w' := by
  have c5 := h.at.2.2.2
  have c2 := h.at.2.2.1
  have c1 := h.at.2.1
  have c0 := h.at.1
  rw [hdead] at c5
  have HK : Hid (∀ W, Below w.heap.size w W → W.cell? ⟨gl, 0, none⟩ = some (.pointer (some ⟨g, 0, none⟩)) ∧ W.cell? ⟨gl, 1, none⟩ = some (.int .i64 (L.gen : Int))) := Lib.hid fun W hW => ⟨Keeps.of_below hW _ _ c0, Keeps.of_below hW _ _ c1⟩
  have HD := Lib.hid h
  have q1 : decide (2147483647 ≤ (L.gen : Int)) = false := decide_eq_false (by omega)
  have q1n : decide (2147483647 ≤ L.gen) = false := decide_eq_false (by omega)
  have q2 : decide (F < 16 + (n : Int) - (l : Int)) = false := decide_eq_false hq2
  have n0 : (n : Int) ≤ 1000000 := by omega
  have l0 : (l : Int) ≤ 1048576 := by omega
  have s0 : IntKind.i64.wrap (16 + (n : Int)) = 16 + (n : Int) := IntWalk.i64_in _ (by omega)
  have s1 : IntKind.i64.wrap (16 + (n : Int) - (l : Int)) = 16 + (n : Int) - (l : Int) := IntWalk.i64_in _ (by omega)
  have s2 : IntKind.i64.wrap ((L.gen : Int) + 1) = (L.gen : Int) + 1 := IntWalk.i64_in _ (by omega)
  have HT := Lib.hid ht2
  have p1 : (v == 0) = false := beq_eq_false_iff_ne.2 hv
  have p2 : (v != 0) = true := by rw [bne_iff_ne]; exact hv
  have Bd : Hid (Below w.heap.size w w.drew) := Lib.hid (Below.drew (Below.refl _ _))
  clear h hdead hgen ht2 hq2 hn hl hv
  go_enter Tryd.func37, Tryd.ntmps37
  go_wp2
  go_region_held3 (fun w' => w'.cell? ⟨gl, 0, none⟩ = some (.pointer (some ⟨g, 0, none⟩)) ∧ w'.cell? ⟨gl, 1, none⟩ = some (.int .i64 (L.gen : Int))) (first | exact ⟨by assumption, by assumption⟩ | go_keep)
    (first
      | (go_at_call 25; go_loud ((with_reducible refine (HS.out w.drew Bd.out).mono ?_); rintro e w1 ⟨B0, B1, B2, d0, d1, d2, rfl, hb1⟩; have B1' : Hid (Below w.heap.size w w1) := Lib.hid (Bd.out.trans hb1); obtain ⟨x0, x1⟩ := HK.out w1 B1'.out; obtain ⟨Ba, da, hix⟩ := run_index3 B0 B1 B2 d0 d1 d2 l3 l4 l5 l to HT.out HL.out.1 HL.out.2.1 HL.out.2.2; clear hb1))
      | (go_at_call 26; go_loud ((with_reducible refine (HF.out w1 B1'.out).mono ?_); rintro e w2 ⟨rfl, hb2⟩; have B2' : Hid (Below w.heap.size w w2) := Lib.hid (B1'.out.trans (hb2.mono B1'.out.size)); obtain ⟨y0, y1⟩ := HK.out w2 B2'.out; have D0 := Lib.hid (HD.out.made B2'.out); clear hb2))
      | fail)
  all_goals
    go_wp2_with (first
      | (go_at_call 56; go_loud ((with_reducible refine (H1.out w2 _ D0.out.1).mono ?_); rintro e wc1 ⟨rfl, hd, hf⟩; have D1 := Lib.hid (RW.then D0.out.2 ⟨hd, hf⟩); have a1 := hd.at.1; have b1 := hd.at.2.1; have c1' := hd.at.2.2.2; have z1 := hd.fz 5; clear hd hf))
      | (go_at_call 10; go_loud ((with_reducible refine (H2.out wc1 _ D1.out.1).mono ?_); rintro e wc2 ⟨rfl, hd, hf⟩; have D2 := Lib.hid (RW.then D1.out.2 ⟨hd, hf⟩); have a2 := hd.at.1; have b2 := hd.at.2.1; have c2' := hd.at.2.2.2; have z2 := hd.fz 5; clear hd hf))
      | fail)
    go_region_held3 (fun w' => w'.cell? ⟨gl, 0, none⟩ = some (.pointer (some ⟨g, 0, none⟩)) ∧ w'.cell? ⟨gl, 1, none⟩ = some (.int .i64 (L.gen : Int))) (first | exact ⟨by assumption, by assumption⟩ | go_keep)
      (first
      | (go_at_call 60; go_loud ((with_reducible refine (HSn.out wc2.drew (D2.out.2.drew)).mono ?_); rintro e wc3s ⟨A3, k3, rfl, ho3, hb3⟩; have B3s : Below wc2.heap.size wc2 wc3s := Below.undrewW hb3; have D2s := Lib.hid (RW.then D2.out.2 (D2.out.1.made B3s)); have R3 := Lib.hid (OB.rbB ho3); have a3s := D2s.out.1.at.1; have b3s := D2s.out.1.at.2.1; clear ho3 hb3 B3s))
      | (go_at_call 8; go_loud ((with_reducible refine (H3.out wc3s _ D2s.out.1 A3 k3 R3.out).mono ?_); rintro e wc3 ⟨rfl, hd, hf⟩; have D3 := Lib.hid (RW.then D2s.out.2 ⟨hd, hf⟩); have a3 := hd.at.1; have b3 := hd.at.2.1; have c3' := hd.at.2.2.2; have z3 := hd.fz 5; clear hd hf))
      | fail)
    all_goals
      go_wp2
      go_ret
      exact ⟨rfl, RW.then D3.out.2 D3.out.1.die⟩

set_option maxHeartbeats 8000000 in
set_option maxRecDepth 100000 in
theorem compR_4 (A : Option Addr) (n c : Nat) (text : List UInt8) (to l l3 l4 l5 : Nat) (F v : Int) (h : RW w0 w S g m gl L) (hdead : L.dead = false) (hgen : L.gen < 2147483647) (ht2 : to < 3) (hti : (1 : Int) - (L.slot : Int) = (to : Int)) (HL : Hid ((to = 0 → l = l3) ∧ (to = 1 → l = l4) ∧ (to = 2 → l = l5))) (hq2 : ¬ F < 16 + (n : Int) - (l : Int)) (hn : n ≤ 1000000) (hl : l ≤ 1048576)
    (HF : Hid (∀ W, Below w.heap.size w W → Calls Tryd.prog 26 #[.pointer (some ⟨g, 0, none⟩)] W fun e w' => e = .returned (.int .i64 F) ∧ Below W.heap.size W w'))
    (HS : Hid (∀ W, Below w.heap.size w W → Calls Tryd.prog 25 #[.pointer (some ⟨g, 0, none⟩)] W fun e w' => ∃ (B0 B1 B2 : Option Addr) (d0 d1 d2 : Nat), e = .returned (.agg #[.slice B0 l3 d0, .slice B1 l4 d1, .slice B2 l5 d2]) ∧ Below W.heap.size W w'))
    (HSn : Hid (∀ W, Fr S w W → Calls Tryd.prog 60 #[.int .i64 ((L.gen : Int) + 1), .slice A n c] W fun e w' => ∃ A' c', e = .returned (.slice A' (16 + n) c') ∧ OB w' W.heap.size (.slice A' (16 + n) c') (snapB (L.gen + 1) text) ∧ Below W.heap.size W w'))
    (H1 : Hid (∀ W S', RW w0 W S' g m gl L → Calls Tryd.prog 56 #[.pointer (some ⟨g, 0, none⟩), .int .i64 (to : Int), .int .i64 0] W fun e w' => e = .returned (.int .i64 0) ∧ RW w0 w' (ext S' W w') g m1 gl L ∧ Fr S' W w'))
    (H2 : Hid (∀ W S', RW w0 W S' g m1 gl L → Calls Tryd.prog 10 #[.pointer (some ⟨g, 0, none⟩)] W fun e w' => e = .returned (.int .i64 0) ∧ RW w0 w' (ext S' W w') g m2 gl L ∧ Fr S' W w'))
    (H3 : Hid (∀ W S', RW w0 W S' g m2 gl L → ∀ A' c', RB W A' (16 + n) (snapB (L.gen + 1) text) → Calls Tryd.prog 8 #[.pointer (some ⟨g, 0, none⟩), .int .i64 (to : Int), .int .i64 0, .slice A' (16 + n) c'] W fun e w' => e = .returned (.int .i64 0) ∧ RW w0 w' (ext S' W w') g m3 gl L ∧ Fr S' W w'))
    (H4 : Hid (∀ W S', RW w0 W S' g m3 gl L → Calls Tryd.prog 10 #[.pointer (some ⟨g, 0, none⟩)] W fun e w' => e = .returned (.int .i64 v) ∧ RW w0 w' (ext S' W w') g m4 gl L ∧ Fr S' W w')) (hv : v ≠ 0) :
    Calls Tryd.prog 37 #[.pointer (some ⟨gl, 0, none⟩), .slice A n c] w fun e w' => e = .returned (.int .i64 25) ∧ RW w0 w' (ext S w w') g m4 gl { L with dead := true } ∧ Fr S w w' := by
  have c5 := h.at.2.2.2
  have c2 := h.at.2.2.1
  have c1 := h.at.2.1
  have c0 := h.at.1
  rw [hdead] at c5
  have HK : Hid (∀ W, Below w.heap.size w W → W.cell? ⟨gl, 0, none⟩ = some (.pointer (some ⟨g, 0, none⟩)) ∧ W.cell? ⟨gl, 1, none⟩ = some (.int .i64 (L.gen : Int))) := Lib.hid fun W hW => ⟨Keeps.of_below hW _ _ c0, Keeps.of_below hW _ _ c1⟩
  have HD := Lib.hid h
  have q1 : decide (2147483647 ≤ (L.gen : Int)) = false := decide_eq_false (by omega)
  have q1n : decide (2147483647 ≤ L.gen) = false := decide_eq_false (by omega)
  have q2 : decide (F < 16 + (n : Int) - (l : Int)) = false := decide_eq_false hq2
  have n0 : (n : Int) ≤ 1000000 := by omega
  have l0 : (l : Int) ≤ 1048576 := by omega
  have s0 : IntKind.i64.wrap (16 + (n : Int)) = 16 + (n : Int) := IntWalk.i64_in _ (by omega)
  have s1 : IntKind.i64.wrap (16 + (n : Int) - (l : Int)) = 16 + (n : Int) - (l : Int) := IntWalk.i64_in _ (by omega)
  have s2 : IntKind.i64.wrap ((L.gen : Int) + 1) = (L.gen : Int) + 1 := IntWalk.i64_in _ (by omega)
  have HT := Lib.hid ht2
  have p1 : (v == 0) = false := beq_eq_false_iff_ne.2 hv
  have p2 : (v != 0) = true := by rw [bne_iff_ne]; exact hv
  have Bd : Hid (Below w.heap.size w w.drew) := Lib.hid (Below.drew (Below.refl _ _))
  clear h hdead hgen ht2 hq2 hn hl hv
  go_enter Tryd.func37, Tryd.ntmps37
  go_wp2
  go_region_held3 (fun w' => w'.cell? ⟨gl, 0, none⟩ = some (.pointer (some ⟨g, 0, none⟩)) ∧ w'.cell? ⟨gl, 1, none⟩ = some (.int .i64 (L.gen : Int))) (first | exact ⟨by assumption, by assumption⟩ | go_keep)
    (first
      | (go_at_call 25; go_loud ((with_reducible refine (HS.out w.drew Bd.out).mono ?_); rintro e w1 ⟨B0, B1, B2, d0, d1, d2, rfl, hb1⟩; have B1' : Hid (Below w.heap.size w w1) := Lib.hid (Bd.out.trans hb1); obtain ⟨x0, x1⟩ := HK.out w1 B1'.out; obtain ⟨Ba, da, hix⟩ := run_index3 B0 B1 B2 d0 d1 d2 l3 l4 l5 l to HT.out HL.out.1 HL.out.2.1 HL.out.2.2; clear hb1))
      | (go_at_call 26; go_loud ((with_reducible refine (HF.out w1 B1'.out).mono ?_); rintro e w2 ⟨rfl, hb2⟩; have B2' : Hid (Below w.heap.size w w2) := Lib.hid (B1'.out.trans (hb2.mono B1'.out.size)); obtain ⟨y0, y1⟩ := HK.out w2 B2'.out; have D0 := Lib.hid (HD.out.made B2'.out); clear hb2))
      | fail)
  all_goals
    go_wp2_with (first
      | (go_at_call 56; go_loud ((with_reducible refine (H1.out w2 _ D0.out.1).mono ?_); rintro e wc1 ⟨rfl, hd, hf⟩; have D1 := Lib.hid (RW.then D0.out.2 ⟨hd, hf⟩); have a1 := hd.at.1; have b1 := hd.at.2.1; have c1' := hd.at.2.2.2; have z1 := hd.fz 5; clear hd hf))
      | (go_at_call 10; go_loud ((with_reducible refine (H2.out wc1 _ D1.out.1).mono ?_); rintro e wc2 ⟨rfl, hd, hf⟩; have D2 := Lib.hid (RW.then D1.out.2 ⟨hd, hf⟩); have a2 := hd.at.1; have b2 := hd.at.2.1; have c2' := hd.at.2.2.2; have z2 := hd.fz 5; clear hd hf))
      | fail)
    go_region_held3 (fun w' => w'.cell? ⟨gl, 0, none⟩ = some (.pointer (some ⟨g, 0, none⟩)) ∧ w'.cell? ⟨gl, 1, none⟩ = some (.int .i64 (L.gen : Int))) (first | exact ⟨by assumption, by assumption⟩ | go_keep)
      (first
      | (go_at_call 60; go_loud ((with_reducible refine (HSn.out wc2.drew (D2.out.2.drew)).mono ?_); rintro e wc3s ⟨A3, k3, rfl, ho3, hb3⟩; have B3s : Below wc2.heap.size wc2 wc3s := Below.undrewW hb3; have D2s := Lib.hid (RW.then D2.out.2 (D2.out.1.made B3s)); have R3 := Lib.hid (OB.rbB ho3); have a3s := D2s.out.1.at.1; have b3s := D2s.out.1.at.2.1; clear ho3 hb3 B3s))
      | (go_at_call 8; go_loud ((with_reducible refine (H3.out wc3s _ D2s.out.1 A3 k3 R3.out).mono ?_); rintro e wc3 ⟨rfl, hd, hf⟩; have D3 := Lib.hid (RW.then D2s.out.2 ⟨hd, hf⟩); have a3 := hd.at.1; have b3 := hd.at.2.1; have c3' := hd.at.2.2.2; have z3 := hd.fz 5; clear hd hf))
      | fail)
    all_goals
      go_wp2_with (first
      | (go_at_call 10; go_loud ((with_reducible refine (H4.out wc3 _ D3.out.1).mono ?_); rintro e wc4 ⟨rfl, hd, hf⟩; have D4 := Lib.hid (RW.then D3.out.2 ⟨hd, hf⟩); have a4 := hd.at.1; have b4 := hd.at.2.1; have c4' := hd.at.2.2.2; have z4 := hd.fz 5; clear hd hf))
      | fail)
      go_ret
      exact ⟨rfl, RW.then D4.out.2 D4.out.1.die⟩

set_option maxHeartbeats 8000000 in
set_option maxRecDepth 100000 in
theorem compR_5 (A : Option Addr) (n c : Nat) (text : List UInt8) (to l l3 l4 l5 : Nat) (F v : Int) (h : RW w0 w S g m gl L) (hdead : L.dead = false) (hgen : L.gen < 2147483647) (ht2 : to < 3) (hti : (1 : Int) - (L.slot : Int) = (to : Int)) (HL : Hid ((to = 0 → l = l3) ∧ (to = 1 → l = l4) ∧ (to = 2 → l = l5))) (hq2 : ¬ F < 16 + (n : Int) - (l : Int)) (hn : n ≤ 1000000) (hl : l ≤ 1048576)
    (HF : Hid (∀ W, Below w.heap.size w W → Calls Tryd.prog 26 #[.pointer (some ⟨g, 0, none⟩)] W fun e w' => e = .returned (.int .i64 F) ∧ Below W.heap.size W w'))
    (HS : Hid (∀ W, Below w.heap.size w W → Calls Tryd.prog 25 #[.pointer (some ⟨g, 0, none⟩)] W fun e w' => ∃ (B0 B1 B2 : Option Addr) (d0 d1 d2 : Nat), e = .returned (.agg #[.slice B0 l3 d0, .slice B1 l4 d1, .slice B2 l5 d2]) ∧ Below W.heap.size W w'))
    (HSn : Hid (∀ W, Fr S w W → Calls Tryd.prog 60 #[.int .i64 ((L.gen : Int) + 1), .slice A n c] W fun e w' => ∃ A' c', e = .returned (.slice A' (16 + n) c') ∧ OB w' W.heap.size (.slice A' (16 + n) c') (snapB (L.gen + 1) text) ∧ Below W.heap.size W w'))
    (H1 : Hid (∀ W S', RW w0 W S' g m gl L → Calls Tryd.prog 56 #[.pointer (some ⟨g, 0, none⟩), .int .i64 (to : Int), .int .i64 0] W fun e w' => e = .returned (.int .i64 0) ∧ RW w0 w' (ext S' W w') g m1 gl L ∧ Fr S' W w'))
    (H2 : Hid (∀ W S', RW w0 W S' g m1 gl L → Calls Tryd.prog 10 #[.pointer (some ⟨g, 0, none⟩)] W fun e w' => e = .returned (.int .i64 0) ∧ RW w0 w' (ext S' W w') g m2 gl L ∧ Fr S' W w'))
    (H3 : Hid (∀ W S', RW w0 W S' g m2 gl L → ∀ A' c', RB W A' (16 + n) (snapB (L.gen + 1) text) → Calls Tryd.prog 8 #[.pointer (some ⟨g, 0, none⟩), .int .i64 (to : Int), .int .i64 0, .slice A' (16 + n) c'] W fun e w' => e = .returned (.int .i64 0) ∧ RW w0 w' (ext S' W w') g m3 gl L ∧ Fr S' W w'))
    (H4 : Hid (∀ W S', RW w0 W S' g m3 gl L → Calls Tryd.prog 10 #[.pointer (some ⟨g, 0, none⟩)] W fun e w' => e = .returned (.int .i64 0) ∧ RW w0 w' (ext S' W w') g m4 gl L ∧ Fr S' W w'))
    (H5 : Hid (∀ W S', RW w0 W S' g m4 gl L → Calls Tryd.prog 56 #[.pointer (some ⟨g, 0, none⟩), .int .i64 2, .int .i64 0] W fun e w' => e = .returned (.int .i64 v) ∧ RW w0 w' (ext S' W w') g m5 gl L ∧ Fr S' W w')) (hv : v ≠ 0) :
    Calls Tryd.prog 37 #[.pointer (some ⟨gl, 0, none⟩), .slice A n c] w fun e w' => e = .returned (.int .i64 25) ∧ RW w0 w' (ext S w w') g m5 gl { L with dead := true } ∧ Fr S w w' := by
  have c5 := h.at.2.2.2
  have c2 := h.at.2.2.1
  have c1 := h.at.2.1
  have c0 := h.at.1
  rw [hdead] at c5
  have HK : Hid (∀ W, Below w.heap.size w W → W.cell? ⟨gl, 0, none⟩ = some (.pointer (some ⟨g, 0, none⟩)) ∧ W.cell? ⟨gl, 1, none⟩ = some (.int .i64 (L.gen : Int))) := Lib.hid fun W hW => ⟨Keeps.of_below hW _ _ c0, Keeps.of_below hW _ _ c1⟩
  have HD := Lib.hid h
  have q1 : decide (2147483647 ≤ (L.gen : Int)) = false := decide_eq_false (by omega)
  have q1n : decide (2147483647 ≤ L.gen) = false := decide_eq_false (by omega)
  have q2 : decide (F < 16 + (n : Int) - (l : Int)) = false := decide_eq_false hq2
  have n0 : (n : Int) ≤ 1000000 := by omega
  have l0 : (l : Int) ≤ 1048576 := by omega
  have s0 : IntKind.i64.wrap (16 + (n : Int)) = 16 + (n : Int) := IntWalk.i64_in _ (by omega)
  have s1 : IntKind.i64.wrap (16 + (n : Int) - (l : Int)) = 16 + (n : Int) - (l : Int) := IntWalk.i64_in _ (by omega)
  have s2 : IntKind.i64.wrap ((L.gen : Int) + 1) = (L.gen : Int) + 1 := IntWalk.i64_in _ (by omega)
  have HT := Lib.hid ht2
  have p1 : (v == 0) = false := beq_eq_false_iff_ne.2 hv
  have p2 : (v != 0) = true := by rw [bne_iff_ne]; exact hv
  have Bd : Hid (Below w.heap.size w w.drew) := Lib.hid (Below.drew (Below.refl _ _))
  clear h hdead hgen ht2 hq2 hn hl hv
  go_enter Tryd.func37, Tryd.ntmps37
  go_wp2
  go_region_held3 (fun w' => w'.cell? ⟨gl, 0, none⟩ = some (.pointer (some ⟨g, 0, none⟩)) ∧ w'.cell? ⟨gl, 1, none⟩ = some (.int .i64 (L.gen : Int))) (first | exact ⟨by assumption, by assumption⟩ | go_keep)
    (first
      | (go_at_call 25; go_loud ((with_reducible refine (HS.out w.drew Bd.out).mono ?_); rintro e w1 ⟨B0, B1, B2, d0, d1, d2, rfl, hb1⟩; have B1' : Hid (Below w.heap.size w w1) := Lib.hid (Bd.out.trans hb1); obtain ⟨x0, x1⟩ := HK.out w1 B1'.out; obtain ⟨Ba, da, hix⟩ := run_index3 B0 B1 B2 d0 d1 d2 l3 l4 l5 l to HT.out HL.out.1 HL.out.2.1 HL.out.2.2; clear hb1))
      | (go_at_call 26; go_loud ((with_reducible refine (HF.out w1 B1'.out).mono ?_); rintro e w2 ⟨rfl, hb2⟩; have B2' : Hid (Below w.heap.size w w2) := Lib.hid (B1'.out.trans (hb2.mono B1'.out.size)); obtain ⟨y0, y1⟩ := HK.out w2 B2'.out; have D0 := Lib.hid (HD.out.made B2'.out); clear hb2))
      | fail)
  all_goals
    go_wp2_with (first
      | (go_at_call 56; go_loud ((with_reducible refine (H1.out w2 _ D0.out.1).mono ?_); rintro e wc1 ⟨rfl, hd, hf⟩; have D1 := Lib.hid (RW.then D0.out.2 ⟨hd, hf⟩); have a1 := hd.at.1; have b1 := hd.at.2.1; have c1' := hd.at.2.2.2; have z1 := hd.fz 5; clear hd hf))
      | (go_at_call 10; go_loud ((with_reducible refine (H2.out wc1 _ D1.out.1).mono ?_); rintro e wc2 ⟨rfl, hd, hf⟩; have D2 := Lib.hid (RW.then D1.out.2 ⟨hd, hf⟩); have a2 := hd.at.1; have b2 := hd.at.2.1; have c2' := hd.at.2.2.2; have z2 := hd.fz 5; clear hd hf))
      | fail)
    go_region_held3 (fun w' => w'.cell? ⟨gl, 0, none⟩ = some (.pointer (some ⟨g, 0, none⟩)) ∧ w'.cell? ⟨gl, 1, none⟩ = some (.int .i64 (L.gen : Int))) (first | exact ⟨by assumption, by assumption⟩ | go_keep)
      (first
      | (go_at_call 60; go_loud ((with_reducible refine (HSn.out wc2.drew (D2.out.2.drew)).mono ?_); rintro e wc3s ⟨A3, k3, rfl, ho3, hb3⟩; have B3s : Below wc2.heap.size wc2 wc3s := Below.undrewW hb3; have D2s := Lib.hid (RW.then D2.out.2 (D2.out.1.made B3s)); have R3 := Lib.hid (OB.rbB ho3); have a3s := D2s.out.1.at.1; have b3s := D2s.out.1.at.2.1; clear ho3 hb3 B3s))
      | (go_at_call 8; go_loud ((with_reducible refine (H3.out wc3s _ D2s.out.1 A3 k3 R3.out).mono ?_); rintro e wc3 ⟨rfl, hd, hf⟩; have D3 := Lib.hid (RW.then D2s.out.2 ⟨hd, hf⟩); have a3 := hd.at.1; have b3 := hd.at.2.1; have c3' := hd.at.2.2.2; have z3 := hd.fz 5; clear hd hf))
      | fail)
    all_goals
      go_wp2_with (first
      | (go_at_call 10; go_loud ((with_reducible refine (H4.out wc3 _ D3.out.1).mono ?_); rintro e wc4 ⟨rfl, hd, hf⟩; have D4 := Lib.hid (RW.then D3.out.2 ⟨hd, hf⟩); have a4 := hd.at.1; have b4 := hd.at.2.1; have c4' := hd.at.2.2.2; have z4 := hd.fz 5; clear hd hf))
      | (go_at_call 56; go_loud ((with_reducible refine (H5.out wc4 _ D4.out.1).mono ?_); rintro e wc5 ⟨rfl, hd, hf⟩; have D5 := Lib.hid (RW.then D4.out.2 ⟨hd, hf⟩); have a5 := hd.at.1; have b5 := hd.at.2.1; have c5' := hd.at.2.2.2; have z5 := hd.fz 5; clear hd hf))
      | fail)
      go_ret
      exact ⟨rfl, RW.then D5.out.2 D5.out.1.die⟩

set_option maxHeartbeats 8000000 in
set_option maxRecDepth 100000 in
theorem compR_6 (A : Option Addr) (n c : Nat) (text : List UInt8) (to l l3 l4 l5 : Nat) (F v : Int) (h : RW w0 w S g m gl L) (hdead : L.dead = false) (hgen : L.gen < 2147483647) (ht2 : to < 3) (hti : (1 : Int) - (L.slot : Int) = (to : Int)) (HL : Hid ((to = 0 → l = l3) ∧ (to = 1 → l = l4) ∧ (to = 2 → l = l5))) (hq2 : ¬ F < 16 + (n : Int) - (l : Int)) (hn : n ≤ 1000000) (hl : l ≤ 1048576)
    (HF : Hid (∀ W, Below w.heap.size w W → Calls Tryd.prog 26 #[.pointer (some ⟨g, 0, none⟩)] W fun e w' => e = .returned (.int .i64 F) ∧ Below W.heap.size W w'))
    (HS : Hid (∀ W, Below w.heap.size w W → Calls Tryd.prog 25 #[.pointer (some ⟨g, 0, none⟩)] W fun e w' => ∃ (B0 B1 B2 : Option Addr) (d0 d1 d2 : Nat), e = .returned (.agg #[.slice B0 l3 d0, .slice B1 l4 d1, .slice B2 l5 d2]) ∧ Below W.heap.size W w'))
    (HSn : Hid (∀ W, Fr S w W → Calls Tryd.prog 60 #[.int .i64 ((L.gen : Int) + 1), .slice A n c] W fun e w' => ∃ A' c', e = .returned (.slice A' (16 + n) c') ∧ OB w' W.heap.size (.slice A' (16 + n) c') (snapB (L.gen + 1) text) ∧ Below W.heap.size W w'))
    (H1 : Hid (∀ W S', RW w0 W S' g m gl L → Calls Tryd.prog 56 #[.pointer (some ⟨g, 0, none⟩), .int .i64 (to : Int), .int .i64 0] W fun e w' => e = .returned (.int .i64 0) ∧ RW w0 w' (ext S' W w') g m1 gl L ∧ Fr S' W w'))
    (H2 : Hid (∀ W S', RW w0 W S' g m1 gl L → Calls Tryd.prog 10 #[.pointer (some ⟨g, 0, none⟩)] W fun e w' => e = .returned (.int .i64 0) ∧ RW w0 w' (ext S' W w') g m2 gl L ∧ Fr S' W w'))
    (H3 : Hid (∀ W S', RW w0 W S' g m2 gl L → ∀ A' c', RB W A' (16 + n) (snapB (L.gen + 1) text) → Calls Tryd.prog 8 #[.pointer (some ⟨g, 0, none⟩), .int .i64 (to : Int), .int .i64 0, .slice A' (16 + n) c'] W fun e w' => e = .returned (.int .i64 0) ∧ RW w0 w' (ext S' W w') g m3 gl L ∧ Fr S' W w'))
    (H4 : Hid (∀ W S', RW w0 W S' g m3 gl L → Calls Tryd.prog 10 #[.pointer (some ⟨g, 0, none⟩)] W fun e w' => e = .returned (.int .i64 0) ∧ RW w0 w' (ext S' W w') g m4 gl L ∧ Fr S' W w'))
    (H5 : Hid (∀ W S', RW w0 W S' g m4 gl L → Calls Tryd.prog 56 #[.pointer (some ⟨g, 0, none⟩), .int .i64 2, .int .i64 0] W fun e w' => e = .returned (.int .i64 0) ∧ RW w0 w' (ext S' W w') g m5 gl L ∧ Fr S' W w'))
    (H6 : Hid (∀ W S', RW w0 W S' g m5 gl L → Calls Tryd.prog 10 #[.pointer (some ⟨g, 0, none⟩)] W fun e w' => e = .returned (.int .i64 v) ∧ RW w0 w' (ext S' W w') g m6 gl L ∧ Fr S' W w')) (hv : v ≠ 0) :
    Calls Tryd.prog 37 #[.pointer (some ⟨gl, 0, none⟩), .slice A n c] w fun e w' => e = .returned (.int .i64 25) ∧ RW w0 w' (ext S w w') g m6 gl { L with dead := true } ∧ Fr S w w' := by
  have c5 := h.at.2.2.2
  have c2 := h.at.2.2.1
  have c1 := h.at.2.1
  have c0 := h.at.1
  rw [hdead] at c5
  have HK : Hid (∀ W, Below w.heap.size w W → W.cell? ⟨gl, 0, none⟩ = some (.pointer (some ⟨g, 0, none⟩)) ∧ W.cell? ⟨gl, 1, none⟩ = some (.int .i64 (L.gen : Int))) := Lib.hid fun W hW => ⟨Keeps.of_below hW _ _ c0, Keeps.of_below hW _ _ c1⟩
  have HD := Lib.hid h
  have q1 : decide (2147483647 ≤ (L.gen : Int)) = false := decide_eq_false (by omega)
  have q1n : decide (2147483647 ≤ L.gen) = false := decide_eq_false (by omega)
  have q2 : decide (F < 16 + (n : Int) - (l : Int)) = false := decide_eq_false hq2
  have n0 : (n : Int) ≤ 1000000 := by omega
  have l0 : (l : Int) ≤ 1048576 := by omega
  have s0 : IntKind.i64.wrap (16 + (n : Int)) = 16 + (n : Int) := IntWalk.i64_in _ (by omega)
  have s1 : IntKind.i64.wrap (16 + (n : Int) - (l : Int)) = 16 + (n : Int) - (l : Int) := IntWalk.i64_in _ (by omega)
  have s2 : IntKind.i64.wrap ((L.gen : Int) + 1) = (L.gen : Int) + 1 := IntWalk.i64_in _ (by omega)
  have HT := Lib.hid ht2
  have p1 : (v == 0) = false := beq_eq_false_iff_ne.2 hv
  have p2 : (v != 0) = true := by rw [bne_iff_ne]; exact hv
  have Bd : Hid (Below w.heap.size w w.drew) := Lib.hid (Below.drew (Below.refl _ _))
  clear h hdead hgen ht2 hq2 hn hl hv
  go_enter Tryd.func37, Tryd.ntmps37
  go_wp2
  go_region_held3 (fun w' => w'.cell? ⟨gl, 0, none⟩ = some (.pointer (some ⟨g, 0, none⟩)) ∧ w'.cell? ⟨gl, 1, none⟩ = some (.int .i64 (L.gen : Int))) (first | exact ⟨by assumption, by assumption⟩ | go_keep)
    (first
      | (go_at_call 25; go_loud ((with_reducible refine (HS.out w.drew Bd.out).mono ?_); rintro e w1 ⟨B0, B1, B2, d0, d1, d2, rfl, hb1⟩; have B1' : Hid (Below w.heap.size w w1) := Lib.hid (Bd.out.trans hb1); obtain ⟨x0, x1⟩ := HK.out w1 B1'.out; obtain ⟨Ba, da, hix⟩ := run_index3 B0 B1 B2 d0 d1 d2 l3 l4 l5 l to HT.out HL.out.1 HL.out.2.1 HL.out.2.2; clear hb1))
      | (go_at_call 26; go_loud ((with_reducible refine (HF.out w1 B1'.out).mono ?_); rintro e w2 ⟨rfl, hb2⟩; have B2' : Hid (Below w.heap.size w w2) := Lib.hid (B1'.out.trans (hb2.mono B1'.out.size)); obtain ⟨y0, y1⟩ := HK.out w2 B2'.out; have D0 := Lib.hid (HD.out.made B2'.out); clear hb2))
      | fail)
  all_goals
    go_wp2_with (first
      | (go_at_call 56; go_loud ((with_reducible refine (H1.out w2 _ D0.out.1).mono ?_); rintro e wc1 ⟨rfl, hd, hf⟩; have D1 := Lib.hid (RW.then D0.out.2 ⟨hd, hf⟩); have a1 := hd.at.1; have b1 := hd.at.2.1; have c1' := hd.at.2.2.2; have z1 := hd.fz 5; clear hd hf))
      | (go_at_call 10; go_loud ((with_reducible refine (H2.out wc1 _ D1.out.1).mono ?_); rintro e wc2 ⟨rfl, hd, hf⟩; have D2 := Lib.hid (RW.then D1.out.2 ⟨hd, hf⟩); have a2 := hd.at.1; have b2 := hd.at.2.1; have c2' := hd.at.2.2.2; have z2 := hd.fz 5; clear hd hf))
      | fail)
    go_region_held3 (fun w' => w'.cell? ⟨gl, 0, none⟩ = some (.pointer (some ⟨g, 0, none⟩)) ∧ w'.cell? ⟨gl, 1, none⟩ = some (.int .i64 (L.gen : Int))) (first | exact ⟨by assumption, by assumption⟩ | go_keep)
      (first
      | (go_at_call 60; go_loud ((with_reducible refine (HSn.out wc2.drew (D2.out.2.drew)).mono ?_); rintro e wc3s ⟨A3, k3, rfl, ho3, hb3⟩; have B3s : Below wc2.heap.size wc2 wc3s := Below.undrewW hb3; have D2s := Lib.hid (RW.then D2.out.2 (D2.out.1.made B3s)); have R3 := Lib.hid (OB.rbB ho3); have a3s := D2s.out.1.at.1; have b3s := D2s.out.1.at.2.1; clear ho3 hb3 B3s))
      | (go_at_call 8; go_loud ((with_reducible refine (H3.out wc3s _ D2s.out.1 A3 k3 R3.out).mono ?_); rintro e wc3 ⟨rfl, hd, hf⟩; have D3 := Lib.hid (RW.then D2s.out.2 ⟨hd, hf⟩); have a3 := hd.at.1; have b3 := hd.at.2.1; have c3' := hd.at.2.2.2; have z3 := hd.fz 5; clear hd hf))
      | fail)
    all_goals
      go_wp2_with (first
      | (go_at_call 10; go_loud ((with_reducible refine (H4.out wc3 _ D3.out.1).mono ?_); rintro e wc4 ⟨rfl, hd, hf⟩; have D4 := Lib.hid (RW.then D3.out.2 ⟨hd, hf⟩); have a4 := hd.at.1; have b4 := hd.at.2.1; have c4' := hd.at.2.2.2; have z4 := hd.fz 5; clear hd hf))
      | (go_at_call 56; go_loud ((with_reducible refine (H5.out wc4 _ D4.out.1).mono ?_); rintro e wc5 ⟨rfl, hd, hf⟩; have D5 := Lib.hid (RW.then D4.out.2 ⟨hd, hf⟩); have a5 := hd.at.1; have b5 := hd.at.2.1; have c5' := hd.at.2.2.2; have z5 := hd.fz 5; clear hd hf))
      | (go_at_call 10; go_loud ((with_reducible refine (H6.out wc5 _ D5.out.1).mono ?_); rintro e wc6 ⟨rfl, hd, hf⟩; have D6 := Lib.hid (RW.then D5.out.2 ⟨hd, hf⟩); have a6 := hd.at.1; have b6 := hd.at.2.1; have c6' := hd.at.2.2.2; have z6 := hd.fz 5; clear hd hf))
      | fail)
      go_ret
      exact ⟨rfl, RW.then D6.out.2 D6.out.1.die⟩
end
end Go.Proofs.YtifjddkgnfanaaaDoor
