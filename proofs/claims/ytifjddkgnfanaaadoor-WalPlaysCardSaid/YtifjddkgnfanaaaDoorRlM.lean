/- The document's log (layer 18): Compact's end. -/
import Derived.Test.YtifjddkgnfanaaaDoorRlJ
namespace Go.Proofs.YtifjddkgnfanaaaDoor
open Go.RowKit

section
variable {w w' w0 : World} {S P : Nat → Prop} {gl g : Nat} {m : DM} {L : LM} {tv rv : Value} {ws : List (List UInt8 × Value)}
theorem rlnew_cells (g : Nat) (L : LM) (tv rv G t v : Value) : ((((rlcells g L tv rv).setIfInBounds 1 G).setIfInBounds 2 t).setIfInBounds 3 v).setIfInBounds 4 (.slice none 0 0) = #[.pointer (some ⟨g, 0, none⟩), G, t, v, .slice none 0 0, .bool L.dead] := by
  simp [rlcells]
/-- Another snapshot, no records. -/
theorem RLogV.renew {w7 : World} {text : List UInt8} {v : Value} {to : Nat} (h : RLogV w P gl g L tv rv ws) (hb : Below w.heap.size w w7) (hx : OB w7 w.heap.size v text) {W : World} (hW : W = (((w7.setCell ⟨gl, 1, none⟩ (.int .i64 ((L.gen + 1 : Nat) : Int))).setCell ⟨gl, 2, none⟩ (.int .i64 (to : Int))).setCell ⟨gl, 3, none⟩ v).setCell ⟨gl, 4, none⟩ (.slice none 0 0)) :
    RLogAt W (ext P w W) gl g ⟨L.gen + 1, to, text, [], L.dead⟩ ∧ Fr P w W := by
  subst hW
  have hrow := (hb.block _ h.lt).trans h.cells
  have hF := ((((Fr.refl (fun q => q = gl) w7).setCell (p := ⟨gl, 1, none⟩) (fun _ => rfl) (.int .i64 ((L.gen + 1 : Nat) : Int))).setCell (p := ⟨gl, 2, none⟩) (fun _ => rfl) (.int .i64 (to : Int))).setCell (p := ⟨gl, 3, none⟩) (fun _ => rfl) v).setCell (p := ⟨gl, 4, none⟩) (fun _ => rfl) (.slice none 0 0)
  have hc := heap_setCell_same _ gl 4 _ _ (.slice none 0 0) (heap_setCell_same _ gl 3 _ _ v (heap_setCell_same _ gl 2 _ _ (.int .i64 (to : Int)) (heap_setCell_same _ gl 1 _ _ (.int .i64 ((L.gen + 1 : Nat) : Int)) hrow)))
  rw [rlnew_cells] at hc
  have hx2 := OwnS.kept hx hF fun k hk e => by
    subst e
    obtain ⟨cur, hcur⟩ := own_type hx hk
    exact absurd (types_ne hcur hrow) (by decide)
  have hsz := hF.size
  refine ⟨⟨v, .slice none 0 0, [], hc, OB.mono hx2 (Nat.zero_le _), OwnS.nil _ _ _ _, rfl, fun x hx => (nomatch hx), .inl h.ownG, fun k hk => ?_, fun k hk => (nomatch hk), fun x hx => (nomatch hx)⟩, (Fr.of_below (S := P) hb).trans (hF.mono fun q _ e => by subst e; exact h.ownG) fun _ _ h => h⟩
  have := OB.lt hx k hk
  exact .inr ⟨this.1, by omega⟩
end
end Go.Proofs.YtifjddkgnfanaaaDoor

/- The document's log (layer 18): Compact where no call fails. -/
namespace Go.Proofs.YtifjddkgnfanaaaDoor
open Go.RowKit

section
variable {w w' w0 : World} {S P : Nat → Prop} {gl g : Nat} {m m1 m2 m3 m4 m5 m6 : DM} {L : LM} {tv rv : Value} {ws : List (List UInt8 × Value)}

set_option maxHeartbeats 8000000 in
set_option maxRecDepth 100000 in
theorem compR_7 (A : Option Addr) (n c : Nat) (text : List UInt8) (to l l3 l4 l5 : Nat) (F : Int) (h : RW w0 w S g m gl L) (hdead : L.dead = false) (hgen : L.gen < 2147483647) (ht2 : to < 3) (hti : (1 : Int) - (L.slot : Int) = (to : Int)) (HL : Hid ((to = 0 → l = l3) ∧ (to = 1 → l = l4) ∧ (to = 2 → l = l5))) (hq2 : ¬ F < 16 + (n : Int) - (l : Int)) (hn : n ≤ 1000000) (hl : l ≤ 1048576)
    (HF : Hid (∀ W, Below w.heap.size w W → Calls Tryd.prog 26 #[.pointer (some ⟨g, 0, none⟩)] W fun e w' => e = .returned (.int .i64 F) ∧ Below W.heap.size W w'))
    (HS : Hid (∀ W, Below w.heap.size w W → Calls Tryd.prog 25 #[.pointer (some ⟨g, 0, none⟩)] W fun e w' => ∃ (B0 B1 B2 : Option Addr) (d0 d1 d2 : Nat), e = .returned (.agg #[.slice B0 l3 d0, .slice B1 l4 d1, .slice B2 l5 d2]) ∧ Below W.heap.size W w'))
    (HSn : Hid (∀ W, Fr S w W → Calls Tryd.prog 60 #[.int .i64 ((L.gen : Int) + 1), .slice A n c] W fun e w' => ∃ A' c', e = .returned (.slice A' (16 + n) c') ∧ OB w' W.heap.size (.slice A' (16 + n) c') (snapB (L.gen + 1) text) ∧ Below W.heap.size W w'))
    (H1 : Hid (∀ W S', RW w0 W S' g m gl L → Calls Tryd.prog 56 #[.pointer (some ⟨g, 0, none⟩), .int .i64 (to : Int), .int .i64 0] W fun e w' => e = .returned (.int .i64 0) ∧ RW w0 w' (ext S' W w') g m1 gl L ∧ Fr S' W w'))
    (H2 : Hid (∀ W S', RW w0 W S' g m1 gl L → Calls Tryd.prog 10 #[.pointer (some ⟨g, 0, none⟩)] W fun e w' => e = .returned (.int .i64 0) ∧ RW w0 w' (ext S' W w') g m2 gl L ∧ Fr S' W w'))
    (H3 : Hid (∀ W S', RW w0 W S' g m2 gl L → ∀ A' c', RB W A' (16 + n) (snapB (L.gen + 1) text) → Calls Tryd.prog 8 #[.pointer (some ⟨g, 0, none⟩), .int .i64 (to : Int), .int .i64 0, .slice A' (16 + n) c'] W fun e w' => e = .returned (.int .i64 0) ∧ RW w0 w' (ext S' W w') g m3 gl L ∧ Fr S' W w'))
    (H4 : Hid (∀ W S', RW w0 W S' g m3 gl L → Calls Tryd.prog 10 #[.pointer (some ⟨g, 0, none⟩)] W fun e w' => e = .returned (.int .i64 0) ∧ RW w0 w' (ext S' W w') g m4 gl L ∧ Fr S' W w'))
    (H5 : Hid (∀ W S', RW w0 W S' g m4 gl L → Calls Tryd.prog 56 #[.pointer (some ⟨g, 0, none⟩), .int .i64 2, .int .i64 0] W fun e w' => e = .returned (.int .i64 0) ∧ RW w0 w' (ext S' W w') g m5 gl L ∧ Fr S' W w'))
    (H6 : Hid (∀ W S', RW w0 W S' g m5 gl L → Calls Tryd.prog 10 #[.pointer (some ⟨g, 0, none⟩)] W fun e w' => e = .returned (.int .i64 0) ∧ RW w0 w' (ext S' W w') g m6 gl L ∧ Fr S' W w')) (HB : Hid (RB w A n text)) (HA : Hid (0 < n → Off S A)) :
    Calls Tryd.prog 37 #[.pointer (some ⟨gl, 0, none⟩), .slice A n c] w fun e w' => e = .returned (.int .i64 0) ∧ RW w0 w' (ext S w w') g m6 gl ⟨L.gen + 1, to, text, [], L.dead⟩ ∧ Fr S w w' := by
  have c5 := h.at.2.2.2
  have c2 := h.at.2.2.1
  have c1 := h.at.2.1
  have c0 := h.at.1
  rw [hdead] at c5
  have HK : Hid (∀ W, Below w.heap.size w W → W.cell? ⟨gl, 0, none⟩ = some (.pointer (some ⟨g, 0, none⟩)) ∧ W.cell? ⟨gl, 1, none⟩ = some (.int .i64 (L.gen : Int))) := Lib.hid fun W hW => ⟨Keeps.of_below hW _ _ c0, Keeps.of_below hW _ _ c1⟩
  have HD := Lib.hid h
  have q1 : decide (2147483647 ≤ (L.gen : Int)) = false := decide_eq_false (by omega)
  have q1n : decide (2147483647 ≤ L.gen) = false := decide_eq_false (by omega)
  have q2 : decide (F < 16 + (n : Int) - (l : Int)) = false := decide_eq_false hq2
  have n0 : (n : Int) ≤ 1000000 := by omega
  have l0 : (l : Int) ≤ 1048576 := by omega
  have s0 : IntKind.i64.wrap (16 + (n : Int)) = 16 + (n : Int) := IntWalk.i64_in _ (by omega)
  have s1 : IntKind.i64.wrap (16 + (n : Int) - (l : Int)) = 16 + (n : Int) - (l : Int) := IntWalk.i64_in _ (by omega)
  have s2 : IntKind.i64.wrap ((L.gen : Int) + 1) = (L.gen : Int) + 1 := IntWalk.i64_in _ (by omega)
  have HT := Lib.hid ht2
  have HN := Lib.hid hn
  have Bd : Hid (Below w.heap.size w w.drew) := Lib.hid (Below.drew (Below.refl _ _))
  clear h hdead hgen ht2 hq2 hn hl
  go_enter Tryd.func37, Tryd.ntmps37
  go_wp2
  go_region_held3 (fun w' => w'.cell? ⟨gl, 0, none⟩ = some (.pointer (some ⟨g, 0, none⟩)) ∧ w'.cell? ⟨gl, 1, none⟩ = some (.int .i64 (L.gen : Int))) (first | exact ⟨by assumption, by assumption⟩ | go_keep)
    (first
      | (go_at_call 25; go_loud ((with_reducible refine (HS.out w.drew Bd.out).mono ?_); rintro e w1 ⟨B0, B1, B2, d0, d1, d2, rfl, hb1⟩; have B1' : Hid (Below w.heap.size w w1) := Lib.hid (Bd.out.trans hb1); obtain ⟨x0, x1⟩ := HK.out w1 B1'.out; obtain ⟨Ba, da, hix⟩ := run_index3 B0 B1 B2 d0 d1 d2 l3 l4 l5 l to HT.out HL.out.1 HL.out.2.1 HL.out.2.2; clear hb1))
      | (go_at_call 26; go_loud ((with_reducible refine (HF.out w1 B1'.out).mono ?_); rintro e w2 ⟨rfl, hb2⟩; have B2' : Hid (Below w.heap.size w w2) := Lib.hid (B1'.out.trans (hb2.mono B1'.out.size)); obtain ⟨y0, y1⟩ := HK.out w2 B2'.out; have D0 := Lib.hid (HD.out.made B2'.out); clear hb2))
      | fail)
  all_goals
    go_wp2_with (first
      | (go_at_call 56; go_loud ((with_reducible refine (H1.out w2 _ D0.out.1).mono ?_); rintro e wc1 ⟨rfl, hd, hf⟩; have D1 := Lib.hid (RW.then D0.out.2 ⟨hd, hf⟩); have a1 := hd.at.1; have b1 := hd.at.2.1; have c1' := hd.at.2.2.2; have z1 := hd.fz 5; clear hd hf))
      | (go_at_call 10; go_loud ((with_reducible refine (H2.out wc1 _ D1.out.1).mono ?_); rintro e wc2 ⟨rfl, hd, hf⟩; have D2 := Lib.hid (RW.then D1.out.2 ⟨hd, hf⟩); have a2 := hd.at.1; have b2 := hd.at.2.1; have c2' := hd.at.2.2.2; have z2 := hd.fz 5; clear hd hf))
      | fail)
    go_region_held3 (fun w' => w'.cell? ⟨gl, 0, none⟩ = some (.pointer (some ⟨g, 0, none⟩)) ∧ w'.cell? ⟨gl, 1, none⟩ = some (.int .i64 (L.gen : Int))) (first | exact ⟨by assumption, by assumption⟩ | go_keep)
      (first
      | (go_at_call 60; go_loud ((with_reducible refine (HSn.out wc2.drew (D2.out.2.drew)).mono ?_); rintro e wc3s ⟨A3, k3, rfl, ho3, hb3⟩; have B3s : Below wc2.heap.size wc2 wc3s := Below.undrewW hb3; have D2s := Lib.hid (RW.then D2.out.2 (D2.out.1.made B3s)); have R3 := Lib.hid (OB.rbB ho3); have a3s := D2s.out.1.at.1; have b3s := D2s.out.1.at.2.1; clear ho3 hb3 B3s))
      | (go_at_call 8; go_loud ((with_reducible refine (H3.out wc3s _ D2s.out.1 A3 k3 R3.out).mono ?_); rintro e wc3 ⟨rfl, hd, hf⟩; have D3 := Lib.hid (RW.then D2s.out.2 ⟨hd, hf⟩); have a3 := hd.at.1; have b3 := hd.at.2.1; have c3' := hd.at.2.2.2; have z3 := hd.fz 5; clear hd hf))
      | fail)
    all_goals
      go_wp2_with (first
      | (go_at_call 10; go_loud ((with_reducible refine (H4.out wc3 _ D3.out.1).mono ?_); rintro e wc4 ⟨rfl, hd, hf⟩; have D4 := Lib.hid (RW.then D3.out.2 ⟨hd, hf⟩); have a4 := hd.at.1; have b4 := hd.at.2.1; have c4' := hd.at.2.2.2; have z4 := hd.fz 5; clear hd hf))
      | (go_at_call 56; go_loud ((with_reducible refine (H5.out wc4 _ D4.out.1).mono ?_); rintro e wc5 ⟨rfl, hd, hf⟩; have D5 := Lib.hid (RW.then D4.out.2 ⟨hd, hf⟩); have a5 := hd.at.1; have b5 := hd.at.2.1; have c5' := hd.at.2.2.2; have z5 := hd.fz 5; clear hd hf))
      | (go_at_call 10; go_loud ((with_reducible refine (H6.out wc5 _ D5.out.1).mono ?_); rintro e wc6 ⟨rfl, hd, hf⟩; have D6 := Lib.hid (RW.then D5.out.2 ⟨hd, hf⟩); have a6 := hd.at.1; have b6 := hd.at.2.1; have c6' := hd.at.2.2.2; have z6 := hd.fz 5; clear hd hf))
      | fail)
      have R6 := Lib.hid ((HB.out.keep (Keeps.drewN w 0)).fr0 D6.out.2 HA.out)
      obtain ⟨P, tv, rv, ws, hV, hPS, hU⟩ := D6.out.1.useL
      have HV := Lib.hid hV
      have HU := Lib.hid hU
      have HGN : Hid ((L.gen : Int) + 1 = ((L.gen + 1 : Nat) : Int)) := Lib.hid rfl
      clear hV hPS hU
      have b6o : ∀ o, (wc6.alloc o).cell? ⟨gl, 1, none⟩ = some (.int .i64 (L.gen : Int)) := fun o => Keeps.of_below ((Below.refl wc6.heap.size wc6).alloc (Nat.le_refl _) o) _ _ b6
      go_region_law (first
        | (refine step_append_b rfl (.tmp 105) (.tmp 106) 28 (by rfl) (own_emptyB (w := (wc6.alloc (.cells #[] 5)).drew) (q := wc6.heap.size) (base := wc6.heap.size) (heap_alloc_new wc6 _) (Nat.le_refl _)) (by rfl) (RB.src Tryd.underlying28 (c := c) (R6.out.keep (Keeps.of_below (below_d1 ((Below.refl _ wc6).alloc (Nat.le_refl _) _))))) (by rfl) (by have := R6.out.1; have := HN.out; simp; omega) (by show _ ≤ (wc6.heap.push _).size; simp) ?_; intro v7 w7 hown7 hgr7 hat7; rw [List.nil_append] at hown7; obtain ⟨A7, c7, e7, -, -, -⟩ := hown7.form; subst e7; have O7 := Lib.hid hown7; have B7 : Hid (Below wc6.heap.size wc6 w7) := Lib.hid (grown_new (below_d1 ((Below.refl _ wc6).alloc (Nat.le_refl _) _)) hgr7 (Nat.le_refl _)); have row7 := (B7.out.block _ HV.out.lt).trans HV.out.cells; have u1 := cell_of_row _ _ 1 _ _ _ row7; have u2 := cell_of_row _ _ 2 _ _ _ row7; have u3 := cell_of_row _ _ 3 _ _ _ row7; have u4 := cell_of_row _ _ 4 _ _ _ row7; have uf : ∀ j, w7.frozen? ⟨gl, j, none⟩ = false := fun j => frozen_of_row _ _ _ _ _ row7; have u1' : w7.cell? ⟨gl, 1, none⟩ = some (.int .i64 (L.gen : Int)) := u1; have u2' : w7.cell? ⟨gl, 2, none⟩ = some (.int .i64 (L.slot : Int)) := u2; have u3' : w7.cell? ⟨gl, 3, none⟩ = some tv := u3; have u4' : w7.cell? ⟨gl, 4, none⟩ = some rv := u4; clear hown7 hgr7 hat7 row7 u1 u2 u3 u4)
        | fail)
      all_goals
        go_wp2
        go_ret
        obtain ⟨D9, F9⟩ := HV.out.renew (to := to) B7.out O7.out rfl
        obtain ⟨D8, F8⟩ := HU.out _ _ D9 F9
        exact ⟨rfl, RW.then D6.out.2 ⟨D8, F8⟩⟩
end
end Go.Proofs.YtifjddkgnfanaaaDoor
