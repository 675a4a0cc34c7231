/- The document's log (layer 18): Open. -/
import Derived.Test.YtifjddkgnfanaaaDoorRlQ
import Derived.Test.YtifjddkgnfanaaaDoorRlN
namespace Go.Proofs.YtifjddkgnfanaaaDoor
open Go.RowKit

section
variable {w2 : World} {n0 gl g : Nat} {b : Nat → List UInt8} {B : Nat → Option Addr} {d : Nat → Nat}
/-- All records. -/
theorem opn_recs (fr : Act) (w : World) (Q : Exit → Act → World → Prop) (G sl : Nat) (tx : List UInt8) (l : List UInt8) (hl2 : b 2 = l) (hJ : QK w2 n0 gl g ⟨G, sl, tx, [], false⟩ fr w) (hA : QA w2 n0 b B d) (hG : G < 4294967296)
    (hX : ∀ (rs : List (List UInt8)) (r : List UInt8) (fr' : Act) (w' : World), l = recsB G 0 rs ++ r → nextB r G rs.length = none → Shorts rs → QK w2 n0 gl g ⟨G, sl, tx, rs, false⟩ fr' w' → Q (.exit 2) fr' w') :
    Code.wp Tryd.prog (.loop (lpC Tryd.f31.body 1)) Q fr w := by
  refine wp_loop_ghost (fun N a w' => ∃ rs r, r.length = N ∧ l = recsB G 0 rs ++ r ∧ Shorts rs ∧ QK w2 n0 gl g ⟨G, sl, tx, rs, false⟩ a w') l.length ⟨[], l, rfl, rfl, fun x hx => (by cases hx), hJ⟩ ?_
  rintro N a w1 ⟨rs, r, hN, hrec, hsh, hj⟩
  have hl := hA.len 2 (by decide)
  rw [hl2] at hl
  have hge := endOf_ge rs
  have hle : l.length = endOf rs + r.length := by rw [hrec, List.length_append, recsB_length]
  by_cases h20 : r.length < 20
  · exact opn_short a w1 _ G sl tx rs l r hl2 hj hA hrec h20 fun fr' w' h => hX rs r fr' w' hrec (nextB_short h20) hsh h
  by_cases h1 : 16384 < numAt r 8
  · exact opn_great a w1 _ G sl tx rs l r hl2 hj hA hrec (by omega) h1 fun fr' w' h => hX rs r fr' w' hrec (nextB_long (.inl h1)) hsh h
  by_cases h2 : r.length - 20 < numAt r 8
  · exact opn_over a w1 _ G sl tx rs l r hl2 hj hA hrec (by omega) (by omega) h2 fun fr' w' h => hX rs r fr' w' hrec (nextB_long (.inr h2)) hsh h
  have hnx := nextB_begins (b := r) (t := (r.drop 20).take (numAt r 8)) (G := G) (k := rs.length) rfl (by omega) (by omega) rfl hG (by omega)
  by_cases hq : r.take (20 + numAt r 8) = recB G rs.length ((r.drop 20).take (numAt r 8))
  · refine opn_rec a w1 _ G sl tx rs l r hl2 hj hA hrec hG (by omega) (by omega) (by omega) hq fun fr' w' h => ⟨r.length - (20 + numAt r 8), by omega, rs ++ [(r.drop 20).take (numAt r 8)], r.drop (20 + numAt r 8), by rw [List.length_drop], ?_, hsh.snoc (by rw [List.length_take]; omega), h⟩
    rw [recsB_snoc, Nat.zero_add, List.append_assoc, ← hq, List.take_append_drop]
    exact hrec
  · exact opn_other a w1 _ G sl tx rs l r hl2 hj hA hrec hG (by omega) (by omega) (by omega) hq fun fr' w' h => hX rs r fr' w' hrec (hnx.2 hq) hsh h
end

section
variable {w w1 w' w0 : World} {S P : Nat → Prop} {gl g : Nat} {m m' : DM} {L L' : LM}
set_option maxHeartbeats 1000000 in
set_option maxRecDepth 100000 in
theorem ROpen_gone (h : RD w0 w S g m) (hg : m.gone = true) : Calls Tryd.prog 31 #[.pointer (some ⟨g, 0, none⟩)] w fun e w' => e = .returned (.tuple #[.pointer none, .int .i64 25]) ∧ w = w' := by
  have c7 := h.gone
  rw [hg] at c7
  clear h hg
  go_enter Tryd.func31, Tryd.ntmps31
  go_wp2
  exact bodyPost_ret (results_tmp2 rfl _ _ _) rfl ⟨rfl, rfl⟩
set_option maxHeartbeats 4000000 in
set_option maxRecDepth 100000 in
theorem Open_R (h : RD w0 w S g m) (hok : m.Ok) (hw : m.waits.length ≤ 900) (hf : m.Fold) (hg : m.gone = false) :
    Calls Tryd.prog 31 #[.pointer (some ⟨g, 0, none⟩)] w fun e w' => ∃ L, Reads (fun i => m.b (3 + i)) L ∧ L.dead = false ∧ Fr S w w' ∧
      ((opE m (endOf L.recs) = 0 ∧ ∃ gl, e = .returned (.tuple #[.pointer (some ⟨gl, 0, none⟩), .int .i64 0]) ∧ RW w0 w' (ext S w w') g (opM m (endOf L.recs)) gl L) ∨
       (opE m (endOf L.recs) ≠ 0 ∧ e = .returned (.tuple #[.pointer none, .int .i64 (opE m (endOf L.recs) : Int)]) ∧ RD w0 w' (ext S w w') g (opM m (endOf L.recs)))) := by
  have c7 := h.gone
  rw [hg] at c7
  have HH := Lib.hid h
  have HOK := Lib.hid hok
  have HW := Lib.hid hw
  have HF := Lib.hid hf
  have HSe := Lib.hid (Seen_D h hok (by omega) hf)
  clear h hok hw hf hg
  go_enter Tryd.func31, Tryd.ntmps31
  go_wp2_with (first
    | (go_at_call 25; go_loud ((with_reducible refine HSe.out.mono ?_); rintro e w1 ⟨B, d, rfl, hB, hb1⟩; have HB := Lib.hid hB; have B1 := Lib.hid hb1; clear hB hb1))
    | fail)
  have HB2 : Hid (Below w1.heap.size w1 (w1.alloc (.cells #[.slice (B 0) (m.b 3).length (d 0), .slice (B 1) (m.b 4).length (d 1), .slice (B 2) (m.b 5).length (d 2)] 29))) := Lib.hid ((Below.refl _ _).alloc (Nat.le_refl _) _)
  have hrow2 := heap_alloc_new w1 (.cells #[.slice (B 0) (m.b 3).length (d 0), .slice (B 1) (m.b 4).length (d 1), .slice (B 2) (m.b 5).length (d 2)] 29)
  have hs2 : (w1.alloc (.cells #[.slice (B 0) (m.b 3).length (d 0), .slice (B 1) (m.b 4).length (d 1), .slice (B 2) (m.b 5).length (d 2)] 29)).heap.size = w1.heap.size + 1 := by simp
  obtain ⟨w2, hw2⟩ : ∃ W, W = w1.alloc (.cells #[.slice (B 0) (m.b 3).length (d 0), .slice (B 1) (m.b 4).length (d 1), .slice (B 2) (m.b 5).length (d 2)] 29) := ⟨_, rfl⟩
  rw [← hw2] at HB2 hs2 hrow2
  have hA : QA w2 w1.heap.size (fun i => m.b (3 + i)) B d := by
    refine ⟨fun i hi => ?_, fun i hi => (HB.out i hi).1.keep (Keeps.of_below HB2.out), fun i hi => (HB.out i hi).2, fun i hi => HOK.out.len (3 + i) (by omega)⟩
    have : i = 0 ∨ i = 1 ∨ i = 2 := by omega
    rcases this with rfl | rfl | rfl
    · exact cell_of_row _ _ 0 _ _ _ hrow2
    · exact cell_of_row _ _ 1 _ _ _ hrow2
    · exact cell_of_row _ _ 2 _ _ _ hrow2
  have HA := Lib.hid hA
  have hb3 := (Below.refl w2.heap.size w2).alloc (Nat.le_refl _) (.cells (rlcells g ⟨0, 1, [], [], false⟩ (.slice none 0 0) (.slice none 0 0)) 79)
  have hrow3 := heap_alloc_new w2 (.cells (rlcells g ⟨0, 1, [], [], false⟩ (.slice none 0 0) (.slice none 0 0)) 79)
  rw [hs2] at hrow3
  have HQ0 : Hid (QL w2 (w2.alloc (.cells (rlcells g ⟨0, 1, [], [], false⟩ (.slice none 0 0) (.slice none 0 0)) 79)) (w1.heap.size + 1) g (pickN m 0)) := Lib.hid ⟨⟨.slice none 0 0, .slice none 0 0, [], hrow3, OB.nil _ _, OwnS.nil _ _ _ _, rfl, fun x hx => (by cases hx), by omega, fun k hk => (by cases hk), fun k hk => (by cases hk), fun x hx => (by cases hx)⟩, hb3⟩
  have BW2 : Hid (Below w.heap.size w w2) := Lib.hid (B1.out.trans (HB2.out.mono B1.out.size))
  have hL2 : ∃ (G sl : Nat) (tx : List UInt8), G ≤ 2147483647 ∧ pickN m 2 = ⟨G, sl, tx, [], false⟩ ∧ pickB (m.b 3) (m.b 4) = (G, sl, tx) := by
    refine ⟨(pickN m 2).gen, (pickN m 2).slot, (pickN m 2).text, pickN_gen m 2, ?_, pickN_two m⟩
    cases hp : pickN m 2
    have h1 := (pickN_rest m 2).1
    have h2 := (pickN_rest m 2).2
    rw [hp] at h1 h2
    simp only at h1 h2
    rw [h1, h2]
  obtain ⟨G, sl, tx, hG, hL2, hpk⟩ := hL2
  have HPK := Lib.hid hpk
  have HG := Lib.hid hG
  rw [← hw2]
  clear HB hrow2 hA hb3 hrow3 hw2 HSe c7 HB2 B1 hs2 hpk hG
  generalize w1.heap.size = n0 at *
  generalize n0 + 1 = gl at *
  refine opn_snaps (w2 := w2) (n0 := n0) (gl := gl) (g := g) (b := fun i => m.b (3 + i)) (B := B) (d := d) _ _ _ m (fun i _ => rfl) HA.out ⟨rfl, rfl, rfl, rfl, rfl, HQ0.out⟩ ?_
  intro fr1 w4 hK
  rw [hL2] at hK
  obtain ⟨e0, e1, e2, e3, hQ⟩ := hK
  have HQ1 := Lib.hid hQ
  clear hQ HQ0 hL2
  unfold IsQ at e0
  generalize slotQ fr1 = f at *
  subst e0
  unfold QF
  rw [e1, e2, e3]
  clear e1 e2 e3
  go_wp2_with fail
  refine opn_recs (w2 := w2) (n0 := n0) (gl := gl) (g := g) (b := fun i => m.b (3 + i)) (B := B) (d := d) _ _ _ G sl tx (m.b 5) rfl ⟨rfl, rfl, rfl, rfl, HQ1.out⟩ HA.out (by have := HG.out; omega) ?_
  intro rs r fr2 w5 hrec hnx hsh hK
  obtain ⟨e0, e1, e2, e3, hQ⟩ := hK
  have hR : Reads (fun i => m.b (3 + i)) ⟨G, sl, tx, rs, false⟩ := ⟨HPK.out, ⟨r, hrec, hnx⟩, hsh⟩
  have HR := Lib.hid hR
  have hE1 : endOf rs ≤ (m.b 5).length := by rw [hrec, List.length_append, recsB_length]; omega
  have hE2 := HOK.out.len 5 (by decide)
  have HX := Lib.hid (RD.logs HH.out BW2.out hQ.2 hQ.1)
  have c2 : w5.cell? ⟨n0, 2, none⟩ = some (.slice (B 2) (m.b 5).length (d 2)) := Keeps.of_below hQ.2 _ _ (HA.out.cell 2 (by decide))
  have HEn : Hid (∀ W, Below w5.heap.size w5 W → Calls Tryd.prog 52 #[.pointer (some ⟨gl, 0, none⟩)] W fun e w' => e = .returned (.int .i64 (endOf rs : Int)) ∧ W = w') := Lib.hid fun W hW => End_R (L := ⟨G, sl, tx, rs, false⟩) (HX.out.1.below hW) (by show endOf rs ≤ _; omega)
  have HE : Hid (endOf rs ≤ (m.b 5).length) := Lib.hid hE1
  have HEC : Hid (m.cutE 2 (endOf rs : Int) = syE m) := Lib.hid (by
    unfold DM.cutE syE
    rw [if_neg (by rintro (h | h | h) <;> first | omega | (change ((m.b 5).length : Int) < _ at h; omega))])
  have hoE : opE m (endOf rs) = if (m.b 5).length = endOf rs then 0 else if syE m = 0 then syE (m.cut 2 (endOf rs : Int)) else syE m := by unfold opE; rw [HEC.out]; rfl
  have hoM : opM m (endOf rs) = if (m.b 5).length = endOf rs then m else if syE m = 0 then (m.cut 2 (endOf rs : Int)).sync else m.cut 2 (endOf rs : Int) := by unfold opM; rw [HEC.out]
  clear hR hQ hrec hnx hsh HQ1 HA HPK HG hE1 hE2
  unfold IsQ at e0
  generalize slotQ fr2 = f2 at *
  subst e0
  unfold QF
  rw [e1, e2, e3]
  clear e1 e2 e3
  by_cases heq : (m.b 5).length = endOf rs
  · rw [if_pos heq] at hoE hoM
    have q1 : decide ((endOf rs : Int) < ((m.b 5).length : Int)) = false := decide_eq_false (by omega)
    have q1n : decide (endOf rs < (m.b 5).length) = false := decide_eq_false (by omega)
    have HOE := Lib.hid hoE
    have HOM := Lib.hid hoM
    clear heq hoE hoM
    generalize hlen : (m.b 5).length = l5 at *
    generalize hend : endOf rs = E at *
    go_wp2_with fail
    go_region_held3 (fun w' => w'.cell? ⟨n0, 2, none⟩ = some (.slice (B 2) l5 (d 2))) (first | assumption | go_keep)
      (first
        | (go_at_call 52; go_loud ((with_reducible refine (HEn.out _ (below_d1 (Below.refl _ _))).mono ?_); rintro e wa ⟨rfl, rfl⟩))
        | fail)
    all_goals
      go_wp2
      refine bodyPost_ret (results_tmp2 rfl _ _ _) rfl ⟨_, HR.out, rfl, HX.out.2.drew, .inl ⟨?_, gl, rfl, ?_⟩⟩
      · show opE m (endOf rs) = 0
        rw [hend]; exact HOE.out
      · show RW w0 _ _ g (opM m (endOf rs)) gl _
        rw [hend, HOM.out]
        exact HX.out.1.below (below_d1 (Below.refl _ _))
  · rw [if_neg heq] at hoE hoM
    have q1 : decide ((endOf rs : Int) < ((m.b 5).length : Int)) = true := decide_eq_true (by have := HE.out; omega)
    have q1n : decide (endOf rs < (m.b 5).length) = true := decide_eq_true (by have := HE.out; omega)
    have HC0 : Hid (∀ W S', RW w0 W S' g m gl ⟨G, sl, tx, rs, false⟩ → Calls Tryd.prog 56 #[.pointer (some ⟨g, 0, none⟩), .int .i64 2, .int .i64 (endOf rs : Int)] W fun e w' => e = .returned (.int .i64 (syE m : Int)) ∧ RW w0 w' (ext S' W w') g (m.cut 2 (endOf rs : Int)) gl ⟨G, sl, tx, rs, false⟩ ∧ Fr S' W w') := Lib.hid fun W S' hW => by
      refine (Cut_R 2 (by decide) (endOf rs) hW HOK.out (by have := HW.out; omega) HF.out HE.out).mono ?_
      rintro e w' ⟨rfl, k1, k2, _⟩
      exact ⟨rfl, k1, k2⟩
    have HS0 : Hid (∀ W S', RW w0 W S' g (m.cut 2 (endOf rs : Int)) gl ⟨G, sl, tx, rs, false⟩ → Calls Tryd.prog 10 #[.pointer (some ⟨g, 0, none⟩)] W fun e w' => e = .returned (.int .i64 (syE (m.cut 2 (endOf rs : Int)) : Int)) ∧ RW w0 w' (ext S' W w') g (m.cut 2 (endOf rs : Int)).sync gl ⟨G, sl, tx, rs, false⟩ ∧ Fr S' W w') := Lib.hid fun W S' hW => by
      refine (Sync_R hW (HOK.out.cut _ _) (by have := cut_waits1 m 2 (endOf rs : Int); have := HW.out; omega) (HF.out.cut HOK.out _ _)).mono ?_
      rintro e w' ⟨rfl, k1, k2, _⟩
      exact ⟨rfl, k1, k2⟩
    clear heq HE HEC
    by_cases hs1 : syE m = 0
    case neg =>
      have h25 := syE_pos hs1
      rw [if_neg hs1, h25] at hoE
      rw [if_neg hs1] at hoM
      rw [h25] at HC0
      have HC : Hid (∀ W S', RW w0 W S' g m gl ⟨G, sl, tx, rs, false⟩ → Calls Tryd.prog 56 #[.pointer (some ⟨g, 0, none⟩), .int .i64 2, .int .i64 (endOf rs : Int)] W fun e w' => e = .returned (.int .i64 25) ∧ RW w0 w' (ext S' W w') g (m.cut 2 (endOf rs : Int)) gl ⟨G, sl, tx, rs, false⟩ ∧ Fr S' W w') := HC0
      have HOE := Lib.hid hoE
      have HOM := Lib.hid hoM
      clear HC0 HS0 hs1 h25 hoE hoM
      generalize (m.b 5).length = l5 at *
      generalize m.cut 2 (endOf rs : Int) = m1 at *
      generalize hend : endOf rs = E at *
      go_wp2_with fail
      go_region_held3 (fun w' => w'.cell? ⟨n0, 2, none⟩ = some (.slice (B 2) l5 (d 2))) (first | assumption | go_keep)
        (first
          | (go_at_call 52; go_loud ((with_reducible refine (HEn.out _ (below_d1 (Below.refl _ _))).mono ?_); rintro e wa ⟨rfl, rfl⟩))
          | fail)
      all_goals
        go_wp2_with (first
          | (go_at_call 52; go_loud ((with_reducible refine (HEn.out _ (below_d1 (Below.refl _ _))).mono ?_); rintro e wa ⟨rfl, rfl⟩))
          | (go_at_call 56; go_loud ((with_reducible refine (HC.out w5.drew _ (HX.out.1.below (below_d1 (Below.refl _ _)))).mono ?_); rintro e w6 ⟨rfl, hd6, hf6⟩; have D6 := Lib.hid hd6; have F6 := Lib.hid hf6; clear hd6 hf6))
          | fail)
        have Z := RW.then HX.out.2.drew ⟨D6.out, F6.out⟩
        refine bodyPost_ret (results_tmp2 rfl _ _ _) rfl ⟨_, HR.out, rfl, Z.2, .inr ⟨?_, ?_, ?_⟩⟩
        · show opE m (endOf rs) ≠ 0
          rw [hend, HOE.out]; decide
        · show _ = Ending.returned (.tuple #[_, .int .i64 (opE m (endOf rs) : Int)])
          rw [hend, HOE.out]; rfl
        · show RD w0 _ _ g (opM m (endOf rs))
          rw [hend, HOM.out]
          exact Z.1.rd
    rw [if_pos hs1] at hoE hoM
    rw [hs1] at HC0
    have HC : Hid (∀ W S', RW w0 W S' g m gl ⟨G, sl, tx, rs, false⟩ → Calls Tryd.prog 56 #[.pointer (some ⟨g, 0, none⟩), .int .i64 2, .int .i64 (endOf rs : Int)] W fun e w' => e = .returned (.int .i64 0) ∧ RW w0 w' (ext S' W w') g (m.cut 2 (endOf rs : Int)) gl ⟨G, sl, tx, rs, false⟩ ∧ Fr S' W w') := HC0
    clear HC0 hs1
    by_cases hs2 : syE (m.cut 2 (endOf rs : Int)) = 0
    case neg =>
      have h25 := syE_pos hs2
      rw [h25] at hoE HS0
      have HS : Hid (∀ W S', RW w0 W S' g (m.cut 2 (endOf rs : Int)) gl ⟨G, sl, tx, rs, false⟩ → Calls Tryd.prog 10 #[.pointer (some ⟨g, 0, none⟩)] W fun e w' => e = .returned (.int .i64 25) ∧ RW w0 w' (ext S' W w') g (m.cut 2 (endOf rs : Int)).sync gl ⟨G, sl, tx, rs, false⟩ ∧ Fr S' W w') := HS0
      have HOE := Lib.hid hoE
      have HOM := Lib.hid hoM
      clear HS0 hs2 h25 hoE hoM
      generalize (m.b 5).length = l5 at *
      generalize m.cut 2 (endOf rs : Int) = m1 at *
      generalize hend : endOf rs = E at *
      go_wp2_with fail
      go_region_held3 (fun w' => w'.cell? ⟨n0, 2, none⟩ = some (.slice (B 2) l5 (d 2))) (first | assumption | go_keep)
        (first
          | (go_at_call 52; go_loud ((with_reducible refine (HEn.out _ (below_d1 (Below.refl _ _))).mono ?_); rintro e wa ⟨rfl, rfl⟩))
          | fail)
      all_goals
        go_wp2_with (first
          | (go_at_call 52; go_loud ((with_reducible refine (HEn.out _ (below_d1 (Below.refl _ _))).mono ?_); rintro e wa ⟨rfl, rfl⟩))
          | (go_at_call 56; go_loud ((with_reducible refine (HC.out w5.drew _ (HX.out.1.below (below_d1 (Below.refl _ _)))).mono ?_); rintro e w6 ⟨rfl, hd6, hf6⟩; have D6 := Lib.hid hd6; have F6 := Lib.hid hf6; clear hd6 hf6))
          | (go_at_call 10; go_loud ((with_reducible refine (HS.out w6 _ D6.out).mono ?_); rintro e w7 ⟨rfl, hd7, hf7⟩; have D7 := Lib.hid hd7; have F7 := Lib.hid hf7; clear hd7 hf7))
          | fail)
        have Z := RW.then HX.out.2.drew (RW.then F6.out ⟨D7.out, F7.out⟩)
        refine bodyPost_ret (results_tmp2 rfl _ _ _) rfl ⟨_, HR.out, rfl, Z.2, .inr ⟨?_, ?_, ?_⟩⟩
        · show opE m (endOf rs) ≠ 0
          rw [hend, HOE.out]; decide
        · show _ = Ending.returned (.tuple #[_, .int .i64 (opE m (endOf rs) : Int)])
          rw [hend, HOE.out]; rfl
        · show RD w0 _ _ g (opM m (endOf rs))
          rw [hend, HOM.out]
          exact Z.1.rd
    rw [hs2] at hoE HS0
    have HS : Hid (∀ W S', RW w0 W S' g (m.cut 2 (endOf rs : Int)) gl ⟨G, sl, tx, rs, false⟩ → Calls Tryd.prog 10 #[.pointer (some ⟨g, 0, none⟩)] W fun e w' => e = .returned (.int .i64 0) ∧ RW w0 w' (ext S' W w') g (m.cut 2 (endOf rs : Int)).sync gl ⟨G, sl, tx, rs, false⟩ ∧ Fr S' W w') := HS0
    have HOE := Lib.hid hoE
    have HOM := Lib.hid hoM
    clear HS0 hs2 hoE hoM
    generalize (m.b 5).length = l5 at *
    generalize m.cut 2 (endOf rs : Int) = m1 at *
    generalize hend : endOf rs = E at *
    go_wp2_with fail
    go_region_held3 (fun w' => w'.cell? ⟨n0, 2, none⟩ = some (.slice (B 2) l5 (d 2))) (first | assumption | go_keep)
      (first
        | (go_at_call 52; go_loud ((with_reducible refine (HEn.out _ (below_d1 (Below.refl _ _))).mono ?_); rintro e wa ⟨rfl, rfl⟩))
        | fail)
    all_goals
      go_wp2_with (first
        | (go_at_call 52; go_loud ((with_reducible refine (HEn.out _ (below_d1 (Below.refl _ _))).mono ?_); rintro e wa ⟨rfl, rfl⟩))
        | (go_at_call 56; go_loud ((with_reducible refine (HC.out w5.drew _ (HX.out.1.below (below_d1 (Below.refl _ _)))).mono ?_); rintro e w6 ⟨rfl, hd6, hf6⟩; have D6 := Lib.hid hd6; have F6 := Lib.hid hf6; clear hd6 hf6))
        | (go_at_call 10; go_loud ((with_reducible refine (HS.out w6 _ D6.out).mono ?_); rintro e w7 ⟨rfl, hd7, hf7⟩; have D7 := Lib.hid hd7; have F7 := Lib.hid hf7; clear hd7 hf7))
        | fail)
      have Z := RW.then HX.out.2.drew (RW.then F6.out ⟨D7.out, F7.out⟩)
      refine bodyPost_ret (results_tmp2 rfl _ _ _) rfl ⟨_, HR.out, rfl, Z.2, .inl ⟨?_, gl, rfl, ?_⟩⟩
      · show opE m (endOf rs) = 0
        rw [hend]; exact HOE.out
      · show RW w0 _ _ g (opM m (endOf rs)) gl _
        rw [hend, HOM.out]
        exact Z.1
end
end Go.Proofs.YtifjddkgnfanaaaDoor
