/- The document's disk (layer 17): Crash. -/
import Derived.Test.YtifjddkgnfanaaaDoorRdI
import Derived.Test.YtifjddkgnfanaaaDoorRdH
namespace Go.Proofs.YtifjddkgnfanaaaDoor
open Go.RowKit

theorem rc_cases {Gl : (Nat → List UInt8) → Prop} {F : Nat → List UInt8} {s torn : Int} {j kk first : Nat} {c : DChg} (hc : j = first + kk)
    (a2 : bitAt s kk = true → kk < 63 → Gl (updB F c.area (doB (F c.area) c)))
    (c1 : bitAt s kk = false → kk < 63 → 0 < kk → Gl F) (c2 : 63 ≤ kk → Gl F)
    (c3 : bitAt s kk = false → kk = 0 → c.cuts = true → Gl F) (c4 : bitAt s kk = false → kk = 0 → c.cuts = false → torn ≤ 0 → Gl F)
    (c5 : bitAt s kk = false → kk = 0 → c.cuts = false → 0 < torn → c.bytes = [] → Gl F)
    (b1 : bitAt s kk = false → kk = 0 → c.cuts = false → 0 < torn → ∀ tn : Nat, torn = (tn : Int) → tn ≤ c.bytes.length → Gl (updB F c.area (doB (F c.area) ⟨c.area, c.pos, c.bytes.take tn, false⟩)))
    (b2 : bitAt s kk = false → kk = 0 → c.cuts = false → (c.bytes.length : Int) < torn → 0 < c.bytes.length → Gl (updB F c.area (doB (F c.area) ⟨c.area, c.pos, c.bytes, false⟩))) :
    Gl (crash1 first s torn j c F) := by
  subst hc
  have e : first + kk - first = kk := by omega
  by_cases h63 : 63 ≤ kk
  · have : crash1 first s torn (first + kk) c F = F := by
      unfold crash1
      rw [e, if_neg (by omega), if_neg (by omega)]
    rw [this]
    exact c2 h63
  cases hb : bitAt s kk with
  | true =>
    have : crash1 first s torn (first + kk) c F = updB F c.area (doB (F c.area) c) := by
      unfold crash1
      rw [e, if_pos (.inr ⟨by omega, hb⟩)]
    rw [this]
    exact a2 hb (by omega)
  | false =>
    have hno : ¬ (first + kk < first ∨ (kk < 63 ∧ bitAt s kk = true)) := by
      rintro (h | ⟨_, h⟩)
      · omega
      · rw [hb] at h; cases h
    by_cases hk : kk = 0
    · by_cases ht : c.cuts = false ∧ 0 < torn ∧ c.bytes ≠ []
      · have he : crash1 first s torn (first + kk) c F = updB F c.area (doB (F c.area) { c with bytes := c.bytes.take torn.toNat }) := by
          unfold crash1
          rw [e, if_neg hno, if_pos ⟨by omega, ht⟩]
        rw [he]
        obtain ⟨area, pos, bs, cuts⟩ := c
        dsimp only at *
        obtain ⟨hcut, h0, hne⟩ := ht
        subst hcut
        by_cases hl : torn ≤ (bs.length : Int)
        · exact b1 hb hk rfl h0 torn.toNat (by omega) (by omega)
        · have := b2 hb hk rfl (by omega) (List.length_pos_iff.2 hne)
          rw [List.take_of_length_le (by omega)]
          exact this
      · have he : crash1 first s torn (first + kk) c F = F := by
          unfold crash1
          rw [e, if_neg hno, if_neg (fun h => ht h.2)]
        rw [he]
        cases hcut : c.cuts with
        | true => exact c3 hb hk hcut
        | false =>
          by_cases h0 : torn ≤ 0
          · exact c4 hb hk hcut h0
          · exact c5 hb hk hcut (by omega) (by
              rcases hz : c.bytes with _ | ⟨x, l⟩
              · rfl
              · exact absurd ⟨hcut, by omega, by rw [hz]; exact List.cons_ne_nil _ _⟩ ht)
    · have he : crash1 first s torn (first + kk) c F = F := by
        unfold crash1
        rw [e, if_neg hno, if_neg (by omega)]
      rw [he]
      exact c1 hb (by omega) (by omega)

theorem rc_round {w0 : World} {O : Nat → Prop} {g : Nat} {F : Nat → List UInt8} (fr : Act) (w : World) (Q : Exit → Act → World → Prop) (kept s torn : Int) (b o n cw j : Nat) (c : DChg) (AX : Option Addr) (kx : Nat) (hJ : RJ w0 O g F kept s torn (.slice (some ⟨b, o, none⟩) n cw) n j fr w) (hj : j < n) (hn : n ≤ 1000) (hs0 : 0 ≤ s) (hca : c.area < 3) (hcp : c.pos + c.bytes.length ≤ 1048576) (hFl : (F c.area).length ≤ 1048576)
    (g0 : w0.cell? ⟨b, o + j * 4, none⟩ = some (.int .i64 (c.area : Int))) (g1 : w0.cell? ⟨b, o + j * 4 + 1, none⟩ = some (.int .i64 (c.pos : Int))) (g2 : w0.cell? ⟨b, o + j * 4 + 2, none⟩ = some (.slice AX c.bytes.length kx)) (g3 : w0.cell? ⟨b, o + j * 4 + 3, none⟩ = some (.bool c.cuts)) (g4 : w0.cell? ⟨g, 4, none⟩ = some (.slice (some ⟨b, o, none⟩) n cw)) (hx : RB w0 AX c.bytes.length c.bytes) (hxk : c.bytes.length ≤ kx)
    (hQ : ∀ (fr' : Act) (w' : World), RJ w0 O g (crash1 (firstOf kept n) s torn j c F) kept s torn (.slice (some ⟨b, o, none⟩) n cw) n (j + 1) fr' w' → Q .normal fr' w') :
    Code.wp Tryd.prog (lpC Tryd.f34.body 0) Q fr w := by
  revert hQ
  have full : j < firstOf kept n → crash1 (firstOf kept n) s torn j c F = updB F c.area (doB (F c.area) c) := fun h => by
    unfold crash1
    rw [if_pos (.inl h)]
  by_cases k0 : kept < 0
  · have e : firstOf kept n = 0 := by unfold firstOf; omega
    rw [e]
    exact rc_cases (Gl := fun X => (∀ (fr' : Act) (w' : World), RJ w0 O g X kept s torn (.slice (some ⟨b, o, none⟩) n cw) n (j + 1) fr' w' → Q .normal fr' w') → Code.wp Tryd.prog (lpC Tryd.f34.body 0) Q fr w) (kk := j) (by omega)
      (fun h1 h2 hQ => rc_a2_1 fr w Q kept s torn b o n cw j j c AX kx hJ hj hn hs0 hca hcp hFl g0 g1 g2 g3 g4 hx hxk k0 rfl h1 h2 hQ)
      (fun h1 h2 h3 hQ => rc_c1_1 fr w Q kept s torn b o n cw j j c AX kx hJ hj hn hs0 hca hcp hFl g0 g1 g2 g3 g4 hx hxk k0 rfl h1 h2 h3 hQ)
      (fun h1 hQ => rc_c2_1 fr w Q kept s torn b o n cw j j c AX kx hJ hj hn hs0 hca hcp hFl g0 g1 g2 g3 g4 hx hxk k0 rfl h1 hQ)
      (fun h1 h2 h3 hQ => rc_c3_1 fr w Q kept s torn b o n cw j j c AX kx hJ hj hn hs0 hca hcp hFl g0 g1 g2 g3 g4 hx hxk k0 rfl h1 h2 h3 hQ)
      (fun h1 h2 h3 h4 hQ => rc_c4_1 fr w Q kept s torn b o n cw j j c AX kx hJ hj hn hs0 hca hcp hFl g0 g1 g2 g3 g4 hx hxk k0 rfl h1 h2 h3 h4 hQ)
      (fun h1 h2 h3 h4 h5 hQ => rc_c5_1 fr w Q kept s torn b o n cw j j c AX kx hJ hj hn hs0 hca hcp hFl g0 g1 g2 g3 g4 hx hxk k0 rfl h1 h2 h3 h4 h5 hQ)
      (fun h1 h2 h3 h4 tn h5 h6 hQ => rc_b1_1 fr w Q kept s torn b o n cw j j c AX kx hJ hj hn hs0 hca hcp hFl g0 g1 g2 g3 g4 hx hxk k0 rfl h1 h2 h3 h4 tn h5 h6 hQ)
      (fun h1 h2 h3 h4 h5 hQ => rc_b2_1 fr w Q kept s torn b o n cw j j c AX kx hJ hj hn hs0 hca hcp hFl g0 g1 g2 g3 g4 hx hxk k0 rfl h1 h2 h3 h4 h5 hQ)
  · by_cases k1 : kept ≤ (n : Int)
    · have e : firstOf kept n = kept.toNat := by unfold firstOf; omega
      by_cases k2 : (j : Int) < kept
      · rw [full (by omega)]
        exact fun hQ => rc_a1_2 fr w Q kept s torn b o n cw j c AX kx hJ hj hn hs0 hca hcp hFl g0 g1 g2 g3 g4 hx hxk (by omega) k1 k2 hQ
      · rw [e]
        exact rc_cases (Gl := fun X => (∀ (fr' : Act) (w' : World), RJ w0 O g X kept s torn (.slice (some ⟨b, o, none⟩) n cw) n (j + 1) fr' w' → Q .normal fr' w') → Code.wp Tryd.prog (lpC Tryd.f34.body 0) Q fr w) (kk := j - kept.toNat) (by omega)
          (fun h1 h2 hQ => rc_a2_2 fr w Q kept s torn b o n cw j (j - kept.toNat) c AX kx hJ hj hn hs0 hca hcp hFl g0 g1 g2 g3 g4 hx hxk (by omega) k1 (by omega) h1 h2 hQ)
          (fun h1 h2 h3 hQ => rc_c1_2 fr w Q kept s torn b o n cw j (j - kept.toNat) c AX kx hJ hj hn hs0 hca hcp hFl g0 g1 g2 g3 g4 hx hxk (by omega) k1 (by omega) h1 h2 h3 hQ)
          (fun h1 hQ => rc_c2_2 fr w Q kept s torn b o n cw j (j - kept.toNat) c AX kx hJ hj hn hs0 hca hcp hFl g0 g1 g2 g3 g4 hx hxk (by omega) k1 (by omega) h1 hQ)
          (fun h1 h2 h3 hQ => rc_c3_2 fr w Q kept s torn b o n cw j (j - kept.toNat) c AX kx hJ hj hn hs0 hca hcp hFl g0 g1 g2 g3 g4 hx hxk (by omega) k1 (by omega) h1 h2 h3 hQ)
          (fun h1 h2 h3 h4 hQ => rc_c4_2 fr w Q kept s torn b o n cw j (j - kept.toNat) c AX kx hJ hj hn hs0 hca hcp hFl g0 g1 g2 g3 g4 hx hxk (by omega) k1 (by omega) h1 h2 h3 h4 hQ)
          (fun h1 h2 h3 h4 h5 hQ => rc_c5_2 fr w Q kept s torn b o n cw j (j - kept.toNat) c AX kx hJ hj hn hs0 hca hcp hFl g0 g1 g2 g3 g4 hx hxk (by omega) k1 (by omega) h1 h2 h3 h4 h5 hQ)
          (fun h1 h2 h3 h4 tn h5 h6 hQ => rc_b1_2 fr w Q kept s torn b o n cw j (j - kept.toNat) c AX kx hJ hj hn hs0 hca hcp hFl g0 g1 g2 g3 g4 hx hxk (by omega) k1 (by omega) h1 h2 h3 h4 tn h5 h6 hQ)
          (fun h1 h2 h3 h4 h5 hQ => rc_b2_2 fr w Q kept s torn b o n cw j (j - kept.toNat) c AX kx hJ hj hn hs0 hca hcp hFl g0 g1 g2 g3 g4 hx hxk (by omega) k1 (by omega) h1 h2 h3 h4 h5 hQ)
    · have e : firstOf kept n = n := by unfold firstOf; omega
      rw [full (by omega)]
      exact fun hQ => rc_a1_3 fr w Q kept s torn b o n cw j c AX kx hJ hj hn hs0 hca hcp hFl g0 g1 g2 g3 g4 hx hxk (by omega) hQ

set_option maxHeartbeats 1000000 in
set_option maxRecDepth 100000 in
theorem rc_end {w0 : World} {O : Nat → Prop} {g : Nat} {F : Nat → List UInt8} (fr : Act) (w : World) (Q : Exit → Act → World → Prop) (kept s torn : Int) (lst : Value) (n : Nat) (hJ : RJ w0 O g F kept s torn lst n n fr w) (hQ : ∀ fr', IsKR fr' → slotR fr' 0 = .pointer (some ⟨g, 0, none⟩) → slotR fr' 8 = .pointer (some ⟨w0.heap.size, 0, none⟩) → Q (.exit 0) fr' w) :
    Code.wp Tryd.prog (lpC Tryd.f34.body 0) Q fr w := by
  obtain ⟨h0, s0, s1, s2, s3, s8, s21, s22, s23, A, k, hK⟩ := hJ
  have HQ := Lib.hid hQ
  clear hQ hK
  unfold IsKR at h0
  generalize slotR fr = f at *
  subst h0
  unfold KR
  rw [s0, s1, s2, s3, s8, s21, s22, s23]
  conv => arg 2; whnf
  clear s0 s1 s2 s3 s8 s21 s22 s23
  go_wp2
  exact HQ.out _ rfl rfl rfl

theorem crashTo_succ {first : Nat} {s torn : Int} {ws : List DChg} {f : Nat → List UInt8} {k : Nat} {c : DChg} (h : ws[k]? = some c) : crashTo first s torn ws f (k + 1) = crash1 first s torn k c (crashTo first s torn ws f k) := by
  simp only [crashTo, h]

section
variable {w w' w0 : World} {O S : Nat → Prop} {g : Nat} {m m' : DM} {A : Nat → Option Addr} {k : Nat → Nat} {wv : Value} {ws : List (DChg × Value)}
theorem rc_loop (fr : Act) (w1 : World) (Q : Exit → Act → World → Prop) (kept s torn : Int) (AW : Option Addr) (cw : Nat) (h : RDV w0 O g m A k (.slice AW ws.length cw) ws) (hok : m.Ok) (hn : ws.length ≤ 1000) (hs0 : 0 ≤ s)
    (hJ : RJ w0 O g m.b kept s torn (.slice AW ws.length cw) ws.length 0 fr w1)
    (hQ : ∀ (fr' : Act) (w' : World) (A' : Nat → Option Addr) (k' : Nat → Nat), IsKR fr' → slotR fr' 0 = .pointer (some ⟨g, 0, none⟩) → slotR fr' 8 = .pointer (some ⟨w0.heap.size, 0, none⟩) → RKW w0 w' O (crashTo (firstOf kept ws.length) s torn m.waits m.b ws.length) A' k' → Q (.exit 0) fr' w') :
    Code.wp Tryd.prog (.loop (lpC Tryd.f34.body 0)) Q fr w1 := by
  have hlw : m.waits.length = ws.length := by rw [← h.eq, List.length_map]
  refine wp_loop_ghost (fun N a w' => ∃ j, j + N = ws.length ∧ RJ w0 O g (crashTo (firstOf kept ws.length) s torn m.waits m.b j) kept s torn (.slice AW ws.length cw) ws.length j a w') ws.length ⟨0, by omega, hJ⟩ ?_
  rintro N a w2 ⟨j, hjN, hJ2⟩
  by_cases hj : j < ws.length
  · obtain ⟨b, o, cap, e, _, _, hc⟩ := h.wts.cells (by rw [wcells_length]; omega)
    injection e with e1 _ e3
    subst e1; subst e3
    obtain ⟨q0, q1, q2, q3⟩ := wcells_get ws j (ws[j]'hj) (List.getElem?_eq_getElem hj)
    have hm : ws[j]'hj ∈ ws := List.getElem_mem hj
    have hw1 : m.waits[j]? = some (ws[j]'hj).1 := by rw [← h.eq, List.getElem?_map, List.getElem?_eq_getElem hj]; rfl
    have hmw : (ws[j]'hj).1 ∈ m.waits := List.mem_of_getElem? hw1
    obtain ⟨AX, kx, eX, hkx, _⟩ := (h.bytes _ hm).form
    have hx := h.bytes _ hm
    rw [eX] at hx
    refine rc_round a w2 _ kept s torn b o ws.length cw j (ws[j]'hj).1 AX kx hJ2 hj hn hs0 (hok.wait _ hmw).1 (hok.wait _ hmw).2 (crashTo_len hok.wait hok.len j _ (by have := (hok.wait _ hmw).1; omega)) (hc _ _ q0) (hc _ _ q1) ((hc _ _ q2).trans (congrArg some eX)) (hc _ _ q3) (h.cell 4) hx.rbA hkx ?_
    intro fr' w' h'
    exact ⟨N - 1, by omega, j + 1, by omega, by rw [crashTo_succ hw1]; exact h'⟩
  · obtain rfl : j = ws.length := by omega
    have hJ3 := hJ2
    obtain ⟨_, _, _, _, _, _, _, _, _, A', k', hK⟩ := hJ3
    exact rc_end a w2 _ kept s torn _ _ hJ2 fun fr' h0 h1 h2 => hQ fr' w2 A' k' h0 h1 h2 hK

theorem rcrash_cells (m : DM) (A : Nat → Option Addr) (k : Nat → Nat) (wv x0 x1 x2 : Value) : (((((((rcellsD m A k wv).setIfInBounds 1 x0).setIfInBounds 2 x1).setIfInBounds 3 x2).setIfInBounds 4 (.slice none 0 0)).setIfInBounds 5 (.bool false)).setIfInBounds 6 (.int .i64 0)).setIfInBounds 7 (.bool false) = #[.int .i64 m.room, x0, x1, x2, .slice none 0 0, .bool false, .int .i64 0, .bool false] := by
  simp [rcellsD]
set_option maxHeartbeats 1000000 in
/-- All that is sure is seen, nothing waits. -/
theorem rc_fin {W w2 : World} {F : Nat → List UInt8} {A' : Nat → Option Addr} {k' : Nat → Nat} (h : RDV w0 O g m A k wv ws) (hK : RKW w0 w2 O F A' k') (M : DM) (hM : M.room = m.room ∧ (∀ i, i < 3 → M.b i = F i) ∧ M.waits = [] ∧ M.armed = false ∧ M.left = 0 ∧ M.gone = false)
    (hW : W = ((((((w2.setCell ⟨g, 1, none⟩ (av A' k' F 0)).setCell ⟨g, 2, none⟩ (av A' k' F 1)).setCell ⟨g, 3, none⟩ (av A' k' F 2)).setCell ⟨g, 4, none⟩ (.slice none 0 0)).setCell ⟨g, 5, none⟩ (.bool false)).setCell ⟨g, 6, none⟩ (.int .i64 0)).setCell ⟨g, 7, none⟩ (.bool false)) :
    RefAt W (ext O w0 W) g M ∧ Fr (fun q => q = g) w0 W := by
  subst hW
  obtain ⟨room, mb, waits, armed, left, gone⟩ := M
  obtain ⟨e1, e2, e3, e4, e5, e6⟩ := hM
  dsimp only at *
  subst e1; subst e3; subst e4; subst e5; subst e6
  have HFr := ((((((Fr.refl (fun q => q = g) w2).setCell (p := ⟨g, 1, none⟩) (fun _ => rfl) (av A' k' F 0)).setCell (p := ⟨g, 2, none⟩) (fun _ => rfl) (av A' k' F 1)).setCell (p := ⟨g, 3, none⟩) (fun _ => rfl) (av A' k' F 2)).setCell (p := ⟨g, 4, none⟩) (fun _ => rfl) (.slice none 0 0)).setCell (p := ⟨g, 5, none⟩) (fun _ => rfl) (.bool false)).setCell (p := ⟨g, 6, none⟩) (fun _ => rfl) (.int .i64 0)
  have HFr := HFr.setCell (p := ⟨g, 7, none⟩) (fun _ => rfl) (.bool false)
  have hrow : w2.heap[g]? = some (.cells (rcellsD m A k wv) 32 (0, 0)) := (hK.bel.block _ h.lt).trans h.cells
  have hc := heap_setCell_same _ g 7 _ _ (.bool false) (heap_setCell_same _ g 6 _ _ (.int .i64 0) (heap_setCell_same _ g 5 _ _ (.bool false) (heap_setCell_same _ g 4 _ _ (.slice none 0 0) (heap_setCell_same _ g 3 _ _ (av A' k' F 2) (heap_setCell_same _ g 2 _ _ (av A' k' F 1) (heap_setCell_same _ g 1 _ _ (av A' k' F 0) hrow))))))
  have ea : ∀ i, i < 3 → av A' k' mb i = av A' k' F i := fun i hi => by unfold av; rw [e2 i hi]
  refine ⟨⟨A', k', .slice none 0 0, [], ⟨hc.trans ?_, fun i hi => ?_, OwnS.nil _ _ _ _, rfl, fun x hx => (nomatch hx), .inl h.ownG, fun i hi q hq => ?_, fun q hq => (nomatch hq), fun x hx => (nomatch hx)⟩⟩, (Fr.of_below hK.bel).trans HFr fun _ _ e => e⟩
  · rw [rcrash_cells, ← ea 0 (by decide), ← ea 1 (by decide), ← ea 2 (by decide)]
    rfl
  · show OB _ 0 (av A' k' mb i) (mb i)
    rw [ea i hi, e2 i hi]
    exact OwnS.kept (hK.ob i hi).1 HFr fun q hq e => by
      subst e
      obtain ⟨cur, hcur⟩ := own_type (hK.ob i hi).1 hq
      exact absurd (types_ne hcur hrow) (by decide)
  · have hq : (av A' k' mb i).ownBlock = some q := hq
    rw [ea i hi] at hq
    have hlt := (OB.lt (hK.ob i hi).1 q hq).2
    have := HFr.size
    rcases (hK.ob i hi).2 q hq with h1 | h1
    · exact .inl h1
    · exact .inr ⟨by omega, by omega⟩

set_option maxHeartbeats 4000000 in
set_option maxRecDepth 100000 in
theorem RCrash_any (h : RDV w O g m A k wv ws) (hok : m.Ok) (hn : m.waits.length ≤ 1000) (kept s torn : Int) (hs0 : 0 ≤ s) : Calls Tryd.prog 34 #[.pointer (some ⟨g, 0, none⟩), .int .i64 kept, .int .u64 s, .int .i64 torn] w fun e w' => e = .returned (.tuple #[]) ∧ RefAt w' (ext O w w') g (m.crash kept s torn) ∧ Fr (fun q => q = g) w w' := by
  obtain ⟨AW, cW, eW, _, _⟩ := h.wts.form
  subst eW
  have c1 : w.cell? ⟨g, 1, none⟩ = some (.slice (A 0) (m.b 0).length (k 0)) := h.cell 1
  have c2 : w.cell? ⟨g, 2, none⟩ = some (.slice (A 1) (m.b 1).length (k 1)) := h.cell 2
  have c3 : w.cell? ⟨g, 3, none⟩ = some (.slice (A 2) (m.b 2).length (k 2)) := h.cell 3
  have c4 : w.cell? ⟨g, 4, none⟩ = some (.slice AW ws.length cW) := h.cell 4
  have q4 : ∀ o, (w.alloc o).cell? ⟨g, 4, none⟩ = some (.slice AW ws.length cW) := fun o => Keeps.of_below ((Below.refl w.heap.size w).alloc (Nat.le_refl _) o) _ _ c4
  have HWL : Hid (m.waits.length = ws.length) := Lib.hid (by rw [← h.eq, List.length_map])
  have H := Lib.hid h
  have HOK := Lib.hid hok
  have HN := Lib.hid hn
  have HS0 := Lib.hid hs0
  clear h hok hn hs0
  have D0 := Lib.hid ((Below.refl w.heap.size w).alloc (Nat.le_refl _) (.cells #[.slice (A 0) (m.b 0).length (k 0), .slice (A 1) (m.b 1).length (k 1), .slice (A 2) (m.b 2).length (k 2)] 29))
  have hrow := Lib.hid (heap_alloc_new w (.cells #[.slice (A 0) (m.b 0).length (k 0), .slice (A 1) (m.b 1).length (k 1), .slice (A 2) (m.b 2).length (k 2)] 29))
  go_enter Tryd.func34, Tryd.ntmps34
  go_wp2_with fail
  refine rc_loop (w0 := w) _ _ _ kept s torn AW cW H.out HOK.out (by have := HN.out; have := HWL.out; omega) HS0.out ⟨rfl, rfl, rfl, rfl, rfl, rfl, rfl, rfl, rfl, A, k, hrow.out, fun i hi => ⟨OB.below (H.out.areas i hi) D0.out, fun q hq => .inl (H.out.ownB i hi q hq)⟩, D0.out⟩ ?_
  intro fr1 w1 A1 k1 h0 e0 e8 hK
  have HE : Hid (∀ i, i < 3 → (m.crash kept s torn).b i = crashTo (firstOf kept ws.length) s torn m.waits m.b ws.length i) := Lib.hid fun i hi => by rw [(m.crash_b kept s torn hi).1, HWL.out]
  generalize hF : crashTo (firstOf kept ws.length) s torn m.waits m.b ws.length = F at *
  clear hF hrow c1 c2 c3 c4 q4 D0
  have r0 : w1.cell? ⟨w.heap.size, 0, none⟩ = some (.slice (A1 0) (F 0).length (k1 0)) := cell_of_row _ _ 0 _ _ _ hK.row
  have r1 : w1.cell? ⟨w.heap.size, 1, none⟩ = some (.slice (A1 1) (F 1).length (k1 1)) := cell_of_row _ _ 1 _ _ _ hK.row
  have r2 : w1.cell? ⟨w.heap.size, 2, none⟩ = some (.slice (A1 2) (F 2).length (k1 2)) := cell_of_row _ _ 2 _ _ _ hK.row
  have hrow : w1.heap[g]? = some (.cells (rcellsD m A k (.slice AW ws.length cW)) 32 (0, 0)) := (hK.bel.block _ H.out.lt).trans H.out.cells
  have d1 : w1.cell? ⟨g, 1, none⟩ = some (.slice (A 0) (m.b 0).length (k 0)) := cell_of_row _ _ 1 _ _ _ hrow
  have d2 : w1.cell? ⟨g, 2, none⟩ = some (.slice (A 1) (m.b 1).length (k 1)) := cell_of_row _ _ 2 _ _ _ hrow
  have d3 : w1.cell? ⟨g, 3, none⟩ = some (.slice (A 2) (m.b 2).length (k 2)) := cell_of_row _ _ 3 _ _ _ hrow
  have d4 : w1.cell? ⟨g, 4, none⟩ = some (.slice AW ws.length cW) := cell_of_row _ _ 4 _ _ _ hrow
  have d5 : w1.cell? ⟨g, 5, none⟩ = some (.bool m.armed) := cell_of_row _ _ 5 _ _ _ hrow
  have d6 : w1.cell? ⟨g, 6, none⟩ = some (.int .i64 m.left) := cell_of_row _ _ 6 _ _ _ hrow
  have d7 : w1.cell? ⟨g, 7, none⟩ = some (.bool m.gone) := cell_of_row _ _ 7 _ _ _ hrow
  have fz : ∀ j, w1.frozen? ⟨g, j, none⟩ = false := fun j => frozen_of_row _ _ _ _ _ hrow
  have HK := Lib.hid hK
  clear hK hrow
  unfold IsKR at h0
  generalize slotR fr1 = f at *
  subst h0
  unfold KR
  rw [e0, e8]
  clear e0 e8
  go_wp2
  refine bodyPost_end (results_none rfl _ _ _) rfl ?_
  obtain ⟨hV, HFr⟩ := rc_fin H.out HK.out (m.crash kept s torn) ⟨rfl, HE.out, rfl, rfl, rfl, rfl⟩ rfl
  exact ⟨rfl, hV, HFr⟩
end
end Go.Proofs.YtifjddkgnfanaaaDoor
