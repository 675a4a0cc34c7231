/- disk: Crash. -/
import Derived.Test.YtgiaifglkecdjaaDoorDiskCrashB
import Derived.Deep.LoopGhost
namespace Go.Proofs.YtgiaifglkecdjaaDoor
open Go.RowKit
section
variable {w w1 w' : World} {O O' : Nat → Prop} {g : Nat} {m m' : DM} {bv bv' : Nat → Value} {wv : Value} {ws : List (DChg × Value)} {ea : Nat → Addr}

set_option maxHeartbeats 2000000 in
set_option maxRecDepth 100000 in
theorem crash_exit (fr : Act) (n : Nat) (w : World) (Q : Exit → Act → World → Prop) (hfr : IsC fr) (h23 : slotC fr 23 = .int .i64 (n : Int)) (h24 : slotC fr 24 = .int .i64 (n : Int))
    (hQ : ∀ fr' : Act, IsC fr' → slotC fr' 0 = slotC fr 0 → Q (.exit 0) fr' w) : Code.wp Tryd.prog (lpC Tryd.f26.body 0) Q fr w := by
  have HQ := Lib.hid hQ
  clear hQ
  unfold IsC at hfr
  generalize slotC fr = f at *
  subst hfr
  unfold CF
  rw [h23, h24]
  conv => arg 2; whnf
  clear h23 h24
  go_wp2
  exact HQ.out _ rfl rfl

/-- A change of a row of them, in memory. -/
theorem DiskV.wait_cell (h : DiskV w O g m bv wv ws) {A : Option Addr} {n c : Nat} (he : wv = .slice A n c) {i : Nat} (hi : i < ws.length) : ∃ b o, A = some ⟨b, o, none⟩ ∧ ∃ x : DChg × Value, ws[i]? = some x ∧ x ∈ ws ∧ m.waits[i]? = some x.1 ∧ w.cell? ⟨b, o + i * 4, none⟩ = some (.int .i64 (x.1.area : Int)) ∧ w.cell? ⟨b, o + i * 4 + 1, none⟩ = some (.int .i64 (x.1.pos : Int)) ∧ w.cell? ⟨b, o + i * 4 + 2, none⟩ = some x.2 ∧ w.cell? ⟨b, o + i * 4 + 3, none⟩ = some (.bool x.1.cuts) := by
  subst he
  obtain ⟨b, o, cap, hv, _, _, hc⟩ := OwnS.cells h.wts (by rw [wcells_length]; omega)
  injection hv with hv _ _
  subst hv
  have hx := List.getElem?_eq_getElem hi
  obtain ⟨g0, g1, g2, g3⟩ := wcells_get ws i _ hx
  refine ⟨b, o, rfl, ws[i], hx, List.getElem_mem hi, by rw [← h.eq, List.getElem?_map, hx]; rfl, hc _ _ g0, ?_, ?_, ?_⟩
  · rw [Nat.add_assoc]; exact hc _ _ g1
  · rw [Nat.add_assoc]; exact hc _ _ g2
  · rw [Nat.add_assoc]; exact hc _ _ g3

theorem crash1_full {first : Nat} {s torn : Int} {i : Nat} {c : DChg} {f : Nat → List UInt8} (h : i < first ∨ (i - first < 63 ∧ bitAt s (i - first) = true)) : crash1 first s torn i c f = updB f c.area (doB (f c.area) c) := if_pos h
theorem crash1_torn {first : Nat} {s torn : Int} {i : Nat} {c : DChg} {f : Nat → List UInt8} (h : ¬ (i < first ∨ (i - first < 63 ∧ bitAt s (i - first) = true))) (h2 : i = first ∧ c.cuts = false ∧ 0 < torn ∧ c.bytes ≠ []) : crash1 first s torn i c f = updB f c.area (doB (f c.area) { c with bytes := c.bytes.take torn.toNat }) := (if_neg h).trans (if_pos h2)
theorem crash1_none {first : Nat} {s torn : Int} {i : Nat} {c : DChg} {f : Nat → List UInt8} (h : ¬ (i < first ∨ (i - first < 63 ∧ bitAt s (i - first) = true))) (h2 : ¬ (i = first ∧ c.cuts = false ∧ 0 < torn ∧ c.bytes ≠ [])) : crash1 first s torn i c f = f := (if_neg h).trans (if_neg h2)

set_option maxRecDepth 100000 in
/-- One round of the loop. -/
theorem crash_round (fr : Act) (A : Option Addr) (n cw i first : Nat) (s torn : Int) (w : World) (Q : Exit → Act → World → Prop) (hfr : IsC fr)
    (h0 : slotC fr 0 = .pointer (some ⟨g, 0, none⟩)) (h1 : slotC fr 1 = .int .i64 (first : Int)) (h2 : slotC fr 2 = .int .u64 s) (h3 : slotC fr 3 = .int .i64 torn) (h22 : slotC fr 22 = .slice A n cw) (h23 : slotC fr 23 = .int .i64 (n : Int)) (h24 : slotC fr 24 = .int .i64 (i : Int))
    (hi : i < n) (hn : n ≤ 1000) (hf : first ≤ n) (hs0 : 0 ≤ s) (hs1 : s ≤ 18446744073709551615) (h : DiskV w O g m bv (.slice A n cw) ws) (hln : ws.length = n) (hbx : ¬ O w.heap.size) (hok : m.Ok)
    (hQ : ∀ (fr' : Act) (w' : World) (bv' : Nat → Value) (c : DChg), m.waits[i]? = some c → IsC fr' → slotC fr' 0 = .pointer (some ⟨g, 0, none⟩) → slotC fr' 1 = .int .i64 (first : Int) → slotC fr' 2 = .int .u64 s → slotC fr' 3 = .int .i64 torn → slotC fr' 22 = .slice A n cw → slotC fr' 23 = .int .i64 (n : Int) → slotC fr' 24 = .int .i64 ((i + 1 : Nat) : Int) →
      DiskV w' (ext O w w') g { m with b := crash1 first s torn i c m.b } bv' (.slice A n cw) ws → Fr O w w' → Q .normal fr' w') :
    Code.wp Tryd.prog (lpC Tryd.f26.body 0) Q fr w := by
  obtain ⟨b, o, rfl, ⟨c, xv⟩, hx, hxm, hmw, c0, c1, c2, c3⟩ := h.wait_cell rfl (i := i) (by omega)
  dsimp only at hmw c0 c1 c2 c3
  have hby : OB w 0 xv c.bytes := h.bytes _ hxm
  obtain ⟨Ax, kx, e0, _, _, _⟩ := hby.form
  subst e0
  have hwt := hok.wait c (List.mem_of_getElem? hmw)
  have hxa : ∀ i, i < 6 → ∀ q, (Value.slice Ax c.bytes.length kx).ownBlock = some q → (bv i).ownBlock ≠ some q := fun i hi q hq => h.apartW _ hxm i hi q hq
  by_cases hA : i < first ∨ (i - first < 63 ∧ bitAt s (i - first) = true)
  · have hE := crash1_full (torn := torn) (c := c) (f := m.b) hA
    rcases hA with hA | ⟨hA, hB⟩
    · exact crash_a1 fr b o n cw i first _ kx Ax s torn c w Q hfr h0 h1 h2 h3 h22 h23 h24 hi hn hf hs0 hs1 hA c0 c1 c2 c3 h hbx hok hwt.1 hwt.2 (h.bytes _ hxm) rfl hxa fun fr' w' bv' => by rw [← hE]; exact hQ fr' w' bv' c hmw
    · by_cases hA' : i < first
      · exact crash_a1 fr b o n cw i first _ kx Ax s torn c w Q hfr h0 h1 h2 h3 h22 h23 h24 hi hn hf hs0 hs1 hA' c0 c1 c2 c3 h hbx hok hwt.1 hwt.2 (h.bytes _ hxm) rfl hxa fun fr' w' bv' => by rw [← hE]; exact hQ fr' w' bv' c hmw
      · exact crash_a2 fr b o n cw i first _ kx Ax s torn c w Q hfr h0 h1 h2 h3 h22 h23 h24 hi hn hf hs0 hs1 (by omega) hA hB c0 c1 c2 c3 h hbx hok hwt.1 hwt.2 (h.bytes _ hxm) rfl hxa fun fr' w' bv' => by rw [← hE]; exact hQ fr' w' bv' c hmw
  · by_cases hi1 : i = first
    · have hbit : bitAt s 0 = false := by
        cases hb : bitAt s 0 with
        | false => rfl
        | true => exact absurd (.inr ⟨by omega, by rw [show i - first = 0 by omega]; exact hb⟩) hA
      cases hcut : c.cuts with
      | true =>
        have hE := crash1_none (torn := torn) (c := c) (f := m.b) hA (fun h => by rw [hcut] at h; cases h.2.1)
        exact crash_c3 fr b o n cw i first _ kx Ax s torn c w Q hfr h0 h1 h2 h3 h22 h23 h24 hi hn hf hs0 hs1 hi1 hbit hcut c0 c1 c2 c3 h hbx hok hwt.1 hwt.2 (h.bytes _ hxm) rfl hxa fun fr' w' bv' => by have := hQ fr' w' bv' c hmw; rw [hE] at this; exact this
      | false =>
        by_cases ht : torn ≤ 0
        · have hE := crash1_none (torn := torn) (c := c) (f := m.b) hA (fun h => by have := h.2.2.1; omega)
          exact crash_c4 fr b o n cw i first _ kx Ax s torn c w Q hfr h0 h1 h2 h3 h22 h23 h24 hi hn hf hs0 hs1 hi1 hbit hcut ht c0 c1 c2 c3 h hbx hok hwt.1 hwt.2 (h.bytes _ hxm) rfl hxa fun fr' w' bv' => by have := hQ fr' w' bv' c hmw; rw [hE] at this; exact this
        · by_cases hz : c.bytes.length = 0
          · have hE := crash1_none (torn := torn) (c := c) (f := m.b) hA (fun h => h.2.2.2 (List.eq_nil_of_length_eq_zero hz))
            exact crash_c5 fr b o n cw i first _ kx Ax s torn c w Q hfr h0 h1 h2 h3 h22 h23 h24 hi hn hf hs0 hs1 hi1 hbit hcut (by omega) hz c0 c1 c2 c3 h hbx hok hwt.1 hwt.2 (h.bytes _ hxm) rfl hxa fun fr' w' bv' => by have := hQ fr' w' bv' c hmw; rw [hE] at this; exact this
          · have hE := crash1_torn (torn := torn) (c := c) (f := m.b) hA ⟨hi1, hcut, by omega, fun e => hz (by rw [e]; rfl)⟩
            by_cases htl : torn.toNat ≤ c.bytes.length
            · exact crash_b1 fr b o n cw i first _ kx Ax s torn c w Q hfr h0 h1 h2 h3 h22 h23 h24 hi hn hf hs0 hs1 torn.toNat (by omega) hi1 hbit hcut (by omega) htl c0 c1 c2 c3 h hbx hok hwt.1 hwt.2 (h.bytes _ hxm) rfl hxa fun fr' w' bv' => by have := hQ fr' w' bv' c hmw; rw [hE] at this; exact this
            · rw [List.take_of_length_le (by omega)] at hE
              exact crash_b2 fr b o n cw i first _ kx Ax s torn c w Q hfr h0 h1 h2 h3 h22 h23 h24 hi hn hf hs0 hs1 c.bytes.length rfl hi1 hbit hcut (by omega) (by omega) c0 c1 c2 c3 h hbx hok hwt.1 hwt.2 (h.bytes _ hxm) rfl hxa fun fr' w' bv' => by have := hQ fr' w' bv' c hmw; rw [hE] at this; rw [List.take_of_length_le (Nat.le_refl _)]; exact this
    · have hi2 : first < i := by omega
      have hE := crash1_none (torn := torn) (c := c) (f := m.b) hA (fun h => hi1 h.1)
      by_cases h63 : i - first < 63
      · exact crash_c1 fr b o n cw i first _ kx Ax s torn c w Q hfr h0 h1 h2 h3 h22 h23 h24 hi hn hf hs0 hs1 hi2 h63 (by cases hb : bitAt s (i - first) with | false => rfl | true => exact absurd (.inr ⟨h63, hb⟩) hA) c0 c1 c2 c3 h hbx hok hwt.1 hwt.2 (h.bytes _ hxm) rfl hxa fun fr' w' bv' => by have := hQ fr' w' bv' c hmw; rw [hE] at this; exact this
      · exact crash_c2 fr b o n cw i first _ kx Ax s torn c w Q hfr h0 h1 h2 h3 h22 h23 h24 hi hn hf hs0 hs1 (by omega) c0 c1 c2 c3 h hbx hok hwt.1 hwt.2 (h.bytes _ hxm) rfl hxa fun fr' w' bv' => by have := hQ fr' w' bv' c hmw; rw [hE] at this; exact this

/-- Behind k changes. -/
def DM.mid (m : DM) (first : Nat) (s torn : Int) (k : Nat) : DM := { m with b := crashTo first s torn m.waits m.b k }
theorem DM.Ok.mid {m : DM} (h : m.Ok) (first : Nat) (s torn : Int) (k : Nat) : (m.mid first s torn k).Ok := ⟨h.room0, h.room1, fun j hj => crashTo_len h.wait h.len k j hj, h.wait, h.left0, h.left1⟩

set_option maxRecDepth 100000 in
theorem crash_loop (fr : Act) (A : Option Addr) (n cw first : Nat) (s torn : Int) (w : World) (Q : Exit → Act → World → Prop) (hfr : IsC fr)
    (h0 : slotC fr 0 = .pointer (some ⟨g, 0, none⟩)) (h1 : slotC fr 1 = .int .i64 (first : Int)) (h2 : slotC fr 2 = .int .u64 s) (h3 : slotC fr 3 = .int .i64 torn) (h22 : slotC fr 22 = .slice A n cw) (h23 : slotC fr 23 = .int .i64 (n : Int)) (h24 : slotC fr 24 = .int .i64 0)
    (hn : n ≤ 1000) (hf : first ≤ n) (hs0 : 0 ≤ s) (hs1 : s ≤ 18446744073709551615) (h : DiskV w O g m bv (.slice A n cw) ws) (hln : ws.length = n) (hok : m.Ok)
    (hQ : ∀ (fr' : Act) (w' : World) (bv' : Nat → Value), IsC fr' → slotC fr' 0 = .pointer (some ⟨g, 0, none⟩) → DiskV w' (ext O w w') g (m.mid first s torn n) bv' (.slice A n cw) ws → Fr O w w' → Q (.exit 0) fr' w') :
    Code.wp Tryd.prog (.loop (lpC Tryd.f26.body 0)) Q fr w := by
  obtain ⟨O0, hO0⟩ : ∃ O0 : Nat → Prop, O0 = fun q => O q ∧ q < w.heap.size := ⟨_, rfl⟩
  refine wp_loop_ghost (fun N a w' => ∃ (i : Nat) (bv' : Nat → Value), i + N = n ∧ IsC a ∧ slotC a 0 = .pointer (some ⟨g, 0, none⟩) ∧ slotC a 1 = .int .i64 (first : Int) ∧ slotC a 2 = .int .u64 s ∧ slotC a 3 = .int .i64 torn ∧ slotC a 22 = .slice A n cw ∧ slotC a 23 = .int .i64 (n : Int) ∧ slotC a 24 = .int .i64 (i : Int) ∧
    DiskV w' (ext O0 w w') g (m.mid first s torn i) bv' (.slice A n cw) ws ∧ Fr O0 w w') n ⟨0, bv, by omega, hfr, h0, h1, h2, h3, h22, h23, h24, h.mono fun q hq ho => .inl (by rw [hO0]; exact ⟨ho, hq⟩), Fr.refl _ _⟩ ?_
  rintro N a w1 ⟨i, bv1, hiN, a0, b0, b1, b2, b3, b22, b23, b24, hv, hfr1⟩
  by_cases hi : i < n
  · refine crash_round a A n cw i first s torn w1 _ a0 b0 b1 b2 b3 b22 b23 b24 hi hn hf hs0 hs1 hv hln ?_ (hok.mid _ _ _ _) ?_
    · rintro (ho | ho)
      · rw [hO0] at ho
        have := ho.2
        have := hfr1.size
        omega
      · exact absurd ho.2 (Nat.lt_irrefl _)
    · intro fr' w2 bv2 c hc d0 e0 e1 e2 e3 e22 e23 e24 hv2 hf2
      have z1 := hfr1.size
      have z2 := hf2.size
      refine ⟨N - 1, by omega, i + 1, bv2, by omega, d0, e0, e1, e2, e3, e22, e23, e24, ?_, hfr1.trans hf2 fun q hq ho => ?_⟩
      · have hE : m.mid first s torn (i + 1) = { m.mid first s torn i with b := crash1 first s torn i c (m.mid first s torn i).b } := by
          unfold DM.mid
          have hc : m.waits[i]? = some c := hc
          simp only [crashTo, hc]
        rw [hE]
        refine hv2.mono fun q hq ho => ?_
        rcases ho with (ho | ho) | ho
        · exact .inl ho
        · exact .inr ⟨ho.1, hq⟩
        · exact .inr ⟨Nat.le_trans z1 ho.1, hq⟩
      · rcases ho with ho | ho
        · exact ho
        · omega
  · obtain rfl : i = n := by omega
    refine crash_exit a i w1 _ a0 b23 b24 fun fr' d0 e0 => hQ fr' w1 bv1 d0 (e0.trans b0) (hv.mono fun q _ ho => ho.imp (fun ho => by rw [hO0] at ho; exact ho.1) id) (hfr1.mono fun q _ ho => by rw [hO0] at ho; exact ho.1)
end
end Go.Proofs.YtgiaifglkecdjaaDoor
