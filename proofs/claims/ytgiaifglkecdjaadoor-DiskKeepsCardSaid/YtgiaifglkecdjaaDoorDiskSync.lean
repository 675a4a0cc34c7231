/- disk: Sync. -/
import Derived.Test.YtgiaifglkecdjaaDoorDiskWrite
namespace Go.Proofs.YtgiaifglkecdjaaDoor
open Go.RowKit

theorem row_below {w w' : World} {b : Nat} {cs : Array Value} {T : TypeId} (h : w.heap[b]? = some (.cells cs T (0, 0))) (hb : Below w.heap.size w w') : w'.heap[b]? = some (.cells cs T (0, 0)) := (hb.block b (Array.getElem?_eq_some_iff.1 h).1).trans h
theorem row_other {w : World} {b b' k : Nat} {cs : Array Value} {T : TypeId} (h : w.heap[b]? = some (.cells cs T (0, 0))) (hne : b ≠ b') (v : Value) : (w.setCell ⟨b', k, none⟩ v).heap[b]? = some (.cells cs T (0, 0)) := (Below.heap_setCell w ⟨b', k, none⟩ v b hne).trans h

theorem round_facts {wA w1 : World} {b i : Nat} {cs : Array Value} {v : Value} {l : List UInt8} (hR : wA.heap[b]? = some (.cells cs 130 (0, 0))) (hb : Below wA.heap.size wA w1) (hv : OB w1 wA.heap.size v l) :
    (w1.setCell ⟨b, i, none⟩ v).heap[b]? = some (.cells (cs.setIfInBounds i v) 130 (0, 0)) ∧ Fr (fun k => k = b) wA (w1.setCell ⟨b, i, none⟩ v) ∧ OB (w1.setCell ⟨b, i, none⟩ v) wA.heap.size v l := by
  have hlt := (Array.getElem?_eq_some_iff.1 hR).1
  exact ⟨heap_setCell_same _ _ _ _ _ _ (row_below hR hb), (Fr.of_below (S := fun k => k = b) hb).setCell (p := ⟨b, i, none⟩) (fun _ => rfl) _, OwnS.kept hv ((Fr.refl (fun k => k = b) w1).setCell (p := ⟨b, i, none⟩) (fun _ => rfl) _) (fun k hk e => by have := (OB.lt hv k hk).1; omega)⟩
theorem ob_round {w w' : World} {b B : Nat} {v : Value} {l : List UInt8} (h : OB w B v l) (hf : Fr (fun k => k = b) w w') (hb : b < B) : OB w' B v l := OwnS.kept h hf fun k hk e => by have := (OB.lt h k hk).1; omega

set_option maxHeartbeats 1000000 in
/-- Copies of three areas. -/
theorem copied_any (A0 A1 A2 : Option Addr) (k0 k1 k2 : Nat) (l0 l1 l2 : List UInt8) (w : World) (h0 : RB w A0 l0.length l0) (h1 : RB w A1 l1.length l1) (h2 : RB w A2 l2.length l2) (hn0 : l0.length ≤ 1048576) (hn1 : l1.length ≤ 1048576) (hn2 : l2.length ≤ 1048576) :
    Calls Tryd.prog 78 #[.agg #[.slice A0 l0.length k0, .slice A1 l1.length k1, .slice A2 l2.length k2]] w fun e w' => ∃ B0 B1 B2 d0 d1 d2, e = .returned (.agg #[.slice B0 l0.length d0, .slice B1 l1.length d1, .slice B2 l2.length d2]) ∧
      OB w' w.heap.size (.slice B0 l0.length d0) l0 ∧ OB w' w.heap.size (.slice B1 l1.length d1) l1 ∧ OB w' w.heap.size (.slice B2 l2.length d2) l2 ∧ (∀ q, (Value.slice B0 l0.length d0).ownBlock = some q → (Value.slice B1 l1.length d1).ownBlock ≠ some q ∧ (Value.slice B2 l2.length d2).ownBlock ≠ some q) ∧ (∀ q, (Value.slice B1 l1.length d1).ownBlock = some q → (Value.slice B2 l2.length d2).ownBlock ≠ some q) ∧ Below w.heap.size w w' := by
  have H0 := Lib.hid h0
  have H1 := Lib.hid h1
  have H2 := Lib.hid h2
  clear h0 h1 h2
  go_enter Tryd.func78, Tryd.ntmps78
  go_wp2
  obtain ⟨wA, hwA⟩ : ∃ W, W = (w.alloc (.cells #[.slice A0 l0.length k0, .slice A1 l1.length k1, .slice A2 l2.length k2] 130)).alloc (.cells #[.slice none 0 0, .slice none 0 0, .slice none 0 0] 130) := ⟨_, rfl⟩
  rw [← hwA]
  have D0 := (Below.refl w.heap.size w).alloc (Nat.le_refl _) (.cells #[.slice A0 l0.length k0, .slice A1 l1.length k1, .slice A2 l2.length k2] 130)
  have BA : Hid (Below w.heap.size w wA) := Lib.hid (by rw [hwA]; exact D0.alloc D0.size _)
  have R1 : Hid (wA.heap[w.heap.size]? = some (.cells #[.slice A0 l0.length k0, .slice A1 l1.length k1, .slice A2 l2.length k2] 130 (0, 0))) := Lib.hid (by rw [hwA]; exact row_below (heap_alloc_new w _) ((Below.refl _ _).alloc (Nat.le_refl _) _))
  have R2 : Hid (wA.heap[w.heap.size + 1]? = some (.cells #[.slice none 0 0, .slice none 0 0, .slice none 0 0] 130 (0, 0))) := Lib.hid (by
    rw [hwA]
    have := heap_alloc_new (w.alloc (.cells #[.slice A0 l0.length k0, .slice A1 l1.length k1, .slice A2 l2.length k2] 130)) (.cells #[.slice none 0 0, .slice none 0 0, .slice none 0 0] 130)
    simpa using this)
  have hsA : Hid (w.heap.size + 2 ≤ wA.heap.size) := Lib.hid (by rw [hwA]; simp)
  have c0 : wA.cell? ⟨w.heap.size, 0, none⟩ = some (.slice A0 l0.length k0) := cell_of_row _ _ 0 _ _ _ R1.out
  clear hwA D0
  refine wp_loop_rounds 4 ?_
  rw [rounds_succ]
  go_wp2_with (go_at_call 76; refine (Clone_any A0 _ k0 l0 wA (H0.out.keep (Keeps.of_below BA.out)) (by omega)).mono ?_; rintro e w1 ⟨B0, d0, rfl, ho1, hb1⟩; have m1 := cell_of_row _ _ 0 _ _ _ (row_below R1.out hb1); have f1 : w1.frozen? ⟨w.heap.size, 0, none⟩ = false := frozen_of_row _ _ _ _ _ (row_below R1.out hb1); replace ho1 := Lib.hid ho1; replace hb1 := Lib.hid hb1)
  obtain ⟨v1, hv1⟩ : ∃ W, W = w1.setCell ⟨w.heap.size, 0, none⟩ (.slice B0 l0.length d0) := ⟨_, rfl⟩
  rw [← hv1]
  have X1 := Lib.hid (round_facts (i := 0) R1.out hb1.out ho1.out)
  rw [← hv1] at X1
  have BV1 : Hid (Below w.heap.size w v1) := Lib.hid (BA.out.trans (X1.out.2.1.below BA.out.size fun i _ e => Nat.le_of_eq e.symm))
  have c1 : v1.cell? ⟨w.heap.size, 1, none⟩ = some (.slice A1 l1.length k1) := cell_of_row _ _ 1 _ _ _ X1.out.1
  clear hv1 m1 f1 c0
  rw [rounds_succ]
  go_wp2_with (go_at_call 76; refine (Clone_any A1 _ k1 l1 v1 (H1.out.keep (Keeps.of_below BV1.out)) (by omega)).mono ?_; rintro e w2 ⟨B1, d1, rfl, ho2, hb2⟩; have m2 := cell_of_row _ _ 1 _ _ _ (row_below X1.out.1 hb2); have f2 : w2.frozen? ⟨w.heap.size, 1, none⟩ = false := frozen_of_row _ _ _ _ _ (row_below X1.out.1 hb2); replace ho2 := Lib.hid ho2; replace hb2 := Lib.hid hb2)
  obtain ⟨v2, hv2⟩ : ∃ W, W = w2.setCell ⟨w.heap.size, 1, none⟩ (.slice B1 l1.length d1) := ⟨_, rfl⟩
  rw [← hv2]
  have X2 := Lib.hid (round_facts (i := 1) X1.out.1 hb2.out ho2.out)
  rw [← hv2] at X2
  have BV2 : Hid (Below w.heap.size w v2) := Lib.hid (BV1.out.trans (X2.out.2.1.below BV1.out.size fun i _ e => Nat.le_of_eq e.symm))
  have c2 : v2.cell? ⟨w.heap.size, 2, none⟩ = some (.slice A2 l2.length k2) := cell_of_row _ _ 2 _ _ _ X2.out.1
  clear hv2 m2 f2 c1
  rw [rounds_succ]
  go_wp2_with (go_at_call 76; refine (Clone_any A2 _ k2 l2 v2 (H2.out.keep (Keeps.of_below BV2.out)) (by omega)).mono ?_; rintro e w3 ⟨B2, d2, rfl, ho3, hb3⟩; have m3 := cell_of_row _ _ 2 _ _ _ (row_below X2.out.1 hb3); have f3 : w3.frozen? ⟨w.heap.size, 2, none⟩ = false := frozen_of_row _ _ _ _ _ (row_below X2.out.1 hb3); replace ho3 := Lib.hid ho3; replace hb3 := Lib.hid hb3)
  obtain ⟨v3, hv3⟩ : ∃ W, W = w3.setCell ⟨w.heap.size, 2, none⟩ (.slice B2 l2.length d2) := ⟨_, rfl⟩
  rw [← hv3]
  have X3 := Lib.hid (round_facts (i := 2) X2.out.1 hb3.out ho3.out)
  rw [← hv3] at X3
  have BV3 : Hid (Below w.heap.size w v3) := Lib.hid (BV2.out.trans (X3.out.2.1.below BV2.out.size fun i _ e => Nat.le_of_eq e.symm))
  have p0 : v3.cell? ⟨w.heap.size, 0, none⟩ = some (.slice B0 l0.length d0) := cell_of_row _ _ 0 _ _ _ X3.out.1
  have p1 : v3.cell? ⟨w.heap.size, 1, none⟩ = some (.slice B1 l1.length d1) := cell_of_row _ _ 1 _ _ _ X3.out.1
  have p2 : v3.cell? ⟨w.heap.size, 2, none⟩ = some (.slice B2 l2.length d2) := cell_of_row _ _ 2 _ _ _ X3.out.1
  have FA : Hid (Fr (fun k => k = w.heap.size) wA v3) := Lib.hid ((X1.out.2.1.trans X2.out.2.1 fun _ _ h => h).trans X3.out.2.1 fun _ _ h => h)
  have RN : Hid (v3.heap[w.heap.size + 1]? = some (.cells #[.slice none 0 0, .slice none 0 0, .slice none 0 0] 130 (0, 0))) := Lib.hid ((FA.out.block (w.heap.size + 1) (by have := hsA.out; omega) (by omega)).trans R2.out)
  have r0 : v3.cell? ⟨w.heap.size + 1, 0, none⟩ = some (.slice none 0 0) := cell_of_row _ _ 0 _ _ _ RN.out
  have r1 : v3.cell? ⟨w.heap.size + 1, 1, none⟩ = some (.slice none 0 0) := cell_of_row _ _ 1 _ _ _ RN.out
  have r2 : v3.cell? ⟨w.heap.size + 1, 2, none⟩ = some (.slice none 0 0) := cell_of_row _ _ 2 _ _ _ RN.out
  have g0 : v3.frozen? ⟨w.heap.size + 1, 0, none⟩ = false := frozen_of_row _ _ _ _ _ RN.out
  have g1 : v3.frozen? ⟨w.heap.size + 1, 1, none⟩ = false := frozen_of_row _ _ _ _ _ RN.out
  have g2 : v3.frozen? ⟨w.heap.size + 1, 2, none⟩ = false := frozen_of_row _ _ _ _ _ RN.out
  clear hv3 m3 f3 c2
  rw [rounds_succ]
  go_wp2
  have HF := (((Fr.refl (fun k => k = w.heap.size + 1) v3).setCell (p := ⟨w.heap.size + 1, 0, none⟩) (fun _ => rfl) (.slice B0 l0.length d0)).setCell (p := ⟨w.heap.size + 1, 1, none⟩) (fun _ => rfl) (.slice B1 l1.length d1)).setCell (p := ⟨w.heap.size + 1, 2, none⟩) (fun _ => rfl) (.slice B2 l2.length d2)
  have hs2 := hsA.out
  have z1 := X1.out.2.1.size
  have z2 := X2.out.2.1.size
  have z3 := X3.out.2.1.size
  have O1 : OB v1 wA.heap.size (.slice B0 l0.length d0) l0 := X1.out.2.2
  have O2 : OB v2 v1.heap.size (.slice B1 l1.length d1) l1 := X2.out.2.2
  have O3 : OB v3 v2.heap.size (.slice B2 l2.length d2) l2 := X3.out.2.2
  have a1 := OB.lt O1
  have a2 := OB.lt O2
  have a3 := OB.lt O3
  have O1' := ob_round (ob_round (ob_round O1 X2.out.2.1 (by omega)) X3.out.2.1 (by omega)) HF (by omega)
  have O2' := ob_round (ob_round O2 X3.out.2.1 (by omega)) HF (by omega)
  have O3' := ob_round O3 HF (by omega)
  refine bodyPost_ret (results_cell_row rfl _ _ (w.heap.size + 1) 130 #[.slice B0 l0.length d0, .slice B1 l1.length d1, .slice B2 l2.length d2] (0, 0) _ rfl (heap_setCell_same _ _ _ _ _ _ (heap_setCell_same _ _ _ _ _ _ (heap_setCell_same _ _ _ _ _ _ RN.out))) Tryd.underlying130 rfl (by kernel_rfl)) rfl ⟨B0, B1, B2, d0, d1, d2, rfl, ?_, ?_, ?_, ?_, ?_, ?_⟩
  · exact OwnS.mono O1' fun k hk => by have := a1 k hk; omega
  · exact OwnS.mono O2' fun k hk => by have := a2 k hk; omega
  · exact OwnS.mono O3' fun k hk => by have := a3 k hk; omega
  · intro q hq
    have := a1 q hq
    exact ⟨fun e => by have := a2 q e; omega, fun e => by have := a3 q e; omega⟩
  · intro q hq e
    have := a2 q hq
    have := a3 q e
    omega
  · exact BV3.out.trans (HF.below BV3.out.size fun i _ e => by omega)

section
variable {w w1 w' : World} {O O' : Nat → Prop} {g : Nat} {m m' : DM} {bv bv' : Nat → Value} {wv : Value} {ws : List (DChg × Value)} {ea : Nat → Addr}

/-- Some areas are new, nothing waits. -/
theorem DiskV.newV (h : DiskV w O g m bv wv ws) (hb : Below w.heap.size w w1) (hf : Fr (fun k => k = g) w1 w') (hc : w'.heap[g]? = some (.cells (dcells m' bv' (.slice none 0 0)) 133 (0, 0)))
    (hN : ∀ i, i < 6 → (bv' i = bv i ∧ m'.b i = m.b i) ∨ OB w1 w.heap.size (bv' i) (m'.b i)) (hap : ∀ i j, i < 6 → j < 6 → i ≠ j → ∀ k, (bv' i).ownBlock = some k → w.heap.size ≤ k → (bv' j).ownBlock ≠ some k) (hw : m'.waits = []) :
    DiskV w' (ext O w w') g m' bv' (.slice none 0 0) [] := by
  have hg := h.lt
  have key : ∀ i, i < 6 → ∀ k, (bv' i).ownBlock = some k → (bv i).ownBlock = some k ∧ k < w.heap.size ∨ w.heap.size ≤ k ∧ k < w'.heap.size := fun i hi k hk => by
    rcases hN i hi with ⟨e, _⟩ | e
    · rw [e] at hk
      exact .inl ⟨hk, (OB.lt (h.areas i hi) k hk).2⟩
    · have := OB.lt e k hk
      exact .inr ⟨this.1, Nat.lt_of_lt_of_le this.2 hf.size⟩
  refine ⟨hc, fun i hi => ?_, OwnS.nil _ _ _ _, by rw [hw]; rfl, fun x hx => (by cases hx), fun i j hi hj hij k hk e => ?_, fun x hx => (by cases hx), .inl h.ownG, fun i hi k hk => ?_, fun k hk => (by cases hk), fun x hx => (by cases hx)⟩
  · rcases hN i hi with ⟨e, e'⟩ | e
    · rw [e, e']
      exact OwnS.kept ((h.areas i hi).below hb) hf fun k hk e => h.bne hi (by rw [← e]; exact hk)
    · exact OwnS.mono (OwnS.kept e hf fun k hk e' => by have := (OB.lt e k hk).1; omega) fun _ _ => Nat.zero_le _
  · rcases key i hi k hk with ⟨h1, h2⟩ | h1
    · rcases key j hj k e with ⟨h3, h4⟩ | h3
      · exact h.apart i j hi hj hij k h1 h3
      · omega
    · exact hap i j hi hj hij k hk h1.1 e
  · rcases key i hi k hk with h1 | h1
    · exact .inl (h.ownB i hi k h1.1)
    · exact .inr h1

/-- Areas 0 to 2 (off = 0) or 3 to 5 (off = 3) put anew. -/
def putV (off : Nat) (bv : Nat → Value) (v0 v1 v2 : Value) : Nat → Value := fun i => if i = off then v0 else if i = off + 1 then v1 else if i = off + 2 then v2 else bv i
theorem putV_cases (off : Nat) (bv : Nat → Value) (v0 v1 v2 : Value) (i : Nat) : putV off bv v0 v1 v2 i = bv i ∧ (i < off ∨ off + 2 < i) ∨ i = off ∧ putV off bv v0 v1 v2 i = v0 ∨ i = off + 1 ∧ putV off bv v0 v1 v2 i = v1 ∨ i = off + 2 ∧ putV off bv v0 v1 v2 i = v2 := by
  unfold putV
  by_cases h0 : i = off
  · exact .inr (.inl ⟨h0, if_pos h0⟩)
  · rw [if_neg h0]
    by_cases h1 : i = off + 1
    · exact .inr (.inr (.inl ⟨h1, if_pos h1⟩))
    · rw [if_neg h1]
      by_cases h2 : i = off + 2
      · exact .inr (.inr (.inr ⟨h2, if_pos h2⟩))
      · rw [if_neg h2]
        exact .inl ⟨rfl, by omega⟩

theorem DiskV.putV {off : Nat} {v0 v1 v2 : Value} (h : DiskV w O g m bv wv ws) (hb : Below w.heap.size w w1) (hf : Fr (fun k => k = g) w1 w') (hc : w'.heap[g]? = some (.cells (dcells m' (putV off bv v0 v1 v2) (.slice none 0 0)) 133 (0, 0)))
    (o0 : OB w1 w.heap.size v0 (m'.b off)) (o1 : OB w1 w.heap.size v1 (m'.b (off + 1))) (o2 : OB w1 w.heap.size v2 (m'.b (off + 2))) (a0 : ∀ q, v0.ownBlock = some q → v1.ownBlock ≠ some q ∧ v2.ownBlock ≠ some q) (a1 : ∀ q, v1.ownBlock = some q → v2.ownBlock ≠ some q)
    (hm : ∀ i, i < 6 → i < off ∨ off + 2 < i → m'.b i = m.b i) (hw : m'.waits = []) : DiskV w' (ext O w w') g m' (Go.Proofs.YtgiaifglkecdjaaDoor.putV off bv v0 v1 v2) (.slice none 0 0) [] := by
  refine h.newV hb hf hc (fun i hi => ?_) (fun i j hi hj hij k hk hkw e => ?_) hw
  · rcases putV_cases off bv v0 v1 v2 i with ⟨e, e'⟩ | ⟨rfl, e⟩ | ⟨rfl, e⟩ | ⟨rfl, e⟩
    · exact .inl ⟨e, hm i hi e'⟩
    · rw [e]; exact .inr o0
    · rw [e]; exact .inr o1
    · rw [e]; exact .inr o2
  · have hold : ∀ i, i < 6 → (bv i).ownBlock = some k → False := fun i hi e => by have := (OB.lt (h.areas i hi) k e).2; omega
    rcases putV_cases off bv v0 v1 v2 i with ⟨e1, _⟩ | ⟨rfl, e1⟩ | ⟨rfl, e1⟩ | ⟨rfl, e1⟩ <;> rw [e1] at hk
    · exact hold i hi hk
    all_goals
      rcases putV_cases _ bv v0 v1 v2 j with ⟨e2, _⟩ | ⟨h2, e2⟩ | ⟨h2, e2⟩ | ⟨h2, e2⟩ <;> rw [e2] at e
      · exact hold j hj e
      all_goals first
        | omega
        | exact (a0 k hk).1 e
        | exact (a0 k hk).2 e
        | exact (a0 k e).1 hk
        | exact (a0 k e).2 hk
        | exact a1 k hk e
        | exact a1 k e hk

set_option maxHeartbeats 1000000 in
theorem Sync_any (hV : DiskAt w O g m) (hok : m.Ok) (hE : DErrs w ea) (hg : 26 ≤ g) :
    Calls Tryd.prog 24 #[.pointer (some ⟨g, 0, none⟩)] w fun e w' => e = .returned (dErr ea (if m.dead then 25 else 0)) ∧ DiskAt w' (ext O w w') g m.sync ∧ Fr O w w' := by
  obtain ⟨bv, wv, ws, h⟩ := hV
  have HG := Lib.hid h.ownG
  cases hd : m.dead with
  | true =>
    have H1 := Lib.hid (unit_dead h hE hd hg)
    have HM : Hid (m.sync = m.unit) := Lib.hid (by unfold DM.sync; rw [hd]; rfl)
    clear h hE hok hd
    go_enter Tryd.func24, Tryd.ntmps24
    go_wp2_with (go_at_call 77; refine H1.out.mono ?_; rintro e w1 ⟨rfl, hv1, hf1⟩)
    go_ret
    rw [HM.out]
    exact ⟨rfl, ⟨_, _, _, hv1.mono fun _ _ ho => .inl ho⟩, hf1.mono fun q _ e => by subst e; exact HG.out⟩
  | false =>
    have H1 := Lib.hid (unit_live h hd hok.left0 hok.left1)
    have HM : Hid (m.sync = m.unit.flush) := Lib.hid (by unfold DM.sync; rw [hd]; rfl)
    have HB : Hid (m.unit.b = m.b) := Lib.hid m.unit_b
    have l3 := hok.len 3 (by omega)
    have l4 := hok.len 4 (by omega)
    have l5 := hok.len 5 (by omega)
    obtain ⟨A3, k3, e3, _, _⟩ := h.lenB (i := 3) (by omega)
    obtain ⟨A4, k4, e4, _, _⟩ := h.lenB (i := 4) (by omega)
    obtain ⟨A5, k5, e5, _, _⟩ := h.lenB (i := 5) (by omega)
    have HE3 := Lib.hid e3
    have HE4 := Lib.hid e4
    have HE5 := Lib.hid e5
    clear h hE hok hd e3 e4 e5
    go_enter Tryd.func24, Tryd.ntmps24
    go_wp2_with (go_at_call 77; refine H1.out.mono ?_; rintro e w1 ⟨rfl, hv1, hf1⟩; have c4 : w1.cell? ⟨g, 4, none⟩ = some (.slice A3 (m.b 3).length k3) := (hv1.cell 4).trans (congrArg some HE3.out); have c5 : w1.cell? ⟨g, 5, none⟩ = some (.slice A4 (m.b 4).length k4) := (hv1.cell 5).trans (congrArg some HE4.out); have c6 : w1.cell? ⟨g, 6, none⟩ = some (.slice A5 (m.b 5).length k5) := (hv1.cell 6).trans (congrArg some HE5.out); replace hv1 := Lib.hid hv1; replace hf1 := Lib.hid hf1)
    have hr3 : RB w1 A3 (m.b 3).length (m.b 3) := by have := hv1.out.areas 3 (by omega); rw [HE3.out, HB.out] at this; exact RB.of_ownS this
    have hr4 : RB w1 A4 (m.b 4).length (m.b 4) := by have := hv1.out.areas 4 (by omega); rw [HE4.out, HB.out] at this; exact RB.of_ownS this
    have hr5 : RB w1 A5 (m.b 5).length (m.b 5) := by have := hv1.out.areas 5 (by omega); rw [HE5.out, HB.out] at this; exact RB.of_ownS this
    have HC := Lib.hid (copied_any A3 A4 A5 k3 k4 k5 _ _ _ w1 hr3 hr4 hr5 l3 l4 l5)
    clear hr3 hr4 hr5
    go_wp2_with (go_at_call 78; refine HC.out.mono ?_; rintro e w2 ⟨B0, B1, B2, d0, d1, d2, rfl, o0, o1, o2, a0, a1, hb2⟩; have hrow := row_below hv1.out.cells hb2; have m1 : w2.cell? ⟨g, 1, none⟩ = some (bv 0) := cell_of_row _ _ 1 _ _ _ hrow; have m2 : w2.cell? ⟨g, 2, none⟩ = some (bv 1) := cell_of_row _ _ 2 _ _ _ hrow; have m3 : w2.cell? ⟨g, 3, none⟩ = some (bv 2) := cell_of_row _ _ 3 _ _ _ hrow; have m7 : w2.cell? ⟨g, 7, none⟩ = some wv := cell_of_row _ _ 7 _ _ _ hrow; have f1 : w2.frozen? ⟨g, 1, none⟩ = false := frozen_of_row _ _ _ _ _ hrow; have f2 : w2.frozen? ⟨g, 2, none⟩ = false := frozen_of_row _ _ _ _ _ hrow; have f3 : w2.frozen? ⟨g, 3, none⟩ = false := frozen_of_row _ _ _ _ _ hrow; have f7 : w2.frozen? ⟨g, 7, none⟩ = false := frozen_of_row _ _ _ _ _ hrow; replace hrow := Lib.hid hrow; replace o0 := Lib.hid o0; replace o1 := Lib.hid o1; replace o2 := Lib.hid o2; replace a0 := Lib.hid a0; replace a1 := Lib.hid a1; replace hb2 := Lib.hid hb2)
    go_ret
    rw [HM.out]
    have HF := ((((Fr.refl (fun k => k = g) w2).setCell (p := ⟨g, 1, none⟩) (fun _ => rfl) (.slice B0 (m.b 3).length d0)).setCell (p := ⟨g, 2, none⟩) (fun _ => rfl) (.slice B1 (m.b 4).length d1)).setCell (p := ⟨g, 3, none⟩) (fun _ => rfl) (.slice B2 (m.b 5).length d2)).setCell (p := ⟨g, 7, none⟩) (fun _ => rfl) (.slice none 0 0)
    have hV := hv1.out.putV (m' := m.unit.flush) (off := 0) hb2.out HF (heap_setCell_same _ _ _ _ _ _ (heap_setCell_same _ _ _ _ _ _ (heap_setCell_same _ _ _ _ _ _ (heap_setCell_same _ _ _ _ _ _ hrow.out)))) (by show OB w2 _ _ (m.unit.b 3); rw [HB.out]; exact o0.out) (by show OB w2 _ _ (m.unit.b 4); rw [HB.out]; exact o1.out) (by show OB w2 _ _ (m.unit.b 5); rw [HB.out]; exact o2.out) a0.out a1.out
      (fun i _ hi => by show (if i < 3 then m.unit.b (3 + i) else m.unit.b i) = m.unit.b i; rw [if_neg (by omega)]) rfl
    have z1 := hf1.out.size
    have z2 := hb2.out.size
    have z3 := HF.size
    refine ⟨rfl, ⟨_, _, _, hV.mono fun q hq ho => ?_⟩, ?_⟩
    · exact ho.imp id fun ho => ⟨Nat.le_trans z1 ho.1, hq⟩
    · exact ((hf1.out.mono fun q _ e => by subst e; exact HG.out).trans (Fr.of_below (S := O) hb2.out) fun _ _ h => h).trans HF fun q _ e => by subst e; exact HG.out
end
end Go.Proofs.YtgiaifglkecdjaaDoor
