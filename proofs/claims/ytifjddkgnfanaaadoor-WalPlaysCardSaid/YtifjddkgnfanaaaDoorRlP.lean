/- The document's log (layer 18): Open, its frame; the loop over the snapshots. -/
import Derived.Test.YtifjddkgnfanaaaDoorRlO
import Derived.Deep.LoopGhost
namespace Go.Proofs.YtifjddkgnfanaaaDoor
open Go.RowKit

set_option maxRecDepth 100000 in
def QF (f : Nat → Value) : Act := ⟨#[f 0, f 1, f 2, f 3, f 4, f 5, f 6, f 7, f 8, f 9, f 10, f 11, f 12, f 13, f 14, f 15, f 16, f 17, f 18, f 19, f 20, f 21, f 22, f 23, f 24, f 25, f 26, f 27, f 28, f 29, f 30, f 31, f 32, f 33, f 34, f 35, f 36, f 37, f 38, f 39, f 40, f 41, f 42, f 43, f 44, f 45, f 46, f 47, f 48, f 49, f 50, f 51, f 52, f 53, f 54, f 55, f 56, f 57, f 58, f 59, f 60, f 61, f 62, f 63, f 64, f 65, f 66, f 67, f 68, f 69, f 70, f 71, f 72, f 73, f 74, f 75, f 76, f 77, f 78, f 79, f 80, f 81, f 82, f 83, f 84, f 85, f 86, f 87, f 88, f 89, f 90, f 91, f 92, f 93, f 94, f 95, f 96, f 97, f 98, f 99, f 100, f 101, f 102, f 103, f 104, f 105, f 106, f 107, f 108, f 109, f 110, f 111, f 112, f 113, f 114, f 115, f 116, f 117, f 118, f 119, f 120, f 121], []⟩
def slotQ (a : Act) (i : Nat) : Value := a.tmps.toList.getD i undef
def IsQ (a : Act) : Prop := a = QF (slotQ a)
/-- The areas that were seen. -/
structure QA (w2 : World) (n0 : Nat) (b : Nat → List UInt8) (B : Nat → Option Addr) (d : Nat → Nat) : Prop where
  cell : ∀ i, i < 3 → w2.cell? ⟨n0, i, none⟩ = some (.slice (B i) (b i).length (d i))
  rb : ∀ i, i < 3 → RB w2 (B i) (b i).length (b i)
  cap : ∀ i, i < 3 → (b i).length ≤ d i ∧ d i ≤ maxLen
  len : ∀ i, i < 3 → (b i).length ≤ 1048576
/-- The log, all of whose blocks are new. -/
def QL (w2 w : World) (gl g : Nat) (L : LM) : Prop := RLogAt w (fun k => w2.heap.size ≤ k) gl g L ∧ Below w2.heap.size w2 w
theorem QL.of {w2 w w' : World} {gl g : Nat} {L : LM} (hb : Below w2.heap.size w2 w) (h : RLogAt w' (ext (fun k => w2.heap.size ≤ k) w w') gl g L ∧ Fr (fun k => w2.heap.size ≤ k) w w') : QL w2 w' gl g L := by
  obtain ⟨⟨tv, rv, ws, hv⟩, hf⟩ := h
  have hs := hb.size
  exact ⟨⟨tv, rv, ws, hv.mono fun k _ hk => hk.elim id fun hk => Nat.le_trans hs hk.1⟩, hb.trans (hf.below hs fun _ _ hk => hk)⟩
theorem QL.below {w2 w w' : World} {gl g : Nat} {L : LM} (h : QL w2 w gl g L) (hb : Below w.heap.size w w') : QL w2 w' gl g L := by
  obtain ⟨⟨tv, rv, ws, hv⟩, h2⟩ := h
  exact ⟨⟨tv, rv, ws, hv.below hb⟩, h2.trans (hb.mono h2.size)⟩
/-- At the head of a round over the snapshots. -/
def QJ (w2 : World) (n0 gl g i : Nat) (L : LM) (a : Act) (w : World) : Prop :=
  IsQ a ∧ slotQ a 0 = .pointer (some ⟨g, 0, none⟩) ∧ slotQ a 4 = .pointer (some ⟨n0, 0, none⟩) ∧ slotQ a 5 = .pointer (some ⟨gl, 0, none⟩) ∧ slotQ a 6 = .int .i64 (i : Int) ∧ QL w2 w gl g L
def QK (w2 : World) (n0 gl g : Nat) (L : LM) (a : Act) (w : World) : Prop :=
  IsQ a ∧ slotQ a 0 = .pointer (some ⟨g, 0, none⟩) ∧ slotQ a 4 = .pointer (some ⟨n0, 0, none⟩) ∧ slotQ a 5 = .pointer (some ⟨gl, 0, none⟩) ∧ QL w2 w gl g L

section
variable {w2 : World} {n0 gl g : Nat} {b : Nat → List UInt8} {B : Nat → Option Addr} {d : Nat → Nat} {L : LM}
set_option maxHeartbeats 4000000 in
set_option maxRecDepth 100000 in
theorem opn_snap (fr : Act) (w : World) (Q : Exit → Act → World → Prop) (i : Nat) (hJ : QJ w2 n0 gl g i L fr w) (hi : i < 2) (hA : QA w2 n0 b B d) (hr0 : L.recs = []) (hd0 : L.dead = false)
    (hN : ∀ (fr' : Act) (w' : World), QJ w2 n0 gl g (i + 1) (stepP L i (b i)) fr' w' → Q .normal fr' w') :
    Code.wp Tryd.prog (lpC Tryd.f31.body 0) Q fr w := by
  obtain ⟨h0, hs0, h4, h5, h6, hL, hB⟩ := hJ
  obtain ⟨tv, rv, ws, hV⟩ := hL
  have HV := Lib.hid hV
  have HB := Lib.hid hB
  have HN := Lib.hid hN
  have HS0 := Lib.hid hs0
  have HR0 := Lib.hid hr0
  have HD0 := Lib.hid hd0
  have hca := Keeps.of_below hB _ _ (hA.cell i (by omega))
  have hrb := (hA.rb i (by omega)).keep (Keeps.of_below hB)
  have hcap := hA.cap i (by omega)
  have hlen := hA.len i (by omega)
  have k0 : (0 : Int) ≤ (i : Int) := by omega
  have k1 : (i : Int) < 2 := by omega
  have k2 : (i : Int) < 3 := by omega
  have HSn := Lib.hid (RsnapB_any (B i) (b i).length (d i) (b i) w hrb hcap.1 hlen)
  have HIK : Hid (i < 2) := Lib.hid hi
  clear hN hB hA hs0 hr0 hd0 hrb hcap hlen
  generalize b i = l at *
  generalize B i = A at *
  generalize d i = c at *
  have cg : w.cell? ⟨gl, 1, none⟩ = some (.int .i64 (L.gen : Int)) := hV.cell 1
  have cs : w.cell? ⟨gl, 2, none⟩ = some (.int .i64 (L.slot : Int)) := hV.cell 2
  have ct : w.cell? ⟨gl, 3, none⟩ = some tv := hV.cell 3
  have HCg : Hid (∀ W, Below w.heap.size w W → W.cell? ⟨gl, 1, none⟩ = some (.int .i64 (L.gen : Int)) ∧ W.cell? ⟨gl, 2, none⟩ = some (.int .i64 (L.slot : Int)) ∧ W.cell? ⟨gl, 3, none⟩ = some tv ∧ ∀ k, W.frozen? ⟨gl, k, none⟩ = false) := Lib.hid fun W hW => ⟨Keeps.of_below hW _ _ cg, Keeps.of_below hW _ _ cs, Keeps.of_below hW _ _ ct, fun k => (HV.out.below hW).free k⟩
  obtain ⟨G0, hG0⟩ : ∃ G, G = L.gen := ⟨_, rfl⟩
  have HG0 := Lib.hid hG0
  rw [← hG0] at cg HCg
  clear hV cs ct hG0
  cases hgd : goodB l with
  | none =>
    have HGN := Lib.hid hgd
    have q1 : decide ((0 : Int) > (G0 : Int)) = false := decide_eq_false (by omega)
    have q1' : decide ((G0 : Int) < 0) = false := decide_eq_false (by omega)
    clear hgd
    unfold IsQ at h0
    generalize slotQ fr = f at *
    subst h0
    unfold QF
    rw [h4, h5, h6]
    conv => arg 2; whnf
    clear h4 h5 h6
    go_wp2_with (first
      | (go_at_call 51; go_loud ((with_reducible refine HSn.out.mono ?_); rintro e w1 ⟨gv, A1, n1, c1, rfl, hb1, -, h12⟩; have B1 := Lib.hid hb1; obtain rfl := h12 HGN.out; obtain ⟨x1, -, -, -⟩ := HCg.out w1 hb1; clear hb1 h12))
      | fail)
    refine HN.out _ _ ⟨rfl, HS0.out, rfl, rfl, by go_num, ?_⟩
    rw [stepP_none HGN.out]
    exact QL.below ⟨⟨_, _, _, HV.out⟩, HB.out⟩ B1.out
  | some y =>
    obtain ⟨g', t'⟩ := y
    have HGN := Lib.hid hgd
    clear hgd
    by_cases hgg : G0 < g'
    · have q1 : decide ((g' : Int) > (G0 : Int)) = true := decide_eq_true (by omega)
      have q1' : decide ((G0 : Int) < (g' : Int)) = true := decide_eq_true (by omega)
      have qn : decide (G0 < g') = true := decide_eq_true hgg
      have HGG : Hid (L.gen < g') := Lib.hid (by rw [← HG0.out]; exact hgg)
      clear hgg
      unfold IsQ at h0
      generalize slotQ fr = f at *
      subst h0
      unfold QF
      rw [h4, h5, h6]
      conv => arg 2; whnf
      clear h4 h5 h6
      go_wp2_with (first
        | (go_at_call 51; go_loud ((with_reducible refine HSn.out.mono ?_); rintro e w1 ⟨gv, A1, n1, c1, rfl, hb1, h11, -⟩; have B1 := Lib.hid hb1; obtain ⟨rfl, ho1⟩ := h11 _ _ HGN.out; have O1 := Lib.hid ho1; obtain ⟨x1, x2, x3, xf⟩ := HCg.out w1 hb1; clear hb1 h11 ho1))
        | fail)
      refine HN.out _ _ ⟨rfl, HS0.out, rfl, rfl, by go_num, ?_⟩
      have Y := HV.out.snap B1.out g' i O1.out rfl
      rw [HR0.out, HD0.out] at Y
      rw [stepP_new HGN.out HGG.out]
      exact QL.of HB.out Y
    · have q1 : decide ((g' : Int) > (G0 : Int)) = false := decide_eq_false (by omega)
      have q1' : decide ((G0 : Int) < (g' : Int)) = false := decide_eq_false (by omega)
      have qn : decide (G0 < g') = false := decide_eq_false hgg
      have HGG : Hid (¬ L.gen < g') := Lib.hid (by rw [← HG0.out]; exact hgg)
      clear hgg
      unfold IsQ at h0
      generalize slotQ fr = f at *
      subst h0
      unfold QF
      rw [h4, h5, h6]
      conv => arg 2; whnf
      clear h4 h5 h6
      go_wp2_with (first
        | (go_at_call 51; go_loud ((with_reducible refine HSn.out.mono ?_); rintro e w1 ⟨gv, A1, n1, c1, rfl, hb1, h11, -⟩; have B1 := Lib.hid hb1; obtain ⟨rfl, -⟩ := h11 _ _ HGN.out; obtain ⟨x1, -, -, -⟩ := HCg.out w1 hb1; clear hb1 h11))
        | fail)
      refine HN.out _ _ ⟨rfl, HS0.out, rfl, rfl, by go_num, ?_⟩
      rw [stepP_old HGN.out HGG.out]
      exact QL.below ⟨⟨_, _, _, HV.out⟩, HB.out⟩ B1.out
set_option maxHeartbeats 1000000 in
set_option maxRecDepth 100000 in
theorem opn_snapE (fr : Act) (w : World) (Q : Exit → Act → World → Prop) (hJ : QJ w2 n0 gl g 2 L fr w)
    (hX : ∀ (fr' : Act) (w' : World), QK w2 n0 gl g L fr' w' → Q (.exit 0) fr' w') :
    Code.wp Tryd.prog (lpC Tryd.f31.body 0) Q fr w := by
  obtain ⟨h0, hs0, h4, h5, h6, hL⟩ := hJ
  have HX := Lib.hid hX
  have HL := Lib.hid hL
  have HS0 := Lib.hid hs0
  clear hX hL hs0
  unfold IsQ at h0
  generalize slotQ fr = f at *
  subst h0
  unfold QF
  rw [h4, h5, h6]
  conv => arg 2; whnf
  clear h4 h5 h6
  go_wp2
  exact HX.out _ _ ⟨rfl, HS0.out, rfl, rfl, HL.out⟩
/-- All snapshots. -/
theorem opn_snaps (fr : Act) (w : World) (Q : Exit → Act → World → Prop) (m : DM) (hb : ∀ i, i < 2 → b i = m.b (3 + i)) (hA : QA w2 n0 b B d) (hJ : QJ w2 n0 gl g 0 (pickN m 0) fr w)
    (hX : ∀ (fr' : Act) (w' : World), QK w2 n0 gl g (pickN m 2) fr' w' → Q (.exit 0) fr' w') :
    Code.wp Tryd.prog (.loop (lpC Tryd.f31.body 0)) Q fr w := by
  refine wp_loop_ghost (fun N a w' => ∃ i : Nat, i + N = 2 ∧ QJ w2 n0 gl g i (pickN m i) a w') 2 ⟨0, rfl, hJ⟩ ?_
  rintro N a w1 ⟨i, hiN, hj⟩
  by_cases hi : i < 2
  · refine opn_snap a w1 _ i hj hi hA (pickN_rest m i).1 (pickN_rest m i).2 fun fr' w' h => ⟨N - 1, by omega, i + 1, by omega, ?_⟩
    rw [hb i hi] at h
    exact h
  · obtain rfl : i = 2 := by omega
    exact opn_snapE a w1 _ hj hX
end
end Go.Proofs.YtifjddkgnfanaaaDoor
