/- The document's log (layer 18): Compact, whole. -/
import Derived.Test.YtifjddkgnfanaaaDoorRlK
import Derived.Test.YtifjddkgnfanaaaDoorRlM
namespace Go.Proofs.YtifjddkgnfanaaaDoor
open Go.RowKit

theorem cutE_sy (m : DM) (a : Nat) (ha : a < 3) : m.cutE (a : Int) 0 = syE m := by
  unfold DM.cutE syE
  rw [if_neg (by rintro (h | h | h) <;> omega)]
theorem syE_pos {m : DM} (h : syE m ≠ 0) : syE m = 25 := by
  unfold syE at *
  split
  · rfl
  · rename_i h1; exact absurd (if_neg h1) h
theorem clE_eq (m : DM) (a : Nat) (ha : a < 3) : clE m (a : Int) = if syE m = 0 then syE (m.cut (a : Int) 0) else syE m := by
  unfold clE
  rw [cutE_sy m a ha]
  rfl
theorem clM_eq (m : DM) (a : Nat) (ha : a < 3) : clM m (a : Int) = if syE m = 0 then (m.cut (a : Int) 0).sync else m.cut (a : Int) 0 := by
  unfold clM
  rw [cutE_sy m a ha]
theorem clE_eq2 (m : DM) : clE m 2 = if syE m = 0 then syE (m.cut 2 0) else syE m := clE_eq m 2 (by decide)
theorem clM_eq2 (m : DM) : clM m 2 = if syE m = 0 then (m.cut 2 0).sync else m.cut 2 0 := clM_eq m 2 (by decide)
theorem wrE_eq (m : DM) (a : Int) (bs : List UInt8) : wrE m a 0 bs = if m.writeE a 0 bs.length = 0 then syE (m.write a 0 bs) else m.writeE a 0 bs.length := rfl
theorem wrM_eq (m : DM) (a : Int) (bs : List UInt8) : wrM m a 0 bs = if m.writeE a 0 bs.length = 0 then (m.write a 0 bs).sync else m.write a 0 bs := rfl
section
variable {w w' w0 : World} {S P : Nat → Prop} {gl g : Nat} {m : DM} {L : LM}
theorem Cut_R0 {m : DM} {W : World} {S' : Nat → Prop} (a : Nat) (ha : a < 3) (e : Nat) (he : syE m = e) (h : RW w0 W S' g m gl L) (hok : m.Ok) (hn : m.waits.length ≤ 1000) (hf : m.Fold) :
    Calls Tryd.prog 56 #[.pointer (some ⟨g, 0, none⟩), .int .i64 (a : Int), .int .i64 0] W fun e' w' => e' = .returned (.int .i64 (e : Int)) ∧ RW w0 w' (ext S' W w') g (m.cut (a : Int) 0) gl L ∧ Fr S' W w' := by
  subst he
  refine (Cut_R a ha 0 h hok hn hf (Nat.zero_le _)).mono ?_
  rintro e' w' ⟨rfl, k1, k2, _⟩
  exact ⟨rfl, k1, k2⟩
theorem Sync_R0 {m : DM} {W : World} {S' : Nat → Prop} (e : Nat) (he : syE m = e) (h : RW w0 W S' g m gl L) (hok : m.Ok) (hn : m.waits.length ≤ 1000) (hf : m.Fold) :
    Calls Tryd.prog 10 #[.pointer (some ⟨g, 0, none⟩)] W fun e' w' => e' = .returned (.int .i64 (e : Int)) ∧ RW w0 w' (ext S' W w') g m.sync gl L ∧ Fr S' W w' := by
  subst he
  refine (Sync_R h hok hn hf).mono ?_
  rintro e' w' ⟨rfl, k1, k2, _⟩
  exact ⟨rfl, k1, k2⟩
theorem Write_R0 {m : DM} {W : World} {S' : Nat → Prop} (a : Nat) (ha : a < 3) (B : Option Addr) (n kb : Nat) (bs : List UInt8) (e : Nat) (he : m.writeE (a : Int) 0 bs.length = e) (h : RW w0 W S' g m gl L) (hok : m.Ok) (hn : m.waits.length ≤ 1000) (hf : m.Fold) (h0 : 0 ≤ m.free) (hb : RB W B n bs) (hnb : n ≤ 1048576) :
    Calls Tryd.prog 8 #[.pointer (some ⟨g, 0, none⟩), .int .i64 (a : Int), .int .i64 0, .slice B n kb] W fun e' w' => e' = .returned (.int .i64 (e : Int)) ∧ RW w0 w' (ext S' W w') g (m.write (a : Int) 0 bs) gl L ∧ Fr S' W w' := by
  subst he
  refine (Write_R a ha 0 B n kb bs h hok hn hf h0 hb hnb).mono ?_
  rintro e' w' ⟨rfl, k1, k2, _⟩
  exact ⟨rfl, k1, k2⟩

set_option maxHeartbeats 1000000 in
theorem Compact_R (A : Option Addr) (n c : Nat) (text : List UInt8) (h : RW w0 w S g m gl L) (hok : m.Ok) (hL : L.Ok) (hw : m.waits.length ≤ 900) (hf : m.Fold) (hfr : 0 ≤ m.free) (hb : RB w A n text) (hA : 0 < n → Off S A) (hn : n ≤ 1000000) :
    Calls Tryd.prog 37 #[.pointer (some ⟨gl, 0, none⟩), .slice A n c] w fun e w' => e = .returned (.int .i64 (L.cpE m text : Int)) ∧ RW w0 w' (ext S w w') g (L.cpM m text) gl (L.cp m text) ∧ Fr S w w' := by
  by_cases hr : L.space m text = 0
  · obtain ⟨hd, hgen, hsp⟩ := space_zero hr
    have hs := hL.slot
    obtain ⟨to, hto⟩ : ∃ to, to = 1 - L.slot := ⟨_, rfl⟩
    have ht : to < 3 := by omega
    have hti : (1 : Int) - (L.slot : Int) = (to : Int) := by omega
    have hl := hb.1
    rw [← hto] at hsp
    have hsl : (snapB (L.gen + 1) text).length = 16 + n := by rw [snapB_length, hl]
    have k0 := hok.cut (to : Int) 0
    have k1 := k0.sync
    have k2 := k1.write (to : Int) 0 (snapB (L.gen + 1) text)
    have k3 := k2.sync
    have k4 := k3.cut 2 0
    have f0 := hf.cut hok (to : Int) 0
    have f1 := f0.sync
    have f2 := f1.write k1 (to : Int) 0 (snapB (L.gen + 1) text)
    have f3 := f2.sync
    have f4 := f3.cut k3 2 0
    have w1 := cut_waits1 m (to : Int) 0
    have w2 := sync_waits (m.cut (to : Int) 0)
    have w3 := write_waits1 (m.cut (to : Int) 0).sync (to : Int) 0 (snapB (L.gen + 1) text)
    have w4 := sync_waits ((m.cut (to : Int) 0).sync.write (to : Int) 0 (snapB (L.gen + 1) text))
    have w5 := cut_waits1 ((m.cut (to : Int) 0).sync.write (to : Int) 0 (snapB (L.gen + 1) text)).sync 2 0
    have r1 : 0 ≤ (m.cut (to : Int) 0).sync.free := by rw [free_sync]; exact cut_free0 hfr to 0
    have HL : Hid ((to = 0 → (m.b (3 + to)).length = (m.b 3).length) ∧ (to = 1 → (m.b (3 + to)).length = (m.b 4).length) ∧ (to = 2 → (m.b (3 + to)).length = (m.b 5).length)) := Lib.hid ⟨fun e => by subst e; rfl, fun e => by subst e; rfl, fun e => by subst e; rfl⟩
    have HF := Lib.hid (fun W (hW : Below w.heap.size w W) => Free_R (h.below hW) hok (by omega) hf)
    have HS := Lib.hid (fun W (hW : Below w.heap.size w W) => Seen_R (h.below hW) hok (by omega) hf)
    have hq2 : ¬ m.free < 16 + (n : Int) - ((m.b (3 + to)).length : Int) := by omega
    have hll := hok.len (3 + to) (by omega)
    have HSn : Hid (∀ W, Fr S w W → Calls Tryd.prog 60 #[.int .i64 ((L.gen : Int) + 1), .slice A n c] W fun e w' => ∃ A' c', e = .returned (.slice A' (16 + n) c') ∧ OB w' W.heap.size (.slice A' (16 + n) c') (snapB (L.gen + 1) text) ∧ Below W.heap.size W w') := Lib.hid fun W hW =>
      RSnap_any (L.gen + 1) A n c text W (((hb.keep (Keeps.drewN w 0)).fr0 hW hA)) (by omega) (by omega)
    have eE : L.cpE m text = if swE m (to : Int) (snapB (L.gen + 1) text) = 0 then 0 else 25 := by rw [hto]; exact if_pos hr
    have eM : L.cpM m text = swM m (to : Int) (snapB (L.gen + 1) text) := by rw [hto]; exact if_pos hr
    have eL : L.cp m text = if swE m (to : Int) (snapB (L.gen + 1) text) = 0 then ⟨L.gen + 1, to, text, [], L.dead⟩ else { L with dead := true } := by rw [hto]; exact if_pos hr
    rw [eE, eM, eL]
    unfold swE swM
    simp only [clE_eq m to ht, clM_eq m to ht, clE_eq2, clM_eq2, wrE_eq, wrM_eq]
    by_cases a1 : syE m = 0
    case neg =>
      simp only [a1, ↓reduceIte]
      exact compR_1 A n c  to (m.b (3 + to)).length (m.b 3).length (m.b 4).length (m.b 5).length m.free (syE m : Int) h hd hgen ht hti HL hq2 hn hll HF HS (Lib.hid fun W S' hW => Cut_R0 to ht _ (rfl) hW hok (by omega) hf) (by omega)
    by_cases a2 : syE (m.cut (to : Int) 0) = 0
    case neg =>
      simp only [a1, a2, ↓reduceIte]
      exact compR_2 A n c  to (m.b (3 + to)).length (m.b 3).length (m.b 4).length (m.b 5).length m.free (syE (m.cut (to : Int) 0) : Int) h hd hgen ht hti HL hq2 hn hll HF HS (Lib.hid fun W S' hW => Cut_R0 to ht 0 a1 hW hok (by omega) hf) (Lib.hid fun W S' hW => Sync_R0 _ (rfl) hW k0 (by omega) f0) (by omega)
    by_cases a3 : (m.cut (to : Int) 0).sync.writeE (to : Int) 0 (snapB (L.gen + 1) text).length = 0
    case neg =>
      simp only [a1, a2, a3, ↓reduceIte]
      exact compR_3 A n c text to (m.b (3 + to)).length (m.b 3).length (m.b 4).length (m.b 5).length m.free ((m.cut (to : Int) 0).sync.writeE (to : Int) 0 (snapB (L.gen + 1) text).length : Int) h hd hgen ht hti HL hq2 hn hll HF HS HSn (Lib.hid fun W S' hW => Cut_R0 to ht 0 a1 hW hok (by omega) hf) (Lib.hid fun W S' hW => Sync_R0 0 a2 hW k0 (by omega) f0) (Lib.hid fun W S' hW A' c' hr => Write_R0 to ht A' (16 + n) c' _ _ (rfl) hW k1 (by omega) f1 r1 hr (by omega)) (by omega)
    by_cases a4 : syE ((m.cut (to : Int) 0).sync.write (to : Int) 0 (snapB (L.gen + 1) text)) = 0
    case neg =>
      simp only [a1, a2, a3, a4, ↓reduceIte]
      exact compR_4 A n c text to (m.b (3 + to)).length (m.b 3).length (m.b 4).length (m.b 5).length m.free (syE ((m.cut (to : Int) 0).sync.write (to : Int) 0 (snapB (L.gen + 1) text)) : Int) h hd hgen ht hti HL hq2 hn hll HF HS HSn (Lib.hid fun W S' hW => Cut_R0 to ht 0 a1 hW hok (by omega) hf) (Lib.hid fun W S' hW => Sync_R0 0 a2 hW k0 (by omega) f0) (Lib.hid fun W S' hW A' c' hr => Write_R0 to ht A' (16 + n) c' _ 0 a3 hW k1 (by omega) f1 r1 hr (by omega)) (Lib.hid fun W S' hW => Sync_R0 _ (rfl) hW k2 (by omega) f2) (by omega)
    by_cases a5 : syE ((m.cut (to : Int) 0).sync.write (to : Int) 0 (snapB (L.gen + 1) text)).sync = 0
    case neg =>
      simp only [a1, a2, a3, a4, a5, ↓reduceIte]
      exact compR_5 A n c text to (m.b (3 + to)).length (m.b 3).length (m.b 4).length (m.b 5).length m.free (syE ((m.cut (to : Int) 0).sync.write (to : Int) 0 (snapB (L.gen + 1) text)).sync : Int) h hd hgen ht hti HL hq2 hn hll HF HS HSn (Lib.hid fun W S' hW => Cut_R0 to ht 0 a1 hW hok (by omega) hf) (Lib.hid fun W S' hW => Sync_R0 0 a2 hW k0 (by omega) f0) (Lib.hid fun W S' hW A' c' hr => Write_R0 to ht A' (16 + n) c' _ 0 a3 hW k1 (by omega) f1 r1 hr (by omega)) (Lib.hid fun W S' hW => Sync_R0 0 a4 hW k2 (by omega) f2) (Lib.hid fun W S' hW => Cut_R0 2 (by decide) _ (rfl) hW k3 (by omega) f3) (by omega)
    by_cases a6 : syE (((m.cut (to : Int) 0).sync.write (to : Int) 0 (snapB (L.gen + 1) text)).sync.cut 2 0) = 0
    case neg =>
      simp only [a1, a2, a3, a4, a5, a6, ↓reduceIte]
      exact compR_6 A n c text to (m.b (3 + to)).length (m.b 3).length (m.b 4).length (m.b 5).length m.free (syE (((m.cut (to : Int) 0).sync.write (to : Int) 0 (snapB (L.gen + 1) text)).sync.cut 2 0) : Int) h hd hgen ht hti HL hq2 hn hll HF HS HSn (Lib.hid fun W S' hW => Cut_R0 to ht 0 a1 hW hok (by omega) hf) (Lib.hid fun W S' hW => Sync_R0 0 a2 hW k0 (by omega) f0) (Lib.hid fun W S' hW A' c' hr => Write_R0 to ht A' (16 + n) c' _ 0 a3 hW k1 (by omega) f1 r1 hr (by omega)) (Lib.hid fun W S' hW => Sync_R0 0 a4 hW k2 (by omega) f2) (Lib.hid fun W S' hW => Cut_R0 2 (by decide) 0 a5 hW k3 (by omega) f3) (Lib.hid fun W S' hW => Sync_R0 _ (rfl) hW k4 (by omega) f4) (by omega)
    simp only [a1, a2, a3, a4, a5, a6, ↓reduceIte]
    exact compR_7 A n c text to (m.b (3 + to)).length (m.b 3).length (m.b 4).length (m.b 5).length m.free h hd hgen ht hti HL hq2 hn hll HF HS HSn (Lib.hid fun W S' hW => Cut_R0 to ht 0 a1 hW hok (by omega) hf) (Lib.hid fun W S' hW => Sync_R0 0 a2 hW k0 (by omega) f0) (Lib.hid fun W S' hW A' c' hr => Write_R0 to ht A' (16 + n) c' _ 0 a3 hW k1 (by omega) f1 r1 hr (by omega)) (Lib.hid fun W S' hW => Sync_R0 0 a4 hW k2 (by omega) f2) (Lib.hid fun W S' hW => Cut_R0 2 (by decide) 0 a5 hW k3 (by omega) f3) (Lib.hid fun W S' hW => Sync_R0 0 a6 hW k4 (by omega) f4) (Lib.hid hb) (Lib.hid hA)
  · have eE : L.cpE m text = L.space m text := if_neg hr
    have eM : L.cpM m text = m := if_neg hr
    have eL : L.cp m text = L := if_neg hr
    rw [eE, eM, eL]
    refine (compactR_bad A n c text h hok hL (by omega) hf hfr hb hn hr).mono ?_
    rintro e w' ⟨rfl, hb'⟩
    exact ⟨rfl, h.made hb'⟩
end
end Go.Proofs.YtifjddkgnfanaaaDoor
