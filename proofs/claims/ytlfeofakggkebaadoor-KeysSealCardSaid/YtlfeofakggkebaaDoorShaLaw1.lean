/- ShaSum: the parts are laid out and copied: what its loops keep. -/
import Derived.Test.YtlfeofakggkebaaDoorMarked
namespace Go.Proofs.YtlfeofakggkebaaDoor
open Go.RowKit

theorem info_bs : (Tryd.prog.info? 22).map (fun i => (i.zero, i.size, i.bytes)) = some (some (.slice none 0 0), 1, 24) := by kernel_rfl

/-- What is laid out so far, and copied. -/
structure Laid (w : World) (base : Nat) (v3 v4 : Value) (l3 : List UInt8) (vs : List Value) (ls : List (List UInt8)) : Prop where
  o3 : OB w base v3 l3
  o4 : OwnS w base 22 1 v4 vs.length vs
  len : vs.length = ls.length
  mks : ∀ k, k < vs.length → Mk w (vs.getD k undef) (ls.getD k [])
  ap : ∀ k, k < vs.length → ∀ q, (vs.getD k undef).ownBlock = some q → base ≤ q ∧ q < w.heap.size ∧ v3.ownBlock ≠ some q ∧ v4.ownBlock ≠ some q
  a34 : ∀ q, v3.ownBlock = some q → v4.ownBlock ≠ some q

theorem Mk.keepB {w w' : World} {v : Value} {l : List UInt8} (h : Mk w v l) (hk : ∀ q, v.ownBlock = some q → w'.heap[q]? = w.heap[q]?) : Mk w' v l := by
  obtain ⟨A, cap, rfl, h2, h3, h4⟩ := h
  refine ⟨A, cap, rfl, h2, h3, h4.1, fun hn => ?_⟩
  obtain ⟨b, o, rfl, hc⟩ := h4.2 hn
  exact ⟨b, o, rfl, fun k hk' => (World.cell?_of_block (hk b (by simp [Value.ownBlock]))).trans (hc k hk')⟩

theorem Laid.below {w w' : World} {base : Nat} {v3 v4 : Value} {l3 : List UInt8} {vs : List Value} {ls : List (List UInt8)} (h : Laid w base v3 v4 l3 vs ls) (hb : Below w.heap.size w w') : Laid w' base v3 v4 l3 vs ls :=
  ⟨h.o3.below hb, h.o4.below hb, h.len, fun k hk => (h.mks k hk).keepB (fun q hq => hb.block q (h.ap k hk q hq).2.1), fun k hk q hq => ⟨(h.ap k hk q hq).1, Nat.lt_of_lt_of_le (h.ap k hk q hq).2.1 hb.size, (h.ap k hk q hq).2.2⟩, h.a34⟩

theorem Laid.add3 {w w' : World} {base : Nat} {v3 v4 v3' : Value} {l3 l3' : List UInt8} {vs : List Value} {ls : List (List UInt8)} (h : Laid w base v3 v4 l3 vs ls) (hg : w.grownBy w' v3.ownBlock) (ho : OB w' base v3' l3')
    (hat : v3'.ownBlock = v3.ownBlock ∨ v3'.ownBlock = some w.heap.size) : Laid w' base v3' v4 l3' vs ls := by
  refine ⟨ho, h.o4.keepB (fun q hq => hg.block q (h.o4.lt q hq).2 (fun e => h.a34 q e.symm hq)), h.len, fun k hk => (h.mks k hk).keepB (fun q hq => hg.block q (h.ap k hk q hq).2.1 (fun e => (h.ap k hk q hq).2.2.1 e.symm)), fun k hk q hq => ?_, fun q hq => ?_⟩
  · obtain ⟨h0, h1, h2, h3⟩ := h.ap k hk q hq
    refine ⟨h0, Nat.lt_of_lt_of_le h1 hg.size, ?_, h3⟩
    rcases hat with e | e
    · rw [e]; exact h2
    · rw [e]; intro e'; injection e' with e'; omega
  · rcases hat with e | e
    · exact h.a34 q (e ▸ hq)
    · intro e'
      have := (h.o4.lt q e').2
      rw [hq] at e; injection e with e; omega

theorem Laid.add4 {w w' : World} {base : Nat} {v3 v4 v4' u : Value} {l3 p : List UInt8} {vs : List Value} {ls : List (List UInt8)} (h : Laid w base v3 v4 l3 vs ls) (hg : w.grownBy w' v4.ownBlock) (ho : OwnS w' base 22 1 v4' (vs.length + 1) (vs ++ [u]))
    (hat : v4'.ownBlock = v4.ownBlock ∨ v4'.ownBlock = some w.heap.size) (hu : Mk w u p) (hf : ∀ q, u.ownBlock = some q → base ≤ q ∧ q < w.heap.size ∧ v3.ownBlock ≠ some q ∧ v4.ownBlock ≠ some q) : Laid w' base v3 v4' l3 (vs ++ [u]) (ls ++ [p]) := by
  have hlen := h.len
  have hv4 : ∀ q, q < w.heap.size → v4.ownBlock ≠ some q → v4'.ownBlock ≠ some q := fun q hq hn => by
    rcases hat with e | e
    · rw [e]; exact hn
    · rw [e]; intro e'; injection e' with e'; omega
  refine ⟨h.o3.keepB (fun q hq => hg.block q (h.o3.lt q hq).2 (fun e => h.a34 q hq e.symm)), by rw [List.length_append]; exact ho, by simp [hlen], fun k hk => ?_, fun k hk q hq => ?_, fun q hq => hv4 q (h.o3.lt q hq).2 (h.a34 q hq)⟩
  · rw [List.length_append] at hk
    simp only [List.getD_eq_getElem?_getD]
    by_cases hlt : k < vs.length
    · rw [List.getElem?_append_left hlt, List.getElem?_append_left (by omega), ← List.getD_eq_getElem?_getD, ← List.getD_eq_getElem?_getD]
      exact (h.mks k hlt).keepB (fun q hq => hg.block q (h.ap k hlt q hq).2.1 (fun e => (h.ap k hlt q hq).2.2.2 e.symm))
    · simp at hk
      rw [List.getElem?_append_right (by omega), List.getElem?_append_right (by omega), show k - vs.length = 0 by omega, show k - ls.length = 0 by omega]
      exact hu.keepB (fun q hq => hg.block q (hf q hq).2.1 (fun e => (hf q hq).2.2.2 e.symm))
  · rw [List.length_append] at hk
    simp only [List.getD_eq_getElem?_getD] at hq
    by_cases hlt : k < vs.length
    · rw [List.getElem?_append_left hlt, ← List.getD_eq_getElem?_getD] at hq
      obtain ⟨h0, h1, h2, h3⟩ := h.ap k hlt q hq
      exact ⟨h0, Nat.lt_of_lt_of_le h1 hg.size, h2, hv4 q h1 h3⟩
    · simp at hk
      rw [List.getElem?_append_right (by omega), show k - vs.length = 0 by omega] at hq
      obtain ⟨h0, h1, h2, h3⟩ := hf q hq
      exact ⟨h0, Nat.lt_of_lt_of_le h1 hg.size, h2, hv4 q h1 h3⟩

theorem Laid.rbl {w : World} {base : Nat} {v3 v4 : Value} {l3 : List UInt8} {vs : List Value} {ls : List (List UInt8)} (h : Laid w base v3 v4 l3 vs ls) : ∃ A cap, v4 = .slice A ls.length cap ∧ ls.length ≤ cap ∧ cap ≤ maxLen ∧ RBL w A ls.length ls ∧
    (0 < ls.length → ∃ b o, A = some ⟨b, o, none⟩ ∧ ∀ k, k < ls.length → ∃ u, w.cell? ⟨b, o + k, none⟩ = some u ∧ Mk w u (ls.getD k [])) := by
  obtain ⟨A, cap, hv, h1, h2⟩ := h.o4.form
  rw [h.len] at hv h1
  have key : 0 < ls.length → ∃ b o, A = some ⟨b, o, none⟩ ∧ ∀ k, k < ls.length → ∃ u, w.cell? ⟨b, o + k, none⟩ = some u ∧ Mk w u (ls.getD k []) := fun hn => by
    obtain ⟨g, o, cap', hv', _, _, hc⟩ := h.o4.cells (by rw [h.len]; exact hn)
    rw [hv] at hv'
    injection hv' with e1 _ _
    refine ⟨g, o, e1, fun k hk => ⟨vs.getD k undef, hc k _ ?_, h.mks k (by rw [h.len]; exact hk)⟩⟩
    rw [List.getD_eq_getElem?_getD, List.getElem?_eq_getElem (by rw [h.len]; exact hk)]
    rfl
  refine ⟨A, cap, hv, h1, h2, ⟨rfl, fun hn => ?_⟩, key⟩
  obtain ⟨b, o, e, hc⟩ := key hn
  exact ⟨b, o, e, fun k hk => let ⟨u, x1, x2⟩ := hc k hk; ⟨u, x1, x2.sb⟩⟩
end Go.Proofs.YtlfeofakggkebaaDoor
