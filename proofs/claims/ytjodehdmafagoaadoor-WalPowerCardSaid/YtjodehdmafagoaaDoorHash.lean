/- sha.Hash: New, Write, Copy, Len, Sum; sha.Sum; sha.Text. -/
import Derived.Test.YtjodehdmafagoaaDoorTake
namespace Go.Proofs.YtjodehdmafagoaaDoor
open Go.RowKit

/-- All whole blocks taken: the words and what is left. -/
def blocksF (K : Nat → UInt32) : Nat → W8 → List UInt8 → W8 × List UInt8
  | 0, s, l => (s, l)
  | f + 1, s, l => if 64 ≤ l.length then blocksF K f (compress K s (l.take 64)) (l.drop 64) else (s, l)
def blocks (K : Nat → UInt32) (s : W8) (l : List UInt8) : W8 × List UInt8 := blocksF K l.length s l

theorem blocksF_enough (K : Nat → UInt32) : ∀ (f f' : Nat) (s : W8) (l : List UInt8), l.length ≤ f → l.length ≤ f' → blocksF K f s l = blocksF K f' s l
  | 0, 0, _, _, _, _ => rfl
  | 0, f' + 1, s, l, h, _ => by simp [blocksF]; omega
  | f + 1, 0, s, l, _, h => by simp [blocksF]; omega
  | f + 1, f' + 1, s, l, h, h' => by
    simp only [blocksF]
    split
    · exact blocksF_enough K f f' _ _ (by simp; omega) (by simp; omega)
    · rfl
theorem blocks_step (K : Nat → UInt32) (s : W8) (l : List UInt8) (h : 64 ≤ l.length) : blocks K s l = blocks K (compress K s (l.take 64)) (l.drop 64) := by
  unfold blocks
  obtain ⟨n, hn⟩ : ∃ n, l.length = n + 1 := ⟨l.length - 1, by omega⟩
  rw [hn, blocksF, if_pos h]
  exact blocksF_enough K _ _ _ _ (by simp; omega) (by simp)
theorem blocks_short (K : Nat → UInt32) (s : W8) (l : List UInt8) (h : l.length < 64) : blocks K s l = (s, l) := by
  unfold blocks
  cases hl : l.length with
  | zero => simp [blocksF]
  | succ n => rw [blocksF, if_neg (by omega)]
theorem blocks_append (K : Nat → UInt32) : ∀ (n : Nat) (s : W8) (l b : List UInt8), l.length ≤ n → blocks K (blocks K s l).1 ((blocks K s l).2 ++ b) = blocks K s (l ++ b)
  | 0, s, l, b, h => by rw [blocks_short K s l (by omega)]
  | n + 1, s, l, b, h => by
    by_cases h64 : 64 ≤ l.length
    · rw [blocks_step K s l h64, blocks_append K n _ _ _ (by simp; omega), blocks_step K s (l ++ b) (by simp; omega)]
      rw [List.take_append_of_le_length h64, List.drop_append_of_le_length h64]
    · rw [blocks_short K s l (by omega)]
theorem blocks_rest (K : Nat → UInt32) : ∀ (n : Nat) (s : W8) (l : List UInt8), l.length ≤ n → (blocks K s l).2.length < 64 ∧ (blocks K s l).2.length = l.length % 64
  | 0, s, l, h => by rw [blocks_short K s l (by omega)]; simp; omega
  | n + 1, s, l, h => by
    by_cases h64 : 64 ≤ l.length
    · rw [blocks_step K s l h64]
      have := blocks_rest K n (compress K s (l.take 64)) (l.drop 64) (by simp; omega)
      simp at this
      refine ⟨this.1, by omega⟩
    · rw [blocks_short K s l (by omega)]
      simp; omega

/-- Object g is a hash of the words s, of bytes left and a count. ro: the block of the bytes left. -/
structure HashAt (w : World) (B g : Nat) (ro : Option Nat) (s : W8) (rest : List UInt8) (n : Nat) : Prop where
  low : B ≤ g
  cells : ∃ rv, w.heap[g]? = some (.cells (w32 s.list ++ [rv, .int .i64 (n : Int)]).toArray 136 (0, 0)) ∧ OB w B rv rest ∧ rv.ownBlock = ro

/-- .. of all these bytes. -/
def HashIs (w : World) (B g : Nat) (ro : Option Nat) (K : Nat → UInt32) (s0 : W8) (all : List UInt8) : Prop :=
  HashAt w B g ro (blocks K s0 all).1 (blocks K s0 all).2 all.length

theorem HashAt.ne {w : World} {B g : Nat} {ro : Option Nat} {s : W8} {rest : List UInt8} {n : Nat} (h : HashAt w B g ro s rest n) : ro ≠ some g := by
  obtain ⟨rv, h1, h2, h3⟩ := h.cells
  subst h3
  intro e
  rcases h2.2 with ⟨hv, _⟩ | ⟨g', o, cap, cur, hv, _, hh, _⟩
  · rw [hv] at e; simp [Value.ownBlock] at e
  · rw [hv] at e
    have : g' = g := by simpa [Value.ownBlock] using e
    subst this
    rw [h1] at hh
    injection hh with hh
    injection hh with _ hh
    exact absurd hh (by decide)
theorem HashAt.lt {w : World} {B g : Nat} {ro : Option Nat} {s : W8} {rest : List UInt8} {n : Nat} (h : HashAt w B g ro s rest n) : g < w.heap.size := by
  obtain ⟨rv, h1, h2, h3⟩ := h.cells
  exact (Array.getElem?_eq_some_iff.1 h1).1
theorem HashAt.rlt {w : World} {B g : Nat} {ro : Option Nat} {s : W8} {rest : List UInt8} {n : Nat} (h : HashAt w B g ro s rest n) : ∀ k, ro = some k → B ≤ k ∧ k < w.heap.size := by
  obtain ⟨rv, h1, h2, h3⟩ := h.cells
  subst h3
  exact fun k hk => h2.lt k hk
theorem HashAt.kept {w w' : World} {B g : Nat} {ro : Option Nat} {s : W8} {rest : List UInt8} {n : Nat} (h : HashAt w B g ro s rest n) {S : Nat → Prop} (hf : Fr S w w') (hg : ¬ S g) (hr : ∀ k, ro = some k → ¬ S k) : HashAt w' B g ro s rest n := by
  obtain ⟨rv, h1, h2, h3⟩ := h.cells
  exact ⟨h.low, rv, (hf.block g h.lt hg).trans h1, h2.keepB (fun k hk => hf.block k (h2.lt k hk).2 (hr k (h3 ▸ hk))), h3⟩

/-- The first words' cells. -/
def FirstCells (w : World) (s : W8) : Prop := ∀ k, k < 8 → w.cell? ⟨28, k, none⟩ = some (.int .u32 ((s.list.getD k 0).toNat : Int))
theorem FirstCells.keep {w w' : World} {s : W8} (h : FirstCells w s) (k : Keeps w w') : FirstCells w' s := fun i hi => k _ _ (h i hi)

set_option maxRecDepth 100000 in
theorem New_any (w : World) (s : W8) (K : Nat → UInt32) (h : FirstCells w s) :
    Calls Tryd.prog 78 #[] w fun e w' => e = .returned (.pointer (some ⟨w.heap.size, 0, none⟩)) ∧ HashIs w' w.heap.size w.heap.size none K s [] ∧ Below w.heap.size w w' := by
  have c0 := h 0 (by omega)
  have c1 := h 1 (by omega)
  have c2 := h 2 (by omega)
  have c3 := h 3 (by omega)
  have c4 := h 4 (by omega)
  have c5 := h 5 (by omega)
  have c6 := h 6 (by omega)
  have c7 := h 7 (by omega)
  clear h
  go_enter Tryd.func78, Tryd.ntmps78
  go_wp2
  go_ret
  refine ⟨rfl, ⟨Nat.le_refl _, _, heap_alloc_new w _, OB.nil _ _, rfl⟩, (Below.refl _ w).alloc (Nat.le_refl _) _⟩
end Go.Proofs.YtjodehdmafagoaaDoor
