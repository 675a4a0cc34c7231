/- keys.Ring in memory; New, Signed. -/
import Derived.Test.YtlfeofakggkebaaDoorMapE
import Derived.Carry
namespace Go.Proofs.YtlfeofakggkebaaDoor
open Go.RowKit Go.Instr

/-- Block g is a ring: keys ks (by their names), entries es signed. -/
structure Ring (w : World) (g a b : Nat) (ks : List (ByteArray × Value)) (es : List (ByteArray × ByteArray)) : Prop where
  row : w.heap[g]? = some (.cells #[.map (some a), .map (some b)] 117 (0, 0))
  keys : SM w a ks
  ents : EM w b es
  ab : a ≠ b

theorem KNew_any (w : World) : Calls Tryd.prog 16 #[] w fun e w' => e = .returned (.pointer (some ⟨w.heap.size + 2, 0, none⟩)) ∧ Ring w' (w.heap.size + 2) w.heap.size (w.heap.size + 1) [] [] ∧ Below w.heap.size w w' := by
  have hmm := @run_makeMap Tryd.prog
  go_enter Tryd.func16, Tryd.ntmps16
  go_wp2
  go_ret
  have B1 := (Below.refl w.heap.size w).alloc (Nat.le_refl _) (.map #[] 0)
  have B2 := B1.alloc B1.size (.map #[] 0)
  have h1 : (w.alloc (.map #[] 0)).heap[w.heap.size]? = some (.map #[] 0) := heap_alloc_new w _
  have h2 : ((w.alloc (.map #[] 0)).alloc (.map #[] 0)).heap[w.heap.size + 1]? = some (.map #[] 0) := by
    have := heap_alloc_new (w.alloc (.map #[] 0)) (.map #[] 0)
    simpa using this
  have h3 : (((w.alloc (.map #[] 0)).alloc (.map #[] 0)).alloc (.cells #[.map (some w.heap.size), .map (some (w.heap.size + 1))] 117)).heap[w.heap.size + 2]? = some (.cells #[.map (some w.heap.size), .map (some (w.heap.size + 1))] 117 (0, 0)) := by
    have := heap_alloc_new ((w.alloc (.map #[] 0)).alloc (.map #[] 0)) (.cells #[.map (some w.heap.size), .map (some (w.heap.size + 1))] 117)
    simpa using this
  refine ⟨rfl, ⟨h3, ⟨#[], 0, ?_, rfl⟩, ⟨#[], 0, ?_, rfl⟩, by omega⟩, B2.alloc B2.size _⟩
  · exact ((((Below.refl _ _).alloc (Nat.le_refl _) _).alloc (by simp) _).block w.heap.size (by simp)).trans h1
  · exact (((Below.refl _ _).alloc (Nat.le_refl _) _).block (w.heap.size + 1) (by simp)).trans h2
end Go.Proofs.YtlfeofakggkebaaDoor
