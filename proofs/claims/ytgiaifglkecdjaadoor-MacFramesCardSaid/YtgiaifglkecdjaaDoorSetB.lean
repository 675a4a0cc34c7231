/- A byte stored into a slice of the call's own; arrays of 32 bytes compared. -/
import Derived.Test.YtgiaifglkecdjaaDoorBytes
import Derived.Stop.BytesEq
import Derived.Laws.StructEq
namespace Go.Proofs.YtgiaifglkecdjaaDoor
open Go.RowKit

theorem OB.setB {w : World} {B g o n cap k : Nat} {l : List UInt8} (x : UInt8) (h : OB w B (.slice (some ⟨g, o, none⟩) n cap) l) (hn : l.length = n) (_hk : k < n) :
    w.frozen? ⟨g, o + k, none⟩ = false ∧ OB (w.setCell ⟨g, o + k, none⟩ (.int .u8 (x.toNat : Int))) B (.slice (some ⟨g, o, none⟩) n cap) (l.set k x) := by
  obtain ⟨h1, h2⟩ := h
  rcases h2 with ⟨h2, _⟩ | ⟨g', o', cap', cur, h2, h3, h4, h5, h6, h7, h8⟩
  · cases h2
  · injection h2 with e1 e2 e3
    injection e1 with e1
    injection e1 with e4 e5
    subst e4; subst e5; subst e3
    refine ⟨frozen_of_row _ _ _ _ _ h4, ?_, .inr ⟨_, _, _, _, by rw [List.length_set, hn], h3, heap_setCell_same _ _ _ _ _ _ h4, by rw [List.length_set]; exact h5, h6, by simpa using h7, ?_⟩⟩
    · rw [bcells_length, Nat.mul_one]
    · rw [List.length_set, Array.toList_setIfInBounds, List.drop_set, if_neg (by omega), List.take_set, h8]
      simp [bcells, List.map_set]

theorem neq_bytes (w : World) (dg : List UInt8) (h : dg.length = 32) : (binOp .neq 57 (.agg (bcells dg).toArray) (.agg (bcells dg).toArray)).run Tryd.prog w = .ok (.bool false) w := by
  rw [run_neq_struct]
  have h1 := run_equalIn_bytes (P := Tryd.prog) w 9998 57 5 32 Tryd.underlying57 Tryd.underlying5 (fun _ => by kernel_rfl) dg dg h h
  rw [beq_self_eq_true] at h1
  have e : (Op.equalIn 10000 57 (.agg (bcells dg).toArray) (.agg (bcells dg).toArray)).run Tryd.prog w = .ok true w := h1
  rw [e]
  rfl

end Go.Proofs.YtgiaifglkecdjaaDoor
