/- Rows of one-cell values in memory, read; two rows compared. -/
import Derived.Test.YtfmagnpmjlppiaaGreatDoorBase
import Derived.Test.YtfmagnpmjlppiaaGreatDoorRows
namespace Go.Proofs.YtfmagnpmjlppiaaGreatDoor
open Go.RowKit

/-- The slice header (A, n) reads as the values xs, a cell each. -/
def RX (w : World) (A : Option Addr) (n : Nat) (xs : List Value) : Prop :=
  xs.length = n ∧ (0 < n → ∃ b o, A = some ⟨b, o, none⟩ ∧ ∀ k, k < n → w.cell? ⟨b, o + k, none⟩ = some (xs.getD k undef))

theorem RX.of_ownS {w : World} {base e n c : Nat} {A : Option Addr} {xs : List Value} (h : OwnS w base e 1 (.slice A n c) n xs) : RX w A n xs := by
  have hl : xs.length = n := by have := h.1; omega
  refine ⟨hl, fun hn => ?_⟩
  obtain ⟨g, o, cap, hv, _, _, hc⟩ := h.cells (by omega)
  injection hv with hA _ _
  subst hA
  refine ⟨g, o, rfl, fun k hk => hc k _ ?_⟩
  rw [List.getD_eq_getElem?_getD, List.getElem?_eq_getElem (by omega)]
  rfl

end Go.Proofs.YtfmagnpmjlppiaaGreatDoor
