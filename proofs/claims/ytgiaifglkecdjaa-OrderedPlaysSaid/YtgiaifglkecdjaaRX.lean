/- Rows of one-cell values in memory, read; two rows compared. -/
import Derived.Test.YtgiaifglkecdjaaOwn
import Derived.Test.YtgiaifglkecdjaaRows
namespace Go.Proofs.Ytgiaifglkecdjaa
open Go.RowKit

/-- The slice header (A, n) reads as the values xs, a cell each. -/
def RX (w : World) (A : Option Addr) (n : Nat) (xs : List Value) : Prop :=
  xs.length = n ∧ (0 < n → ∃ b o, A = some ⟨b, o, none⟩ ∧ ∀ k, k < n → w.cell? ⟨b, o + k, none⟩ = some (xs.getD k undef))

theorem RX.keep {w w' : World} {A n xs} (h : RX w A n xs) (k : Keeps w w') : RX w' A n xs :=
  ⟨h.1, fun hn => let ⟨b, o, e, hc⟩ := h.2 hn; ⟨b, o, e, fun i hi => k _ _ (hc i hi)⟩⟩
theorem RX.nil (w : World) (A : Option Addr) : RX w A 0 [] := ⟨rfl, fun h => absurd h (by omega)⟩

theorem RX.of_ownS {w : World} {base e n c : Nat} {A : Option Addr} {xs : List Value} (h : OwnS w base e 1 (.slice A n c) n xs) : RX w A n xs := by
  have hl : xs.length = n := by have := h.1; omega
  refine ⟨hl, fun hn => ?_⟩
  obtain ⟨g, o, cap, hv, _, _, hc⟩ := h.cells (by omega)
  injection hv with hA _ _
  subst hA
  refine ⟨g, o, rfl, fun k hk => hc k _ ?_⟩
  rw [List.getD_eq_getElem?_getD, List.getElem?_eq_getElem (by omega)]
  rfl

theorem getD_map {α : Type} (f : α → Value) (l : List α) (k : Nat) (h : k < l.length) : (l.map f).getD k undef = f l[k] := by
  rw [List.getD_eq_getElem?_getD, List.getElem?_eq_getElem (by simpa using h)]
  simp

theorem eq_of_all {α : Type} [Inhabited α] {l r : List α} {n : Nat} (hl : l.length = n) (hr : r.length = n) (h : ∀ j, j < n → l.getD j default = r.getD j default) : l = r := by
  refine List.ext_getElem (hl.trans hr.symm) fun i h1 h2 => ?_
  have := h i (by omega)
  rw [List.getD_eq_getElem?_getD, List.getD_eq_getElem?_getD, List.getElem?_eq_getElem h1, List.getElem?_eq_getElem h2] at this
  exact this
end Go.Proofs.Ytgiaifglkecdjaa
