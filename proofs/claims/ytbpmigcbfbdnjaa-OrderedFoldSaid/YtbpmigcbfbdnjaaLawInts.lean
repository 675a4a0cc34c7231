/- Arguments that are lists of ints: read as lists. -/
import Derived.Test.YtbpmigcbfbdnjaaLaw0
import Derived.Test.YtbpmigcbfbdnjaaRX
namespace Go.Proofs.Ytbpmigcbfbdnjaa
open Go.RowKit Go.ChangeShapes Go.WideShapes Go.ChangeAt Go.Deep

theorem cells_int : Try.prog.cellsOf 3 = 1 := by kernel_rfl

theorem open_ints1 {H : Type} {enc : TypeId × Value → H} {W : World} {held : Bool} {fuel : Nat} {v : Value} {x : DataW H × List MemPlace} (h : DataW.trod enc Try.prog W 0 (fun _ => true) held fuel 22 [v] = some x) :
    ∃ (A : Option Addr) (n c : Nat) (l : List Int), v = .slice A n c ∧ RX W A n (l.map (Value.int .i64)) ∧ n ≤ c ∧ c ≤ maxLen := by
  rcases open_slice1 Try.underlying22 cells_int h with ⟨e, _⟩ | ⟨a, len, cap, m, n, V, D, Pl, e, _, hl, hm, hmm, _, hx⟩
  · injection e with e _; subst e
    exact ⟨none, 0, 0, [], rfl, RX.nil W _, by omega, by unfold maxLen; omega⟩
  · injection e with e _; subst e
    have hx' : ∀ i, i < len → ∃ z : Int, W.cell? (a.add i) = some (.int .i64 z) := by
      intro i hi
      obtain ⟨h1, h2⟩ := hx i (by rw [hmm]; simp; omega)
      obtain ⟨z, e1, _, hw⟩ := DataW.trod_int Try.underlying3 h2
      injection e1 with e1 _
      rw [e1] at h1
      exact ⟨z, h1⟩
    obtain ⟨f, hf⟩ := choose_lt hx'
    refine ⟨some a, len, cap, (List.range len).map f, rfl, ⟨by simp, fun hn => ?_⟩, hl, hm⟩
    obtain ⟨b, o, rfl⟩ := addr_form (hf 0 hn)
    refine ⟨b, o, rfl, fun k hk => ?_⟩
    have := hf k hk
    rw [addr_add] at this
    rw [this, getD_map _ _ _ (by simpa using hk)]
    simp
end Go.Proofs.Ytbpmigcbfbdnjaa
