/- Arguments that are bytes, lists of bytes: read as lists. -/
import Derived.Test.YtjodehdmafagoaaDoorBytes
import Derived.Test.YtjodehdmafagoaaDoorLaw0
namespace Go.Proofs.YtjodehdmafagoaaDoor
open Go.RowKit Go.ChangeShapes Go.WideShapes Go.ChangeAt Go.Deep

theorem cells_u8 : Tryd.prog.cellsOf 5 = 1 := by kernel_rfl
theorem cells_bytes : Tryd.prog.cellsOf 31 = 1 := by kernel_rfl
/-! ### arguments read -/
section
variable {H : Type} {enc : TypeId × Value → H} {W : World} {held : Bool}

theorem open_sb {fuel : Nat} {v : Value} {x : DataW H × List MemPlace} (h : DataW.trod enc Tryd.prog W 0 (fun _ => true) held fuel 31 [v] = some x) : ∃ l, SB W v l := by
  rcases open_slice1 Tryd.underlying31 cells_u8 h with ⟨e, _⟩ | ⟨a, len, cap, m, n, V, D, Pl, e, _, hl, hm, hmm, _, hx⟩
  · injection e with e _; subst e
    exact ⟨[], SB.nil W⟩
  · injection e with e _; subst e
    have hx' : ∀ i, i < len → ∃ z : UInt8, W.cell? (a.add i) = some (.int .u8 z.toNat) := by
      intro i hi
      obtain ⟨h1, h2⟩ := hx i (by rw [hmm]; simp; omega)
      obtain ⟨z, e1, _, hw⟩ := DataW.trod_int Tryd.underlying5 h2
      injection e1 with e1 _
      rw [e1] at h1
      simp [Lit.wf, IntKind.min, IntKind.max, IntKind.signed, IntKind.bits] at hw
      exact ⟨UInt8.ofNat z.toNat, by rw [h1]; simp; omega⟩
    obtain ⟨f, hf⟩ := choose_lt hx'
    refine ⟨(List.range len).map f, SB.of_rb (n := len) ⟨by simp, fun hn => ?_⟩ hl hm⟩
    obtain ⟨b, o, rfl⟩ := addr_form (hf 0 hn)
    refine ⟨b, o, rfl, fun k hk => ?_⟩
    have := hf k hk
    rw [addr_add] at this
    simpa [hk] using this

theorem open_sbl {fuel : Nat} {v : Value} {x : DataW H × List MemPlace} (h : DataW.trod enc Tryd.prog W 0 (fun _ => true) held fuel 22 [v] = some x) :
    ∃ A n c ls, v = .slice A n c ∧ RBL W A n ls ∧ n ≤ c ∧ c ≤ maxLen := by
  rcases open_slice1 Tryd.underlying22 cells_bytes h with ⟨e, _⟩ | ⟨a, len, cap, m, n, V, D, Pl, e, _, hl, hm, hmm, _, hx⟩
  · injection e with e _; subst e
    exact ⟨none, 0, 0, [], rfl, RBL.nil _ _, by omega, by unfold maxLen; omega⟩
  · injection e with e _; subst e
    have hx' : ∀ i, i < len → ∃ z : List UInt8, ∃ u, W.cell? (a.add i) = some u ∧ SB W u z := by
      intro i hi
      obtain ⟨h1, h2⟩ := hx i (by rw [hmm]; simp; omega)
      obtain ⟨z, hz⟩ := open_sb h2
      exact ⟨z, _, h1, hz⟩
    obtain ⟨f, hf⟩ := choose_lt hx'
    refine ⟨some a, len, cap, (List.range len).map f, rfl, ⟨by simp, fun hn => ?_⟩, hl, hm⟩
    obtain ⟨u, h0, _⟩ := hf 0 hn
    obtain ⟨b, o, rfl⟩ := addr_form h0
    refine ⟨b, o, rfl, fun k hk => ?_⟩
    obtain ⟨u, h1, h2⟩ := hf k hk
    rw [addr_add] at h1
    exact ⟨u, h1, by simpa [hk] using h2⟩
end
end Go.Proofs.YtjodehdmafagoaaDoor
