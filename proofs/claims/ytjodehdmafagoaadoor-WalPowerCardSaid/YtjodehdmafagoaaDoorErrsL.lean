/- All of the document's errors, out of a row's list. -/
import Derived.Test.YtjodehdmafagoaaDoorIs
namespace Go.Proofs.YtjodehdmafagoaaDoor
open Go.RowKit

def errName (n : Nat) : String := ["", "bulla/api.ErrRange", "bulla/api.ErrShort", "bulla/api.ErrLong", "bulla/api.ErrForm", "bulla/api.ErrTag", "bulla/api.ErrDepth", "bulla/api.ErrOrder", "bulla/api.ErrText", "bulla/api.ErrName", "bulla/api.ErrKey", "bulla/api.ErrProof", "bulla/api.ErrSign", "bulla/api.ErrExpired", "bulla/api.ErrEarly", "bulla/api.ErrUsage", "bulla/api.ErrIssuer", "bulla/api.ErrRevoked", "bulla/api.ErrNone", "bulla/api.ErrExists", "bulla/api.ErrStale", "bulla/api.ErrQuota", "bulla/api.ErrDenied", "bulla/api.ErrAuth", "bulla/api.ErrState", "bulla/api.ErrDown", "bulla/api.ErrFull", "bulla/api.ErrCorrupt", "bulla/api.ErrBusy"].getD n ""

def isErrB : DataW Unit → Bool
  | .iface n (.ptr (.agg [.lit (.string _)])) => n == "*errors.errorString"
  | _ => false
theorem isErr_of {d : DataW Unit} (h : isErrB d = true) : isErr d := by
  unfold isErrB at h
  split at h
  · rename_i n t
    rw [beq_iff_eq] at h
    exact ⟨t, by rw [h]⟩
  · cases h

/-- Does a list hold all 28? -/
def errsIn (L : List (String × DataW Unit)) : Bool := (List.range 28).all fun k => L.any fun x => x.1 == errName (k + 1) && isErrB x.2

theorem errs_named : ((List.range 28).all fun k => (Tryd.prog.globalNamed (errName (k + 1)) == some (errG (k + 1))) && ((Tryd.prog.globals[errG (k + 1)]?).map (·.type) == some 28)) = true := by kernel_rfl
theorem errs_apart : ((List.range 28).all fun k => (List.range 28).all fun j => (k == j) || !(errName (k + 1) == errName (j + 1))) = true := by kernel_rfl

theorem Errs.of_laid {L : List (String × DataW Unit)} {W : World} (h : laidMetH Tryd.prog L W) (hp : (L.all fun x => x.2.handleName?.isNone) = true) (hc : errsIn L = true) : ∃ ea, Errs W ea := by
  have hm : ∀ n, 1 ≤ n → n ≤ 28 → ∃ d, (errName n, d) ∈ L ∧ isErr d := by
    intro n h1 h2
    have := List.all_eq_true.1 hc (n - 1) (by simp; omega)
    rw [show n - 1 + 1 = n by omega] at this
    obtain ⟨x, hx, hy⟩ := List.any_eq_true.1 this
    rw [Bool.and_eq_true, beq_iff_eq] at hy
    exact ⟨x.2, by rw [← hy.1]; exact hx, isErr_of hy.2⟩
  have hg : ∀ n, 1 ≤ n → n ≤ 28 → Tryd.prog.globalNamed (errName n) = some (errG n) ∧ (Tryd.prog.globals[errG n]?).map (·.type) = some 28 := by
    intro n h1 h2
    have := List.all_eq_true.1 errs_named (n - 1) (by simp; omega)
    rw [show n - 1 + 1 = n by omega, Bool.and_eq_true, beq_iff_eq, beq_iff_eq] at this
    exact this
  have hn : ∀ n m, 1 ≤ n → n ≤ 28 → 1 ≤ m → m ≤ 28 → n ≠ m → errName n ≠ errName m := by
    intro n m h1 h2 h3 h4 hne
    have := List.all_eq_true.1 (List.all_eq_true.1 errs_apart (n - 1) (by simp; omega)) (m - 1) (by simp; omega)
    rw [show n - 1 + 1 = n by omega, show m - 1 + 1 = m by omega, Bool.or_eq_true, beq_iff_eq, Bool.not_eq_true', beq_eq_false_iff_ne] at this
    rcases this with h | h
    · omega
    · exact h
  have hex : ∀ n, ∃ a, 1 ≤ n → n ≤ 28 → ErrAt W (errG n) a := by
    intro n
    by_cases hh : 1 ≤ n ∧ n ≤ 28
    · obtain ⟨d, h1, h2⟩ := hm n hh.1 hh.2
      obtain ⟨a, ha⟩ := err_of_laid h hp h1 h2 (hg n hh.1 hh.2).1 (hg n hh.1 hh.2).2
      exact ⟨a, fun _ _ => ha⟩
    · exact ⟨⟨0, 0, none⟩, fun h1 h2 => absurd ⟨h1, h2⟩ hh⟩
  refine ⟨fun n => Classical.choose (hex n), fun n h1 h2 => (Classical.choose_spec (hex n) h1 h2).cell, fun n h1 h2 => (Classical.choose_spec (hex n) h1 h2).block, fun n m h1 h2 h3 h4 hne => ?_⟩
  obtain ⟨d, m1, e1⟩ := hm n h1 h2
  obtain ⟨d', m2, e2⟩ := hm m h3 h4
  exact apart_of_laid h hp m1 m2 e1 e2 (hg n h1 h2).1 (hg m h3 h4).1 (hg n h1 h2).2 (hg m h3 h4).2 (Classical.choose_spec (hex n) h1 h2) (Classical.choose_spec (hex m) h3 h4) (hn n m h1 h2 h3 h4 hne)
end Go.Proofs.YtjodehdmafagoaaDoor
