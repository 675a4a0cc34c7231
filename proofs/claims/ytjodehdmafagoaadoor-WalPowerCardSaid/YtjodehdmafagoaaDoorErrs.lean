/- The listed sentinel errors: what the row's list gives of their cells: each holds a pointer of its own. -/
import Derived.Test.YtjodehdmafagoaaDoorBase
import Derived.Test.YtjodehdmafagoaaDoorRows
import Derived.Stop.LaidErr
import Derived.LaidEql
import Derived.LaidMore
namespace Go.Proofs.YtjodehdmafagoaaDoor
open Go.RowKit

/-- An error out of errors.New, at address a. -/
def ErrVal (a : Addr) : Value := .iface 143 (.pointer (some a))

structure ErrAt (W : World) (g : Nat) (a : Addr) : Prop where
  cell : W.cell? ⟨g, 0, none⟩ = some (ErrVal a)
  block : ∃ c t, W.heap[a.block]? = some (.cells c t (0, 0))

theorem ErrAt.below {W W' : World} {g : Nat} {a : Addr} (h : ErrAt W g a) (hb : Below W.heap.size W W') : ErrAt W' g a := by
  obtain ⟨c, t, hc⟩ := h.block
  exact ⟨Keeps.of_below hb _ _ h.cell, c, t, by rw [hb.block a.block (Array.getElem?_eq_some_iff.1 hc).1]; exact hc⟩

theorem ErrAt.inj {W : World} {g : Nat} {a b : Addr} (h : ErrAt W g a) (k : ErrAt W g b) : a = b := by
  have := h.cell.symm.trans k.cell
  simpa [ErrVal] using this

def isErr (d : DataW Unit) : Prop := ∃ text, d = .iface "*errors.errorString" (.ptr (.agg [.lit (.string text)]))

theorem starErr : "*" ++ "errors.errorString" = "*errors.errorString" := by decide
theorem rowErr (u : TypeId) (h : Tryd.prog.typeName? 3 u = some "*errors.errorString") : u = 143 :=
  typeName_ptr_named (nm := "errors.errorString") (by rw [starErr]; kernel_rfl) (by kernel_rfl) (by decide) u (by rw [starErr]; exact h)
theorem cellsErr : Tryd.prog.cellsOf 167 = 1 := by kernel_rfl
theorem cellsStr : Tryd.prog.cellsOf 9 = 1 := by kernel_rfl

set_option maxRecDepth 100000 in
theorem laid_err {W : World} : ∀ {L : List (String × DataW Unit)} {ps : List MemPlace}, DataW.LaidVars Tryd.prog W L ps →
    (∀ b off, MemPlace.cell b off ∈ ps → (∃ c t, W.heap[b]? = some (.cells c t (0, 0))) ∧ ∀ u v, W.cell? ⟨b, off, none⟩ = some (.iface u v) → Value.okWide Tryd.prog W .any 0 u v) →
    ∀ {n : String} {d : DataW Unit} {g : Nat}, (n, d) ∈ L → isErr d → Tryd.prog.globalNamed n = some g → (Tryd.prog.globals[g]?).map (·.type) = some 28 →
    ∃ a, ErrAt W g a ∧ MemPlace.cell a.block a.off ∈ ps
  | [], _, _, _, _, _, _, hm, _, _, _ => by cases hm
  | (n0, d0) :: r, ps, h, hrows, n, d, g, hm, he, hg, ht => by
    obtain ⟨g0, t0, cs0, f0, p0, q0, hg0, ht0, hv0, hd0, hq, rfl⟩ := h
    rcases List.mem_cons.1 hm with e | hm
    · injection e with e1 e2
      subst e1; subst e2
      obtain rfl := Option.some.inj (hg.symm.trans hg0)
      obtain rfl := Option.some.inj (ht.symm.trans ht0)
      obtain ⟨text, rfl⟩ := he
      obtain ⟨l0⟩ := cs0
      have ok0 : ∀ u v, l0 = [.iface u v] → Value.okWide Tryd.prog W .any 0 u v := fun u v e => by
        subst e
        exact (hrows g 0 (by simp [MemPlace.row])).2 u v (by simpa using World.var?_cell hg0 hv0 0)
      obtain ⟨a0, s0, rfl, hc0, hs0, hz0, hp⟩ := errorString_of_trod Tryd.underlying28 rowErr Tryd.underlying143 Tryd.underlying167 rfl rfl Tryd.underlying9 cellsErr cellsStr hd0 ok0
      have hin : MemPlace.cell a0.block a0.off ∈ MemPlace.row ⟨g, 0, none⟩ (List.toArray [Value.iface 143 (.pointer (some a0))]).size ++ p0 ++ q0 := by
        rw [hp]
        simp [MemPlace.row]
      refine ⟨a0, ⟨?_, (hrows _ _ hin).1⟩, hin⟩
      have := World.var?_cell hg0 hv0 0
      simpa [ErrVal] using this
    · obtain ⟨a, h1, h2⟩ := laid_err hq (fun b off hb => hrows b off (List.mem_append_right _ hb)) hm he hg ht
      exact ⟨a, h1, List.mem_append_right _ h2⟩

set_option maxRecDepth 100000 in
/-- Two listed errors are two pointers. -/
theorem laid_apart {W : World} : ∀ {L : List (String × DataW Unit)} {ps : List MemPlace}, DataW.LaidVars Tryd.prog W L ps → ps.Nodup →
    (∀ b off, MemPlace.cell b off ∈ ps → (∃ c t, W.heap[b]? = some (.cells c t (0, 0))) ∧ ∀ u v, W.cell? ⟨b, off, none⟩ = some (.iface u v) → Value.okWide Tryd.prog W .any 0 u v) →
    ∀ {n n' : String} {d d' : DataW Unit} {g g' : Nat} {a a' : Addr}, (n, d) ∈ L → (n', d') ∈ L → isErr d → isErr d' → Tryd.prog.globalNamed n = some g → Tryd.prog.globalNamed n' = some g' →
    (Tryd.prog.globals[g]?).map (·.type) = some 28 → (Tryd.prog.globals[g']?).map (·.type) = some 28 → ErrAt W g a → ErrAt W g' a' → n ≠ n' → a ≠ a'
  | [], _, _, _, _, _, _, _, _, _, _, _, _, hm, _, _, _, _, _, _, _, _, _, _ => by cases hm
  | (n0, d0) :: r, ps, h, hnd, hrows, n, n', d, d', g, g', a, a', hm, hm', he, he', hg, hg', ht, ht', ha, ha', hne => by
    have h0 := h
    obtain ⟨g0, t0, cs0, f0, p0, q0, hg0, ht0, hv0, hd0, hq, rfl⟩ := h
    have hrows' := fun b off hb => hrows b off (List.mem_append_right (MemPlace.row ⟨g0, 0, none⟩ cs0.size ++ p0) hb)
    have head : ∀ {m : String} {e : DataW Unit} {k : Nat} {x : Addr}, (m, e) = (n0, d0) → isErr e → Tryd.prog.globalNamed m = some k → (Tryd.prog.globals[k]?).map (·.type) = some 28 → ErrAt W k x →
        MemPlace.cell x.block x.off ∈ MemPlace.row ⟨g0, 0, none⟩ cs0.size ++ p0 := by
      intro m e k x hme hee hk htk hx
      obtain ⟨y, hy, hin⟩ := laid_err (W := W) (L := [(n0, d0)]) (ps := MemPlace.row ⟨g0, 0, none⟩ cs0.size ++ p0 ++ []) ⟨g0, t0, cs0, f0, p0, [], hg0, ht0, hv0, hd0, rfl, rfl⟩
        (fun b off hb => hrows b off (List.mem_append_left _ (by simpa using hb))) (by rw [hme]; simp : (m, e) ∈ [(n0, d0)]) hee hk htk
      rw [hx.inj hy]
      simpa using hin
    have tail : ∀ {m : String} {e : DataW Unit} {k : Nat} {x : Addr}, (m, e) ∈ r → isErr e → Tryd.prog.globalNamed m = some k → (Tryd.prog.globals[k]?).map (·.type) = some 28 → ErrAt W k x → MemPlace.cell x.block x.off ∈ q0 := by
      intro m e k x hme hee hk htk hx
      obtain ⟨y, hy, hin⟩ := laid_err hq hrows' hme hee hk htk
      rw [hx.inj hy]
      exact hin
    have apart := (List.nodup_append.1 hnd).2.2
    rcases List.mem_cons.1 hm with e | hm <;> rcases List.mem_cons.1 hm' with e' | hm'
    · injection e with e1 _; injection e' with e2 _
      exact absurd (e1.trans e2.symm) hne
    · rintro rfl
      exact apart _ (head e he hg ht ha) _ (tail hm' he' hg' ht' ha') rfl
    · rintro rfl
      exact apart _ (head e' he' hg' ht' ha') _ (tail hm he hg ht ha) rfl
    · exact laid_apart hq (List.nodup_append.1 hnd).2.1 hrows' hm hm' he he' hg hg' ht ht' ha ha' hne

section
variable {L : List (String × DataW Unit)} {W : World}
theorem err_of_laid (h : laidMetH Tryd.prog L W) (hp : (L.all fun x => x.2.handleName?.isNone) = true) {n : String} {d : DataW Unit} {g : Nat} (hm : (n, d) ∈ L) (he : isErr d)
    (hg : Tryd.prog.globalNamed n = some g) (ht : (Tryd.prog.globals[g]?).map (·.type) = some 28) : ∃ a, ErrAt W g a := by
  rw [MakeChecks.laidMetH_plain _ _ _ hp] at h
  obtain ⟨ps, hv, _, hrows⟩ := h
  obtain ⟨a, ha, _⟩ := laid_err hv hrows hm he hg ht
  exact ⟨a, ha⟩
theorem apart_of_laid (h : laidMetH Tryd.prog L W) (hp : (L.all fun x => x.2.handleName?.isNone) = true) {n n' : String} {d d' : DataW Unit} {g g' : Nat} {a a' : Addr} (hm : (n, d) ∈ L) (hm' : (n', d') ∈ L) (he : isErr d) (he' : isErr d')
    (hg : Tryd.prog.globalNamed n = some g) (hg' : Tryd.prog.globalNamed n' = some g') (ht : (Tryd.prog.globals[g]?).map (·.type) = some 28) (ht' : (Tryd.prog.globals[g']?).map (·.type) = some 28)
    (ha : ErrAt W g a) (ha' : ErrAt W g' a') (hne : n ≠ n') : a ≠ a' := by
  rw [MakeChecks.laidMetH_plain _ _ _ hp] at h
  obtain ⟨ps, hv, hnd, hrows⟩ := h
  exact laid_apart hv hnd hrows hm hm' he he' hg hg' ht ht' ha ha' hne
end
end Go.Proofs.YtjodehdmafagoaaDoor
