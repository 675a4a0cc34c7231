/- Arguments that are lists of structs of one-cell fields: read field by field. -/
import Derived.Test.YtjodehdmafagoaaDoorLaw0
namespace Go.Proofs.YtjodehdmafagoaaDoor
open Go.RowKit Go.ChangeShapes Go.WideShapes Go.ChangeAt Go.Deep

section
variable {H : Type} {enc : TypeId × Value → H} {P : Program} {w : World} {base : Nat} {spare : Nat → Bool} {held : Bool}

/-- The fields' types and places. -/
def fieldsOf (P : Program) (e : TypeId) : Option (List (TypeId × Nat)) := match P.underlying e with
  | some (.struct fs) => some (fs.toList.map fun f => (f.type, f.offset))
  | _ => none

theorem open_fields {e : TypeId} {tys : List TypeId} (he : fieldsOf P e = some tys.zipIdx) (h1 : ∀ T ∈ tys, P.cellsOf T = 1) {fuel : Nat} {cs : List Value} {x : DataW H × List MemPlace} (h : DataW.trod enc P w base spare held fuel e cs = some x) :
    cs.length = P.cellsOf e ∧ ∃ n, ∀ j T, tys[j]? = some T → j < cs.length → ∃ y, DataW.trod enc P w base spare held n T [cs.getD j undef] = some y := by
  unfold fieldsOf at he
  split at he
  · rename_i fs hu
    obtain ⟨xs, n, rfl, hx, hcl, hxl, hf⟩ := DataW.trod_struct hu h
    refine ⟨hcl, n, fun j T hj hlt => ?_⟩
    have hz : fs.toList.map (fun f => (f.type, f.offset)) = tys.zipIdx := Option.some.inj he
    have hjl : j < tys.length := (List.getElem?_eq_some_iff.1 hj).1
    have hsz : fs.size = tys.length := by have := congrArg List.length hz; simpa using this
    have hfj : fs[j]? = some fs[j] := Array.getElem?_eq_getElem (by omega)
    have hp : (fs[j].type, fs[j].offset) = (T, j) := by
      have := congrArg (fun l => l[j]?) hz
      simp only [List.getElem?_map, List.getElem?_zipIdx, hj, Option.map_some, Array.getElem?_toList, hfj] at this
      have := Option.some.inj this
      rw [this]
      simp
    have hT : fs[j].type = T := congrArg Prod.fst hp
    have ho : fs[j].offset = j := congrArg Prod.snd hp
    have := hf j fs[j] hfj
    rw [hT, ho, h1 T (List.mem_of_getElem? hj)] at this
    have e1 : (cs.drop j).take 1 = [cs.getD j undef] := by
      rw [List.getD_eq_getElem?_getD, List.getElem?_eq_getElem hlt, List.drop_eq_getElem_cons hlt]
      rfl
    rw [e1] at this
    exact ⟨xs[j]'(by omega), by rw [this, List.getElem?_eq_getElem]⟩
  · cases he

theorem open_structs {t e : TypeId} {tys : List TypeId} (ht : P.underlying t = some (.slice e)) (he : fieldsOf P e = some tys.zipIdx) (ce : P.cellsOf e = tys.length) (h1 : ∀ T ∈ tys, P.cellsOf T = 1) (hpos : 0 < tys.length)
    {fuel : Nat} {v : Value} {x : DataW H × List MemPlace} (h : DataW.trod enc P w base spare held fuel t [v] = some x) :
    ∃ (A : Option Addr) (len cap : Nat) (V : Nat → Nat → Value), v = .slice A len cap ∧ len ≤ cap ∧ cap ≤ maxLen ∧ (0 < len → ∃ b o, A = some ⟨b, o, none⟩ ∧
      ∀ i, i < len → ∃ n, ∀ j T, tys[j]? = some T → w.cell? ⟨b, o + (i * tys.length + j), none⟩ = some (V i j) ∧ ∃ y, DataW.trod enc P w base spare held n T [V i j] = some y) := by
  rcases open_slice ht h with ⟨e0, _⟩ | ⟨a, len, cap, m, n, D, Pl, e0, hb, hl, hm, hmm, _, hx⟩
  · injection e0 with e0 _
    exact ⟨none, 0, 0, fun _ _ => undef, e0, Nat.le_refl _, by unfold maxLen; omega, fun h => absurd h (by omega)⟩
  injection e0 with e0 _
  subst e0
  have each : ∀ i, i < len → ∃ cs : List Value, (∀ j, j < tys.length → w.cell? (a.add (i * tys.length + j)) = some (cs.getD j undef)) ∧ ∃ n, ∀ j T, tys[j]? = some T → ∃ y, DataW.trod enc P w base spare held n T [cs.getD j undef] = some y := by
    intro i hi
    obtain ⟨cs, h2, h3⟩ := hx i (by rw [hmm]; split <;> omega)
    rw [ce] at h2
    obtain ⟨_, hlen, hcell⟩ := World.cells?_some h2
    obtain ⟨_, n', hn'⟩ := open_fields he h1 h3
    refine ⟨cs, fun j hj => ?_, n', fun j T hj => hn' j T hj (by have := (List.getElem?_eq_some_iff.1 hj).1; omega)⟩
    have := hcell j hj
    rw [add_add] at this
    rw [this, List.getD_eq_getElem?_getD, List.getElem?_eq_getElem (by omega)]
    rfl
  obtain ⟨q, hq⟩ := choose_lt each
  refine ⟨some a, len, cap, fun i j => (q i).getD j undef, rfl, hl, hm, fun h0 => ?_⟩
  obtain ⟨b, o, rfl⟩ := addr_form (by have := (hq 0 h0).1 0 hpos; simpa using this)
  refine ⟨b, o, rfl, fun i hi => ?_⟩
  obtain ⟨h2, n', h3⟩ := hq i hi
  refine ⟨n', fun j T hj => ⟨?_, h3 j T hj⟩⟩
  have := h2 j (List.getElem?_eq_some_iff.1 hj).1
  rwa [addr_add] at this
end
end Go.Proofs.YtjodehdmafagoaaDoor
