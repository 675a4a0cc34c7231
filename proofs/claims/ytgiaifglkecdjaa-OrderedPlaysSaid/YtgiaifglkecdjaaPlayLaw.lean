/- OrderedPlays: what tables of texts answer, in every order; proved for every input -/
import Derived.Test.YtgiaifglkecdjaaLaw0
import Derived.Test.YtgiaifglkecdjaaPlayC
import Derived.Test.YtgiaifglkecdjaaRows
namespace Go.Proofs.Ytgiaifglkecdjaa.orderedPlays
open Go.RowKit Go.ChangeShapes Go.WideShapes Go.ChangeAt

theorem paramsOk : ∀ t ∈ Try.f3.params.toList, Try.prog.readableRec t = true ∧ t < Try.prog.types.size := by
  have h : (Try.f3.params.toList.all fun t => Try.prog.readableRec t && decide (t < Try.prog.types.size)) = true := by kernel_rfl
  intro t ht
  have := List.all_eq_true.1 h t ht
  simpa using this

theorem specFn {H : Type} : ∀ ds : List (DataW H), ds.length = Try.f3.params.size → Rows.orderedPlaysSpec.fn H ds = { results := [.lit (.bool true)], args := ds } := by
  intro ds hd
  rw [Try.params3] at hd
  match ds, hd with
  | [d1], _ => rfl

set_option maxRecDepth 100000 in
theorem lifted (os : Os) (started : os.Started) (H : Type) (enc : TypeId × Value → H) :
    ReturnsInHanded {} Try.checked os 3 .any (Rows.orderedPlaysSpec.pre6 enc Try.prog Try.f3 Rows.orderedPlaysRow.domain false) (Rows.orderedPlaysSpec.post enc Try.prog Try.f3 false true false false) := by
  refine returnsInHanded_of_change (C := Try.checked) own started (by kernel_rfl) Try.func3
    (ChangeSpec.witness6 (enc := enc) (C := Try.checked) false ⟨#[], #[.slice none 0 0], []⟩ 8 (by kernel_rfl) (by kernel_rfl) (by kernel_rfl) (by kernel_rfl)) ?_
  intro W base args ds gs before hval hW _ _
  have hW' := hW
  obtain ⟨p, q, hA, _, _, _, _⟩ := hW
  refine (orderedPlays_contract hval hA).mono fun e W' ⟨he, hb⟩ => ?_
  subst he
  exact ⟨_, rfl, law_post laidOut paramsOk rfl (by kernel_rfl) Try.underlying4 specFn hW' hb⟩

theorem said : Rows.OrderedPlaysSaid :=
  OpenClaim.holds_of_wide 3 Try.f3 rfl rfl rfl rfl rfl rfl rfl ⟨rfl, rfl, rfl, rfl, rfl⟩ rfl rfl rfl rfl rfl (by kernel_rfl) Try.func3 (by kernel_rfl)
    (of_decide_eq_true (by kernel_rfl)) (by unfold Func.isWrapper; first | (rw [if_pos (by decide +kernel)]; kernel_rfl) | (rw [if_neg (by decide +kernel)]; exact ⟨rfl, rfl⟩))
    (fun os started H enc _ => lifted os started H enc)

#print axioms said
end Go.Proofs.Ytgiaifglkecdjaa.orderedPlays
