/- StorePower, proved for every input: wherever the power goes, and whatever of what waits is kept, who opens the store anew finds every change that was answered, and of the one that was under way all or nothing; what was last changed stands as it was told, or is gone. More than 40 acts, texts beyond 9000 bytes and names beyond 100 are passed by. Condition: the listed errors and tables hold what the program lays (tied by the card). -/
import Derived.Test.YtfmagnpmjlppiaaGreatDoorLaw
import Derived.Test.YtfmagnpmjlppiaaGreatDoorSpL
import Derived.Test.YtfmagnpmjlppiaaGreatDoorCards
import Derived.Test.YtfmagnpmjlppiaaGreatDoorTie
import Derived.SevenTiedAt
import Derived.Test.YtfmagnpmjlppiaaGreatDoorRows
namespace Go.Proofs.YtfmagnpmjlppiaaGreatDoor.storePower
open Go.RowKit Go.ChangeShapes Go.WideShapes Go.ChangeAt

theorem paramsOk : ∀ t ∈ Tryz.f3.params.toList, Tryz.prog.readableRec t = true ∧ t < Tryz.prog.types.size := by
  have h : (Tryz.f3.params.toList.all fun t => Tryz.prog.readableRec t && decide (t < Tryz.prog.types.size)) = true := by kernel_rfl
  intro t ht
  have := List.all_eq_true.1 h t ht
  simpa using this

theorem specFn {H : Type} : ∀ ds : List (DataW H), ds.length = Tryz.f3.params.size → Rows.storePowerSpec.fn H ds = { results := [.lit (.bool true)], args := ds } := by
  intro ds hd
  rw [Tryz.params3] at hd
  match ds, hd with
  | [d1, d2, d3], _ => rfl

set_option maxRecDepth 100000 in
theorem lifted (os : Os) (started : os.Started) (H : Type) (enc : TypeId × Value → H) :
    ReturnsInHanded {} Tryz.checked os 3 .any (fun w args => (Rows.storePowerSpec.pre enc Tryz.prog Tryz.f3 [] false w args ∧ laidMetH Tryz.prog Rows.storePowerRow.laid w) ∧ sizedMet enc Tryz.prog Tryz.f3 (OpenSpec.ofChange Rows.storePowerSpec) false w args)
      (Rows.storePowerSpec.post enc Tryz.prog Tryz.f3 false true false false) := by
  refine returnsInHanded_of_change_and (C := Tryz.checked) (X := fun w _ => laidMetH Tryz.prog Rows.storePowerRow.laid w) (fun _ _ _ hh h => h.of_heap hh) own started (by kernel_rfl) Tryz.func3
    (ChangeSpec.witness_shaped (enc := enc) (C := Tryz.checked) (os := os) (X := fun w _ => laidMetH Tryz.prog Rows.storePowerRow.laid w) false (World.doorLaid Tryz.prog 551 os) #[.slice none 0 0, .int .i64 0, .agg #[.int .i64 0, .int .i64 0, .int .i64 0, .int .u64 0, .int .i64 0, .string ⟨#[]⟩, .string ⟨#[]⟩, .int .i64 0, .slice none 0 0, .bool false]] 8 rfl (World.shaped_of_RefB (by kernel_rfl) (by kernel_rfl)) (by kernel_rfl) (by kernel_rfl) (by kernel_rfl)
      (laidMetH_of_parts3 (fuel := 8) (laidMet_of_run' 8 (by kernel_rfl) (by kernel_rfl)) (by kernel_rfl) (by kernel_rfl))) ?_
  intro W base args ds gs before hval hW _ _ hL _
  have hW' := hW
  obtain ⟨p, q, hA, _, _, _, _⟩ := hW
  refine (storePower_contract hval hA hL).mono fun e W' ⟨he, hb⟩ => ?_
  subst he
  exact ⟨_, rfl, law_post laidOut paramsOk rfl (by kernel_rfl) Tryz.underlying4 specFn hW' hb⟩

theorem j1 : (Rows.storePowerRow.inPlace == Tryz.prog.inPlace 3) = true := by kernel_rfl
theorem j2 : (Rows.storePowerRow.unfollowed == Tryz.prog.unfollowed 3) = true := by kernel_rfl
theorem j3 : (Rows.storePowerRow.recurses == Tryz.prog.recurses 3) = true := by kernel_rfl
theorem j4 : (Rows.storePowerRow.named == Tryz.prog.varsNamed 3) = true := by kernel_rfl
theorem closed : joinedFacts Tryz.prog 3 Tryz.f3 Rows.storePowerSpec Rows.storePowerRow = true := by
  unfold joinedFacts
  rw [j1, j2, j3, j4]
  kernel_rfl

theorem said : Rows.StorePowerSaid :=
  OpenClaim.holds_of_wide 3 Tryz.f3 rfl rfl rfl rfl rfl rfl rfl ⟨rfl, rfl, rfl, rfl, rfl⟩ rfl rfl rfl rfl rfl (by kernel_rfl) Tryz.func3 closed
    (of_decide_eq_true (by kernel_rfl)) (by unfold Func.isWrapper; first | (rw [if_pos (by decide +kernel)]; kernel_rfl) | (rw [if_neg (by decide +kernel)]; exact ⟨rfl, rfl⟩))
    (fun os started H enc _ => lifted os started H enc)

theorem plain (f : FuncId) (fn : Func) (hf : Tryz.pinned.checked.prog.funcNamed "bulla/bullalaw20.StorePower" = some f) (hfn : Tryz.pinned.checked.prog.funcs[f]? = some fn) :
    true = Tryz.pinned.checked.prog.looks [] ∧ ∀ (j : Nat) t, fn.params[j]? = some t → Tryz.pinned.checked.prog.wantsStandIn t = false := by
  obtain rfl : f = 3 := Option.some.inj ((show Tryz.prog.funcNamed "bulla/bullalaw20.StorePower" = some 3 by kernel_rfl).symm.trans hf) |>.symm
  obtain rfl : fn = Tryz.f3 := (Option.some.inj (Tryz.func3.symm.trans hfn)).symm
  refine ⟨by kernel_rfl, fun j t ht => ?_⟩
  have hall : (Tryz.f3.params.all fun u => !Tryz.prog.wantsStandIn u) = true := by kernel_rfl
  exact (show Tryz.prog.wantsStandIn t = false by simpa using Array.all_eq_true_iff_forall_mem.1 hall t (Array.mem_of_getElem? ht))

theorem card : Rows.StorePowerCardSaid :=
  Claim7.holds_tied_plain_at .later [] _ _ _ _ said (fun _ h => by cases h) (by kernel_rfl) (fun _ h => by cases h) storePower_row_tie rfl ⟨rfl, rfl⟩ (by kernel_rfl) rfl plain (by kernel_rfl)
#print axioms card
end Go.Proofs.YtfmagnpmjlppiaaGreatDoor.storePower
