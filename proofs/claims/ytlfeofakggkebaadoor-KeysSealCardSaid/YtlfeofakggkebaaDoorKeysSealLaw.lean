/- KeysSeal, proved for every input: what is tagged with one domain is sealed and opened as its bytes are signed and verified, and opens with no other domain; longer texts are passed by. Condition: the listed errors and tables hold what the program lays (tied by the card). -/
import Derived.Test.YtlfeofakggkebaaDoorLaw
import Derived.Test.YtlfeofakggkebaaDoorSealL
import Derived.Test.YtlfeofakggkebaaDoorCards
import Derived.Test.YtlfeofakggkebaaDoorTie
import Derived.SevenTiedAt
import Derived.Test.YtlfeofakggkebaaDoorRows
namespace Go.Proofs.YtlfeofakggkebaaDoor
open Go.RowKit Go.ChangeShapes Go.WideShapes Go.ChangeAt Go.Deep

theorem KeysSeal_any (s d o : ByteArray) (w : World) {ea : Nat → Addr} (hE : Errs w ea) (ht : ShaTabs w) :
    Calls Tryd.prog 5 #[.string s, .string d, .string o] w fun e w' => e = .returned (.bool true) ∧ Below w.heap.size w w' := by
  by_cases h : 200 < s.size ∨ 100 < d.size ∨ 100 < o.size
  · exact KeysSeal_long s d o w hE ht h
  cases hn : s.toList.isEmpty with
  | true =>
    have e : s = ⟨#[]⟩ := bytes_inj (by rw [List.isEmpty_iff.1 hn, ByteArray.toList_eq])
    rw [e]
    exact KeysSeal_none d o w hE ht (by omega) (by omega)
  | false =>
    cases hw : wordBad d.data.toList with
    | true => exact KeysSeal_bad s d o w hE ht (by omega) (by omega) (by omega) hn hw
    | false => exact KeysSeal_good s d o w hE ht (by omega) (by omega) (by omega) hn hw

set_option maxRecDepth 100000 in
theorem keysSeal_contract {H : Type} {enc : TypeId × Value → H} {W : World} {base : Nat} {args : Array Value} {ds : List (DataW H)} {p : List MemPlace}
    (hval : ∀ (j : Nat) t v, Tryd.f5.params[j]? = some t → args[j]? = some v → Value.okWide Tryd.prog W .any base t v)
    (hA : DataW.TrodAll enc Tryd.prog W 0 (fun _ => true) true Tryd.f5.params.toList args.toList ds p) (hL : laidMetH Tryd.prog Rows.keysSealRow.laid W) :
    Calls Tryd.prog 5 args W fun e w' => e = .returned (.bool true) ∧ Below W.heap.size W w' := by
  rw [Tryd.params5] at hA hval
  obtain ⟨v0, v1, v2, d0, d1, d2, p0, p1, p2, rfl, rfl, rfl, ⟨f0, h0⟩, ⟨f1, h1⟩, ⟨f2, h2⟩⟩ := trodAll_three hA
  obtain ⟨s0, rfl⟩ := okWide_string Tryd.underlying9 (hval 0 _ v0 rfl rfl)
  obtain ⟨s1, rfl⟩ := okWide_string Tryd.underlying9 (hval 1 _ v1 rfl rfl)
  obtain ⟨s2, rfl⟩ := okWide_string Tryd.underlying9 (hval 2 _ v2 rfl rfl)
  obtain ⟨ea, he⟩ := Errs.of_laid hL (by kernel_rfl) (by kernel_rfl)
  exact KeysSeal_any s0 s1 s2 W he (ShaTabs.of_laid hL (by kernel_rfl) (by simp [Rows.keysSealRow]) (by simp [Rows.keysSealRow]))
end Go.Proofs.YtlfeofakggkebaaDoor
namespace Go.Proofs.YtlfeofakggkebaaDoor.keysSeal
open Go.RowKit Go.ChangeShapes Go.WideShapes Go.ChangeAt

theorem paramsOk : ∀ t ∈ Tryd.f5.params.toList, Tryd.prog.readableRec t = true ∧ t < Tryd.prog.types.size := by
  have h : (Tryd.f5.params.toList.all fun t => Tryd.prog.readableRec t && decide (t < Tryd.prog.types.size)) = true := by kernel_rfl
  intro t ht
  have := List.all_eq_true.1 h t ht
  simpa using this

theorem specFn {H : Type} : ∀ ds : List (DataW H), ds.length = Tryd.f5.params.size → Rows.keysSealSpec.fn H ds = { results := [.lit (.bool true)], args := ds } := by
  intro ds hd
  rw [Tryd.params5] at hd
  match ds, hd with
  | [d1, d2, d3], _ => rfl

set_option maxRecDepth 100000 in
theorem lifted (os : Os) (started : os.Started) (H : Type) (enc : TypeId × Value → H) :
    ReturnsInHanded {} Tryd.checked os 5 .any (fun w args => (Rows.keysSealSpec.pre enc Tryd.prog Tryd.f5 [] false w args ∧ laidMetH Tryd.prog Rows.keysSealRow.laid w) ∧ sizedMet enc Tryd.prog Tryd.f5 (OpenSpec.ofChange Rows.keysSealSpec) false w args)
      (Rows.keysSealSpec.post enc Tryd.prog Tryd.f5 false true false false) := by
  refine returnsInHanded_of_change_and (C := Tryd.checked) (X := fun w _ => laidMetH Tryd.prog Rows.keysSealRow.laid w) (fun _ _ _ hh h => h.of_heap hh) own started (by kernel_rfl) Tryd.func5
    (ChangeSpec.witness_shaped (enc := enc) (C := Tryd.checked) (os := os) (X := fun w _ => laidMetH Tryd.prog Rows.keysSealRow.laid w) false (World.doorLaid Tryd.prog 551 os) #[.string ⟨#[]⟩, .string ⟨#[]⟩, .string ⟨#[]⟩] 8 rfl (World.shaped_of_RefB (by kernel_rfl) (by kernel_rfl)) (by kernel_rfl) (by kernel_rfl) (by kernel_rfl)
      (laidMetH_of_parts3 (fuel := 8) (laidMet_of_run' 8 (by kernel_rfl) (by kernel_rfl)) (by kernel_rfl) (by kernel_rfl))) ?_
  intro W base args ds gs before hval hW _ _ hL _
  have hW' := hW
  obtain ⟨p, q, hA, _, _, _, _⟩ := hW
  refine (keysSeal_contract hval hA hL).mono fun e W' ⟨he, hb⟩ => ?_
  subst he
  exact ⟨_, rfl, law_post laidOut paramsOk rfl (by kernel_rfl) Tryd.underlying4 specFn hW' hb⟩

theorem said : Rows.KeysSealSaid :=
  OpenClaim.holds_of_wide 5 Tryd.f5 rfl rfl rfl rfl rfl rfl rfl ⟨rfl, rfl, rfl, rfl, rfl⟩ rfl rfl rfl rfl rfl (by kernel_rfl) Tryd.func5 (by kernel_rfl)
    (of_decide_eq_true (by kernel_rfl)) (by unfold Func.isWrapper; first | (rw [if_pos (by decide +kernel)]; kernel_rfl) | (rw [if_neg (by decide +kernel)]; exact ⟨rfl, rfl⟩))
    (fun os started H enc _ => lifted os started H enc)

theorem plain (f : FuncId) (fn : Func) (hf : Tryd.pinned.checked.prog.funcNamed "bulla/bullalaw10.KeysSeal" = some f) (hfn : Tryd.pinned.checked.prog.funcs[f]? = some fn) :
    true = Tryd.pinned.checked.prog.looks [] ∧ ∀ (j : Nat) t, fn.params[j]? = some t → Tryd.pinned.checked.prog.wantsStandIn t = false := by
  obtain rfl : f = 5 := Option.some.inj ((show Tryd.prog.funcNamed "bulla/bullalaw10.KeysSeal" = some 5 by kernel_rfl).symm.trans hf) |>.symm
  obtain rfl : fn = Tryd.f5 := (Option.some.inj (Tryd.func5.symm.trans hfn)).symm
  refine ⟨by kernel_rfl, fun j t ht => ?_⟩
  have hall : (Tryd.f5.params.all fun u => !Tryd.prog.wantsStandIn u) = true := by kernel_rfl
  exact (show Tryd.prog.wantsStandIn t = false by simpa using Array.all_eq_true_iff_forall_mem.1 hall t (Array.mem_of_getElem? ht))

theorem card : Rows.KeysSealCardSaid :=
  Claim7.holds_tied_plain_at .later [] _ _ _ _ said (fun _ h => by cases h) (by kernel_rfl) (fun _ h => by cases h) keysSeal_row_tie rfl ⟨rfl, rfl⟩ (by kernel_rfl) rfl plain (by kernel_rfl)
#print axioms card
end Go.Proofs.YtlfeofakggkebaaDoor.keysSeal
