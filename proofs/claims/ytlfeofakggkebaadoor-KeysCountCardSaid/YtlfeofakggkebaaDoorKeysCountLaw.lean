/- KeysCount, proved for every input: a signature counts only as that of what was signed, with the same key, domain and message; longer lists, domains and messages are passed by. Condition: the listed errors and tables hold what the program lays (tied by the card). -/
import Derived.Test.YtlfeofakggkebaaDoorLaw
import Derived.Test.YtlfeofakggkebaaDoorCountL
import Derived.Test.YtlfeofakggkebaaDoorCards
import Derived.Test.YtlfeofakggkebaaDoorTie
import Derived.SevenTiedAt
import Derived.Test.YtlfeofakggkebaaDoorRows
namespace Go.Proofs.YtlfeofakggkebaaDoor
open Go.RowKit Go.ChangeShapes Go.WideShapes Go.ChangeAt Go.Deep

theorem KeysCount_any (A : Option Addr) (n c : Nat) (l : List Sgn) (ask : Sgn) (w : World) (hl : RSgn w A n l) (hask : SgnOk w ask) {ea : Nat → Addr} (hE : Errs w ea) (ht : ShaTabs w) :
    Calls Tryd.prog 4 #[.slice A n c, .agg #[.int .i64 ask.key, .string ask.dom, ask.v]] w fun e w' => e = .returned (.bool true) ∧ Below w.heap.size w w' := by
  by_cases h : 20 < n ∨ overS ask = true
  · exact KeysCount_long A n c ask w hE ht h
  · exact KeysCount_short A n c l ask w hl hask hE ht (by omega) (by cases ho : overS ask with | false => rfl | true => exact absurd (.inr ho) h)

set_option maxRecDepth 100000 in
theorem keysCount_contract {H : Type} {enc : TypeId × Value → H} {W : World} {base : Nat} {args : Array Value} {ds : List (DataW H)} {p : List MemPlace}
    (hval : ∀ (j : Nat) t v, Tryd.f4.params[j]? = some t → args[j]? = some v → Value.okWide Tryd.prog W .any base t v)
    (hA : DataW.TrodAll enc Tryd.prog W 0 (fun _ => true) true Tryd.f4.params.toList args.toList ds p) (hL : laidMetH Tryd.prog Rows.keysCountRow.laid W) :
    Calls Tryd.prog 4 args W fun e w' => e = .returned (.bool true) ∧ Below W.heap.size W w' := by
  rw [Tryd.params4] at hA hval
  obtain ⟨v0, v1, d0, d1, p0, p1, rfl, rfl, rfl, ⟨f0, h0⟩, ⟨f1, h1⟩⟩ := trodAll_two hA
  obtain ⟨a0, n0, c0, rfl⟩ := okWide_slice Tryd.underlying34 (hval 0 _ v0 rfl rfl)
  obtain ⟨cs, rfl, hcs⟩ := okWide_struct Tryd.underlying36 (hval 1 _ v1 rfl rfl)
  obtain ⟨A, n, c, l, e, hl, hc, hm⟩ := open_sgns h0
  obtain ⟨cr, rfl, hs0⟩ := open_sgn h1
  obtain ⟨ea, he⟩ := Errs.of_laid hL (by kernel_rfl) (by kernel_rfl)
  rw [e]
  exact KeysCount_any A n c l cr W hl hs0 he (ShaTabs.of_laid hL (by kernel_rfl) (by simp [Rows.keysCountRow]) (by simp [Rows.keysCountRow]))
end Go.Proofs.YtlfeofakggkebaaDoor
namespace Go.Proofs.YtlfeofakggkebaaDoor.keysCount
open Go.RowKit Go.ChangeShapes Go.WideShapes Go.ChangeAt

theorem paramsOk : ∀ t ∈ Tryd.f4.params.toList, Tryd.prog.readableRec t = true ∧ t < Tryd.prog.types.size := by
  have h : (Tryd.f4.params.toList.all fun t => Tryd.prog.readableRec t && decide (t < Tryd.prog.types.size)) = true := by kernel_rfl
  intro t ht
  have := List.all_eq_true.1 h t ht
  simpa using this

theorem specFn {H : Type} : ∀ ds : List (DataW H), ds.length = Tryd.f4.params.size → Rows.keysCountSpec.fn H ds = { results := [.lit (.bool true)], args := ds } := by
  intro ds hd
  rw [Tryd.params4] at hd
  match ds, hd with
  | [d1, d2], _ => rfl

set_option maxRecDepth 100000 in
theorem lifted (os : Os) (started : os.Started) (H : Type) (enc : TypeId × Value → H) :
    ReturnsInHanded {} Tryd.checked os 4 .any (fun w args => (Rows.keysCountSpec.pre enc Tryd.prog Tryd.f4 [] false w args ∧ laidMetH Tryd.prog Rows.keysCountRow.laid w) ∧ sizedMet enc Tryd.prog Tryd.f4 (OpenSpec.ofChange Rows.keysCountSpec) false w args)
      (Rows.keysCountSpec.post enc Tryd.prog Tryd.f4 false true false false) := by
  refine returnsInHanded_of_change_and (C := Tryd.checked) (X := fun w _ => laidMetH Tryd.prog Rows.keysCountRow.laid w) (fun _ _ _ hh h => h.of_heap hh) own started (by kernel_rfl) Tryd.func4
    (ChangeSpec.witness_shaped (enc := enc) (C := Tryd.checked) (os := os) (X := fun w _ => laidMetH Tryd.prog Rows.keysCountRow.laid w) false (World.doorLaid Tryd.prog 551 os) #[.slice none 0 0, .agg #[.int .i64 0, .string ⟨#[]⟩, .slice none 0 0]] 8 rfl (World.shaped_of_RefB (by kernel_rfl) (by kernel_rfl)) (by kernel_rfl) (by kernel_rfl) (by kernel_rfl)
      (laidMetH_of_parts3 (fuel := 8) (laidMet_of_run' 8 (by kernel_rfl) (by kernel_rfl)) (by kernel_rfl) (by kernel_rfl))) ?_
  intro W base args ds gs before hval hW _ _ hL _
  have hW' := hW
  obtain ⟨p, q, hA, _, _, _, _⟩ := hW
  refine (keysCount_contract hval hA hL).mono fun e W' ⟨he, hb⟩ => ?_
  subst he
  exact ⟨_, rfl, law_post laidOut paramsOk rfl (by kernel_rfl) Tryd.underlying4 specFn hW' hb⟩

theorem said : Rows.KeysCountSaid :=
  OpenClaim.holds_of_wide 4 Tryd.f4 rfl rfl rfl rfl rfl rfl rfl ⟨rfl, rfl, rfl, rfl, rfl⟩ rfl rfl rfl rfl rfl (by kernel_rfl) Tryd.func4 (by kernel_rfl)
    (of_decide_eq_true (by kernel_rfl)) (by unfold Func.isWrapper; first | (rw [if_pos (by decide +kernel)]; kernel_rfl) | (rw [if_neg (by decide +kernel)]; exact ⟨rfl, rfl⟩))
    (fun os started H enc _ => lifted os started H enc)

theorem plain (f : FuncId) (fn : Func) (hf : Tryd.pinned.checked.prog.funcNamed "bulla/bullalaw10.KeysCount" = some f) (hfn : Tryd.pinned.checked.prog.funcs[f]? = some fn) :
    true = Tryd.pinned.checked.prog.looks [] ∧ ∀ (j : Nat) t, fn.params[j]? = some t → Tryd.pinned.checked.prog.wantsStandIn t = false := by
  obtain rfl : f = 4 := Option.some.inj ((show Tryd.prog.funcNamed "bulla/bullalaw10.KeysCount" = some 4 by kernel_rfl).symm.trans hf) |>.symm
  obtain rfl : fn = Tryd.f4 := (Option.some.inj (Tryd.func4.symm.trans hfn)).symm
  refine ⟨by kernel_rfl, fun j t ht => ?_⟩
  have hall : (Tryd.f4.params.all fun u => !Tryd.prog.wantsStandIn u) = true := by kernel_rfl
  exact (show Tryd.prog.wantsStandIn t = false by simpa using Array.all_eq_true_iff_forall_mem.1 hall t (Array.mem_of_getElem? ht))

theorem card : Rows.KeysCountCardSaid :=
  Claim7.holds_tied_plain_at .later [] _ _ _ _ said (fun _ h => by cases h) (by kernel_rfl) (fun _ h => by cases h) keysCount_row_tie rfl ⟨rfl, rfl⟩ (by kernel_rfl) rfl plain (by kernel_rfl)
#print axioms card
end Go.Proofs.YtlfeofakggkebaaDoor.keysCount
