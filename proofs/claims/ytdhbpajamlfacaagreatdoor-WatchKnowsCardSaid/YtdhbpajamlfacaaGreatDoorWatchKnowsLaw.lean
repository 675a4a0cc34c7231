/- WatchKnows, proved for every input: a watcher of one kind and one namespace that goes on behind each of whatever creates, updates, deletes and compactions of a store knows, behind the last, just what the store lists, at the store's revision; and another watcher that goes on only once, at the end, knows the same. The document's store goes along and answers alike. More than 40 acts, data beyond 300 bytes and names or namespaces beyond 100 bytes are let go by the law's own guard -/
import Derived.Test.YtdhbpajamlfacaaGreatDoorWho
import Derived.Test.YtdhbpajamlfacaaGreatDoorYe
import Derived.Test.YtdhbpajamlfacaaGreatDoorCards
import Derived.Test.YtdhbpajamlfacaaGreatDoorTie
import Derived.SevenTiedAt
import Derived.Test.YtdhbpajamlfacaaGreatDoorRows
namespace Go.Proofs.YtdhbpajamlfacaaGreatDoor.watchKnows
open Go.RowKit Go.ChangeShapes Go.WideShapes Go.ChangeAt
theorem paramsOk:∀t∈Tryz.f4.params.toList,Tryz.prog.readableRec t=true∧t<Tryz.prog.types.size:=by
  have h:(Tryz.f4.params.toList.all fun t=>Tryz.prog.readableRec t&&decide (t<Tryz.prog.types.size))=true:=by kernel_rfl
  intro t ht
  have:=List.all_eq_true.1 h t ht
  simpa using this
theorem specFn {H:Type}:∀ds:List (DataW H),ds.length=Tryz.f4.params.size→Rows.watchKnowsSpec.fn H ds={results:=[.lit (.bool true)],args:=ds}:=by
  intro ds hd
  rw[Tryz.params4] at hd
  match ds,hd with
  | [d1,d2],_=>rfl
set_option maxRecDepth 100000 in
theorem lifted (os:Os) (started:os.Started) (H:Type) (enc:TypeId×Value→H):
    ReturnsInHanded {} Tryz.checked os 4 .any (fun w args=>(Rows.watchKnowsSpec.pre enc Tryz.prog Tryz.f4 [] false w args∧laidMetH Tryz.prog Rows.watchKnowsRow.laid w)∧sizedMet enc Tryz.prog Tryz.f4 (OpenSpec.ofChange Rows.watchKnowsSpec) false w args)
      (Rows.watchKnowsSpec.post enc Tryz.prog Tryz.f4 false true false false):=by
  refine returnsInHanded_of_change_and (C:=Tryz.checked) (X:=fun w _=>laidMetH Tryz.prog Rows.watchKnowsRow.laid w) (fun _ _ _ hh h=>h.of_heap hh) own started (by kernel_rfl) Tryz.func4
    (ChangeSpec.witness_shaped (enc:=enc) (C:=Tryz.checked) (os:=os) (X:=fun w _=>laidMetH Tryz.prog Rows.watchKnowsRow.laid w) false (World.doorLaid Tryz.prog 551 os) #[.agg #[.int .i64 0,.string ⟨#[]⟩,.bool false],.slice none 0 0] 8 rfl (World.shaped_of_RefB (by kernel_rfl) (by kernel_rfl)) (by kernel_rfl) (by kernel_rfl) (by kernel_rfl)
      (laidMetH_of_parts3 (fuel:=8) (laidMet_of_run' 8 (by kernel_rfl) (by kernel_rfl)) (by kernel_rfl) (by kernel_rfl))) ?_
  intro W base args ds gs before hval hW _ _ hL _
  have hW':=hW
  obtain⟨p,q,hA,_,_,_,_⟩:=hW
  refine(watchKnows_contract hval hA hL).mono fun e W' ⟨he,hb⟩=> ?_
  subst he
  exact⟨_,rfl,DI laidOut paramsOk rfl (by kernel_rfl) Tryz.underlying4 specFn hW' hb⟩
theorem j1:(Rows.watchKnowsRow.inPlace==Tryz.prog.inPlace 4)=true:=by kernel_rfl
theorem j2:(Rows.watchKnowsRow.unfollowed==Tryz.prog.unfollowed 4)=true:=by kernel_rfl
theorem j3:(Rows.watchKnowsRow.recurses==Tryz.prog.recurses 4)=true:=by kernel_rfl
theorem j4:(Rows.watchKnowsRow.named==Tryz.prog.varsNamed 4)=true:=by kernel_rfl
theorem closed:joinedFacts Tryz.prog 4 Tryz.f4 Rows.watchKnowsSpec Rows.watchKnowsRow=true:=by
  unfold joinedFacts
  rw[j1,j2,j3,j4]
  kernel_rfl
theorem said:Rows.WatchKnowsSaid:=
  OpenClaim.holds_of_wide 4 Tryz.f4 rfl rfl rfl rfl rfl rfl rfl ⟨rfl,rfl,rfl,rfl,rfl⟩ rfl rfl rfl rfl rfl (by kernel_rfl) Tryz.func4 closed
    (of_decide_eq_true (by kernel_rfl)) (by unfold Func.isWrapper;first | (rw[if_pos (by decide+kernel)];kernel_rfl) | (rw[if_neg (by decide+kernel)];exact⟨rfl,rfl⟩))
    (fun os started H enc _=>lifted os started H enc)
theorem plain (f:FuncId) (fn:Func) (hf:Tryz.pinned.checked.prog.funcNamed "bulla/bullalaw21.WatchKnows" =some f) (hfn:Tryz.pinned.checked.prog.funcs[f]?=some fn):
    true=Tryz.pinned.checked.prog.looks []∧∀(j:Nat) t,fn.params[j]?=some t→Tryz.pinned.checked.prog.wantsStandIn t=false:=by
  obtain rfl:f=4:=Option.some.inj ((show Tryz.prog.funcNamed "bulla/bullalaw21.WatchKnows" =some 4 by kernel_rfl).symm.trans hf) |>.symm
  obtain rfl:fn=Tryz.f4:=(Option.some.inj (Tryz.func4.symm.trans hfn)).symm
  refine⟨by kernel_rfl,fun j t ht=> ?_⟩
  have hall:(Tryz.f4.params.all fun u=> !Tryz.prog.wantsStandIn u)=true:=by kernel_rfl
  exact(show Tryz.prog.wantsStandIn t=false by simpa using Array.all_eq_true_iff_forall_mem.1 hall t (Array.mem_of_getElem? ht))
theorem card:Rows.WatchKnowsCardSaid:=
  Claim7.holds_tied_plain_at .later [] _ _ _ _ said (fun _ h=>by cases h) (by kernel_rfl) (fun _ h=>by cases h) watchKnows_row_tie rfl ⟨rfl,rfl⟩ (by kernel_rfl) rfl plain (by kernel_rfl)
#print axioms card
end Go.Proofs.YtdhbpajamlfacaaGreatDoor.watchKnows
