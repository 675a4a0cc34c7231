/- WatchBehind, proved for every input: behind whatever creates, updates, deletes and compactions of a store that its model goes along with, a watcher of all namespaces that has gone on up to the store's revision refuses another, fresh store with an error of range as soon as that revision is above zero, keeping its cursor; and goes on without an error where the revision is zero. More than 40 acts, data beyond 300 bytes and names or namespaces beyond 100 bytes are let go by the law's own guard -/
import Derived.Test.YtdhbpajamlfacaaGreatDoorWho
import Derived.Test.YtdhbpajamlfacaaGreatDoorWr
import Derived.Test.YtdhbpajamlfacaaGreatDoorCards
import Derived.Test.YtdhbpajamlfacaaGreatDoorTie
import Derived.SevenTiedAt
import Derived.Test.YtdhbpajamlfacaaGreatDoorRows
namespace Go.Proofs.YtdhbpajamlfacaaGreatDoor.watchBehind
open Go.RowKit Go.ChangeShapes Go.WideShapes Go.ChangeAt
theorem paramsOk:∀t∈Tryz.f3.params.toList,Tryz.prog.readableRec t=true∧t<Tryz.prog.types.size:=by
  have h:(Tryz.f3.params.toList.all fun t=>Tryz.prog.readableRec t&&decide (t<Tryz.prog.types.size))=true:=by kernel_rfl
  intro t ht
  have:=List.all_eq_true.1 h t ht
  simpa using this
theorem specFn {H:Type}:∀ds:List (DataW H),ds.length=Tryz.f3.params.size→Rows.watchBehindSpec.fn H ds={results:=[.lit (.bool true)],args:=ds}:=by
  intro ds hd
  rw[Tryz.params3] at hd
  match ds,hd with
  | [d1,d2],_=>rfl
set_option maxRecDepth 100000 in
theorem lifted (os:Os) (started:os.Started) (H:Type) (enc:TypeId×Value→H):
    ReturnsInHanded {} Tryz.checked os 3 .any (fun w args=>(Rows.watchBehindSpec.pre enc Tryz.prog Tryz.f3 [] false w args∧laidMetH Tryz.prog Rows.watchBehindRow.laid w)∧sizedMet enc Tryz.prog Tryz.f3 (OpenSpec.ofChange Rows.watchBehindSpec) false w args)
      (Rows.watchBehindSpec.post enc Tryz.prog Tryz.f3 false true false false):=by
  refine returnsInHanded_of_change_and (C:=Tryz.checked) (X:=fun w _=>laidMetH Tryz.prog Rows.watchBehindRow.laid w) (fun _ _ _ hh h=>h.of_heap hh) own started (by kernel_rfl) Tryz.func3
    (ChangeSpec.witness_shaped (enc:=enc) (C:=Tryz.checked) (os:=os) (X:=fun w _=>laidMetH Tryz.prog Rows.watchBehindRow.laid w) false (World.doorLaid Tryz.prog 551 os) #[.slice none 0 0,.int .i64 0] 8 rfl (World.shaped_of_RefB (by kernel_rfl) (by kernel_rfl)) (by kernel_rfl) (by kernel_rfl) (by kernel_rfl)
      (laidMetH_of_parts3 (fuel:=8) (laidMet_of_run' 8 (by kernel_rfl) (by kernel_rfl)) (by kernel_rfl) (by kernel_rfl))) ?_
  intro W base args ds gs before hval hW _ _ hL _
  have hW':=hW
  obtain⟨p,q,hA,_,_,_,_⟩:=hW
  refine(watchBehind_contract hval hA hL).mono fun e W' ⟨he,hb⟩=> ?_
  subst he
  exact⟨_,rfl,DI laidOut paramsOk rfl (by kernel_rfl) Tryz.underlying4 specFn hW' hb⟩
theorem j1:(Rows.watchBehindRow.inPlace==Tryz.prog.inPlace 3)=true:=by kernel_rfl
theorem j2:(Rows.watchBehindRow.unfollowed==Tryz.prog.unfollowed 3)=true:=by kernel_rfl
theorem j3:(Rows.watchBehindRow.recurses==Tryz.prog.recurses 3)=true:=by kernel_rfl
theorem j4:(Rows.watchBehindRow.named==Tryz.prog.varsNamed 3)=true:=by kernel_rfl
theorem closed:joinedFacts Tryz.prog 3 Tryz.f3 Rows.watchBehindSpec Rows.watchBehindRow=true:=by
  unfold joinedFacts
  rw[j1,j2,j3,j4]
  kernel_rfl
theorem said:Rows.WatchBehindSaid:=
  OpenClaim.holds_of_wide 3 Tryz.f3 rfl rfl rfl rfl rfl rfl rfl ⟨rfl,rfl,rfl,rfl,rfl⟩ rfl rfl rfl rfl rfl (by kernel_rfl) Tryz.func3 closed
    (of_decide_eq_true (by kernel_rfl)) (by unfold Func.isWrapper;first | (rw[if_pos (by decide+kernel)];kernel_rfl) | (rw[if_neg (by decide+kernel)];exact⟨rfl,rfl⟩))
    (fun os started H enc _=>lifted os started H enc)
theorem plain (f:FuncId) (fn:Func) (hf:Tryz.pinned.checked.prog.funcNamed "bulla/bullalaw21.WatchBehind" =some f) (hfn:Tryz.pinned.checked.prog.funcs[f]?=some fn):
    true=Tryz.pinned.checked.prog.looks []∧∀(j:Nat) t,fn.params[j]?=some t→Tryz.pinned.checked.prog.wantsStandIn t=false:=by
  obtain rfl:f=3:=Option.some.inj ((show Tryz.prog.funcNamed "bulla/bullalaw21.WatchBehind" =some 3 by kernel_rfl).symm.trans hf) |>.symm
  obtain rfl:fn=Tryz.f3:=(Option.some.inj (Tryz.func3.symm.trans hfn)).symm
  refine⟨by kernel_rfl,fun j t ht=> ?_⟩
  have hall:(Tryz.f3.params.all fun u=> !Tryz.prog.wantsStandIn u)=true:=by kernel_rfl
  exact(show Tryz.prog.wantsStandIn t=false by simpa using Array.all_eq_true_iff_forall_mem.1 hall t (Array.mem_of_getElem? ht))
theorem card:Rows.WatchBehindCardSaid:=
  Claim7.holds_tied_plain_at .later [] _ _ _ _ said (fun _ h=>by cases h) (by kernel_rfl) (fun _ h=>by cases h) watchBehind_row_tie rfl ⟨rfl,rfl⟩ (by kernel_rfl) rfl plain (by kernel_rfl)
#print axioms card
end Go.Proofs.YtdhbpajamlfacaaGreatDoor.watchBehind
