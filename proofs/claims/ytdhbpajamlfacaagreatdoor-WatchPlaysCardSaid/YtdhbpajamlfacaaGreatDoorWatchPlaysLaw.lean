/- WatchPlays, proved for every input: a watcher of any kind, of one namespace or of all, that goes on at whatever acts among creates, updates, deletes and compactions of a store, and as a copy at others, finds, reports and knows at each step what the document's watcher over the document's store does, whatever room the disk has. Beyond 40 acts, 300 bytes of data, 100 of a name or namespace nothing is said -/
import Derived.Test.YtdhbpajamlfacaaGreatDoorZeros
import Derived.Test.YtdhbpajamlfacaaGreatDoorZr
import Derived.Test.YtdhbpajamlfacaaGreatDoorCards
import Derived.Test.YtdhbpajamlfacaaGreatDoorTie
import Derived.SevenTiedAt
import Derived.Test.YtdhbpajamlfacaaGreatDoorRows
namespace Go.Proofs.YtdhbpajamlfacaaGreatDoor.watchPlays
open Go.RowKit Go.ChangeShapes Go.WideShapes Go.ChangeAt
theorem paramsOk:∀t∈Tryz.f5.params.toList,Tryz.prog.readableRec t=true∧t<Tryz.prog.types.size:=by
  have h:(Tryz.f5.params.toList.all fun t=>Tryz.prog.readableRec t&&decide (t<Tryz.prog.types.size))=true:=by kernel_rfl
  intro t ht
  have:=List.all_eq_true.1 h t ht
  simpa using this
theorem specFn {H:Type}:∀ds:List (DataW H),ds.length=Tryz.f5.params.size→Rows.watchPlaysSpec.fn H ds={results:=[.lit (.bool true)],args:=ds}:=by
  intro ds hd
  rw[Tryz.params5] at hd
  match ds,hd with
  | [d1,d2,d3],_=>rfl
set_option maxRecDepth 100000 in
theorem lifted (os:Os) (started:os.Started) (H:Type) (enc:TypeId×Value→H):
    ReturnsInHanded {} Tryz.checked os 5 .any (fun w args=>(Rows.watchPlaysSpec.pre enc Tryz.prog Tryz.f5 [] false w args∧laidMetH Tryz.prog Rows.watchPlaysRow.laid w)∧sizedMet enc Tryz.prog Tryz.f5 (OpenSpec.ofChange Rows.watchPlaysSpec) false w args)
      (Rows.watchPlaysSpec.post enc Tryz.prog Tryz.f5 false true false false):=by
  refine returnsInHanded_of_change_and (C:=Tryz.checked) (X:=fun w _=>laidMetH Tryz.prog Rows.watchPlaysRow.laid w) (fun _ _ _ hh h=>h.of_heap hh) own started (by kernel_rfl) Tryz.func5
    (ChangeSpec.witness_shaped (enc:=enc) (C:=Tryz.checked) (os:=os) (X:=fun w _=>laidMetH Tryz.prog Rows.watchPlaysRow.laid w) false (World.doorLaid Tryz.prog 551 os) #[.agg #[.int .i64 0,.string ⟨#[]⟩,.bool false],.int .i64 0,.slice none 0 0] 8 rfl (World.shaped_of_RefB (by kernel_rfl) (by kernel_rfl)) (by kernel_rfl) (by kernel_rfl) (by kernel_rfl)
      (laidMetH_of_parts3 (fuel:=8) (laidMet_of_run' 8 (by kernel_rfl) (by kernel_rfl)) (by kernel_rfl) (by kernel_rfl))) ?_
  intro W base args ds gs before hval hW _ _ hL _
  have hW':=hW
  obtain⟨p,q,hA,_,_,_,_⟩:=hW
  refine(watchPlays_contract hval hA hL).mono fun e W' ⟨he,hb⟩=> ?_
  subst he
  exact⟨_,rfl,QC laidOut paramsOk rfl (by kernel_rfl) Tryz.underlying4 specFn hW' hb⟩
theorem j1:(Rows.watchPlaysRow.inPlace==Tryz.prog.inPlace 5)=true:=by kernel_rfl
theorem j2:(Rows.watchPlaysRow.unfollowed==Tryz.prog.unfollowed 5)=true:=by kernel_rfl
theorem j3:(Rows.watchPlaysRow.recurses==Tryz.prog.recurses 5)=true:=by kernel_rfl
theorem j4:(Rows.watchPlaysRow.named==Tryz.prog.varsNamed 5)=true:=by kernel_rfl
theorem closed:joinedFacts Tryz.prog 5 Tryz.f5 Rows.watchPlaysSpec Rows.watchPlaysRow=true:=by
  unfold joinedFacts
  rw[j1,j2,j3,j4]
  kernel_rfl
theorem said:Rows.WatchPlaysSaid:=
  OpenClaim.holds_of_wide 5 Tryz.f5 rfl rfl rfl rfl rfl rfl rfl ⟨rfl,rfl,rfl,rfl,rfl⟩ rfl rfl rfl rfl rfl (by kernel_rfl) Tryz.func5 closed
    (of_decide_eq_true (by kernel_rfl)) (by unfold Func.isWrapper;first | (rw[if_pos (by decide+kernel)];kernel_rfl) | (rw[if_neg (by decide+kernel)];exact⟨rfl,rfl⟩))
    (fun os started H enc _=>lifted os started H enc)
theorem plain (f:FuncId) (fn:Func) (hf:Tryz.pinned.checked.prog.funcNamed "bulla/bullalaw21.WatchPlays" =some f) (hfn:Tryz.pinned.checked.prog.funcs[f]?=some fn):
    true=Tryz.pinned.checked.prog.looks []∧∀(j:Nat) t,fn.params[j]?=some t→Tryz.pinned.checked.prog.wantsStandIn t=false:=by
  obtain rfl:f=5:=Option.some.inj ((show Tryz.prog.funcNamed "bulla/bullalaw21.WatchPlays" =some 5 by kernel_rfl).symm.trans hf) |>.symm
  obtain rfl:fn=Tryz.f5:=(Option.some.inj (Tryz.func5.symm.trans hfn)).symm
  refine⟨by kernel_rfl,fun j t ht=> ?_⟩
  have hall:(Tryz.f5.params.all fun u=> !Tryz.prog.wantsStandIn u)=true:=by kernel_rfl
  exact(show Tryz.prog.wantsStandIn t=false by simpa using Array.all_eq_true_iff_forall_mem.1 hall t (Array.mem_of_getElem? ht))
theorem card:Rows.WatchPlaysCardSaid:=
  Claim7.holds_tied_plain_at .later [] _ _ _ _ said (fun _ h=>by cases h) (by kernel_rfl) (fun _ h=>by cases h) watchPlays_row_tie rfl ⟨rfl,rfl⟩ (by kernel_rfl) rfl plain (by kernel_rfl)
#print axioms card
end Go.Proofs.YtdhbpajamlfacaaGreatDoor.watchPlays
