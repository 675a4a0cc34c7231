/- WatchBehind: its contract over whatever can be read. -/
import Derived.Test.YtdhbpajamlfacaaGreatDoorWq
import Derived.Test.YtdhbpajamlfacaaGreatDoorWs
namespace Go.Proofs.YtdhbpajamlfacaaGreatDoor
open Go.RowKit Go.ChangeShapes Go.WideShapes Go.ChangeAt Go.Deep
set_option maxRecDepth 100000 in
theorem watchBehind_contract {H:Type} {enc:TypeId×Value→H} {W:World} {base:Nat} {args:Array Value} {ds:List (DataW H)} {p:List MemPlace}
  (hval:∀(j:Nat) t v,Tryz.f3.params[j]?=some t→args[j]?=some v→Value.okWide Tryz.prog W .any base t v)
  (hA:DataW.TrodAll enc Tryz.prog W 0 (fun _=>true) true Tryz.f3.params.toList args.toList ds p) (hL:laidMetH Tryz.prog Rows.watchBehindRow.laid W):
  Calls Tryz.prog 3 args W fun e w'=>e=.returned (.bool true)∧Below W.heap.size W w':=by
 rw[Tryz.params3] at hA hval
 obtain⟨v0,v1,d0,d1,p0,p1,rfl,rfl,rfl,⟨f0,h0⟩,⟨f1,h1⟩⟩:=trodAll_two hA
 obtain⟨a0,n0,c0,rfl⟩:=okWide_slice Tryz.underlying22 (hval 0 _ v0 rfl rfl)
 obtain⟨room,rfl⟩:=okWide_int Tryz.underlying3 (hval 1 _ v1 rfl rfl)
 obtain⟨B,m,d,l,e',ha,hc',hm'⟩:=uI h0
 obtain⟨ea,he⟩:=Errs.of_laid hL (by kernel_rfl) (by kernel_rfl)
 have hs:=dS.of_laid hL (by kernel_rfl) (by simp[Rows.watchBehindRow]) (by simp[Rows.watchBehindRow])
 rw[e']
 exact WatchBehind_any B m d l room W ha (Cz hc' hm') (EW.Jl he hs) he
end Go.Proofs.YtdhbpajamlfacaaGreatDoor
