/- WatchKnows: its contract over whatever can be read. -/
import Derived.Test.YtdhbpajamlfacaaGreatDoorYd
import Derived.Test.YtdhbpajamlfacaaGreatDoorWs
set_option maxRecDepth 100000
namespace Go.Proofs.YtdhbpajamlfacaaGreatDoor
open Go.RowKit Go.ChangeShapes Go.WideShapes Go.ChangeAt Go.Deep
theorem Il:fieldsOf Tryz.prog 50=some [(3,0),(9,1),(4,2)]:=by kernel_rfl
theorem MG:Tryz.prog.cellsOf 50=3:=by kernel_rfl
theorem CB:Tryz.prog.cellsOf 4=1:=by kernel_rfl
theorem QV {H:Type} {enc:TypeId×Value→H} {W:World} {held:Bool} {fuel:Nat} {cs:List Value} {x:DataW H×List MemPlace} (h:DataW.trod enc Tryz.prog W 0 (fun _=>true) held fuel 50 cs=some x):
  ∃(kind:Int) (space:ByteArray) (all:Bool),cs=[.int .i64 kind,.string space,.bool all]:=by
 obtain⟨hl,n,hf⟩:=l7 Il h
 rw[MG] at hl
 match cs,hl with
 | [c0,c1,c2],_=>
  obtain⟨y0,t0⟩:=hf 0 _ _ rfl
  obtain⟨y1,t1⟩:=hf 1 _ _ rfl
  obtain⟨y2,t2⟩:=hf 2 _ _ rfl
  rw[nX] at t0
  rw[uH] at t1
  rw[CB] at t2
  obtain⟨k0,e0,_,_⟩:=DataW.trod_int Tryz.underlying3 t0
  obtain⟨k1,e1,_,_⟩:=DataW.trod_string Tryz.underlying9 t1
  obtain⟨k2,e2,_⟩:=DataW.trod_bool Tryz.underlying4 t2
  injection (show [c0]=_ from e0) with e0 _
  injection (show [c1]=_ from e1) with e1 _
  injection (show [c2]=_ from e2) with e2 _
  exact⟨k0,k1,k2,by rw[e0,e1,e2]⟩
theorem watchKnows_contract {H:Type} {enc:TypeId×Value→H} {W:World} {base:Nat} {args:Array Value} {ds:List (DataW H)} {p:List MemPlace}
  (hval:∀(j:Nat) t v,Tryz.f4.params[j]?=some t→args[j]?=some v→Value.okWide Tryz.prog W .any base t v)
  (hA:DataW.TrodAll enc Tryz.prog W 0 (fun _=>true) true Tryz.f4.params.toList args.toList ds p) (hL:laidMetH Tryz.prog Rows.watchKnowsRow.laid W):
  Calls Tryz.prog 4 args W fun e w'=>e=.returned (.bool true)∧Below W.heap.size W w':=by
 rw[Tryz.params4] at hA hval
 obtain⟨v0,v1,d0,d1,p0,p1,rfl,rfl,rfl,⟨f0,h0⟩,⟨f1,h1⟩⟩:=trodAll_two hA
 obtain⟨cs,rfl,hcs⟩:=okWide_struct Tryz.underlying50 (hval 0 _ v0 rfl rfl)
 obtain⟨a0,n0,c0,rfl⟩:=okWide_slice Tryz.underlying22 (hval 1 _ v1 rfl rfl)
 obtain⟨B,m,d,l,e',ha,hc',hm'⟩:=uI h1
 obtain⟨kind,space,all,e1⟩:=QV h0
 obtain⟨ea,he⟩:=Errs.of_laid hL (by kernel_rfl) (by kernel_rfl)
 have hs:=dS.of_laid hL (by kernel_rfl) (by simp[Rows.watchKnowsRow]) (by simp[Rows.watchKnowsRow])
 obtain rfl:cs=#[.int .i64 kind,.string space,.bool all]:=Array.toList_inj.1 e1
 rw[e']
 exact WatchKnows_any kind space all B m d l W ha (Cz hc' hm') (EW.Jl he hs) he
end Go.Proofs.YtdhbpajamlfacaaGreatDoor
