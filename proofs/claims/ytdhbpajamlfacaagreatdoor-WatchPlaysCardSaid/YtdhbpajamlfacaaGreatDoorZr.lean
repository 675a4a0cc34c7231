/- What is laid, read (digests' tables). -/
import Derived.Test.YtdhbpajamlfacaaGreatDoorWl
import Derived.Test.YtdhbpajamlfacaaGreatDoorZc
import Derived.Lib.LaidTab
import Derived.Test.YtdhbpajamlfacaaGreatDoorRows
import Derived.Test.YtdhbpajamlfacaaGreatDoorZq
set_option maxRecDepth 100000
namespace Go.Proofs.YtdhbpajamlfacaaGreatDoor
open Go.RowKit Go.ChangeShapes Go.WideShapes Go.ChangeAt Go.Deep
theorem laid_tab {W:World}:∀{L:List (String×DataW Unit)} {ps:List MemPlace},DataW.LaidVars Tryz.prog W L ps→
  ∀{name:String} {k:IntKind} {zs:List Int} {g:Nat} {t e:TypeId} {n:Nat},(name,Lib.tabData k zs)∈L→Tryz.prog.globalNamed name=some g→(Tryz.prog.globals[g]?).map (·.type)=some t→
  Tryz.prog.underlying t=some (.array n e)→Tryz.prog.underlying e=some (.int k)→Tryz.prog.cellsOf e=1→Tryz.prog.cellsOf t=n→Lib.TabIs Tryz.prog W name k zs
 | [],_,_,_,_,_,_,_,_,_,hm,_,_,_,_,_,_=>by cases hm
 | (n0,d0)::r,ps,h,name,k,zs,g,t,e,n,hm,hg,hty,ht,he,hce,hct=>by
  obtain⟨g0,t0,cs0,f0,p0,q0,hg0,ht0,hv0,hd0,hq,rfl⟩:=h
  rcases fC.1 hm with e' | hm
  ·injection e' with e1 e2
   subst e1;subst e2
   obtain rfl:=Option.some.inj (hg.symm.trans hg0)
   obtain rfl:=Option.some.inj (hty.symm.trans ht0)
   have:=Lib.cells_of_tab ht he hce hct hd0
   unfold Lib.TabIs
   rw[hv0]
   congr 1
   exact Array.toList_inj.1 (by rw[this])
  ·exact laid_tab hq hm hg hty ht he hce hct
section
variable {L:List (String×DataW Unit)} {W:World}
theorem wZ (h:laidMetH Tryz.prog L W) (hp:(L.all fun x=>x.2.handleName?.isNone)=true) {name:String} {k:IntKind} {zs:List Int} {g:Nat} {t e:TypeId} {n:Nat} (hm:(name,Lib.tabData k zs)∈L)
  (hg:Tryz.prog.globalNamed name=some g) (hty:(Tryz.prog.globals[g]?).map (·.type)=some t)
  (ht:Tryz.prog.underlying t=some (.array n e)) (he:Tryz.prog.underlying e=some (.int k)) (hce:Tryz.prog.cellsOf e=1) (hct:Tryz.prog.cellsOf t=n):Lib.TabIs Tryz.prog W name k zs:=by
 rw[MakeChecks.laidMetH_plain _ _ _ hp] at h
 obtain⟨ps,hv,_⟩:=h
 exact laid_tab hv hm hg hty ht he hce hct
theorem kdata:(Rows.laid_bulla_sha_constants:DataW Unit)=Lib.tabData .u32 (ktab.map fun x=>(x.toNat:Int)):=by rfl
theorem fdata:(Rows.laid_bulla_sha_first:DataW Unit)=Lib.tabData .u32 (htab.list.map fun x=>(x.toNat:Int)):=by rfl
theorem uI (l:List UInt32) (k:Nat):(l.map fun x=>(x.toNat:Int)).getD k 0=((l.getD k 0).toNat:Int):=by
 simp only[List.getD_eq_getElem?_getD,List.getElem?_map]
 cases l[k]?<;>rfl
theorem zM (h:laidMetH Tryz.prog L W) (hp:(L.all fun x=>x.2.handleName?.isNone)=true) (hm:("bulla/sha.constants",Rows.laid_bulla_sha_constants)∈L):jM W JK:=by
 rw[kdata] at hm
 have hg:Tryz.prog.globalNamed "bulla/sha.constants" =some 30:=by kernel_rfl
 have ht:=wZ h hp hm hg (t:=356) (by kernel_rfl) Tryz.underlying356 Tryz.underlying318 (by kernel_rfl) (by kernel_rfl)
 intro k hk
 rw[ht.cell hg k (by rw[aX];exact hk),uI]
 rfl
theorem AZ (h:laidMetH Tryz.prog L W) (hp:(L.all fun x=>x.2.handleName?.isNone)=true) (hm:("bulla/sha.first",Rows.laid_bulla_sha_first)∈L):ji W htab:=by
 rw[fdata] at hm
 have hg:Tryz.prog.globalNamed "bulla/sha.first" =some 29:=by kernel_rfl
 have ht:=wZ h hp hm hg (t:=348) (by kernel_rfl) Tryz.underlying348 Tryz.underlying318 (by kernel_rfl) (by kernel_rfl)
 intro k hk
 rw[ht.cell hg k (by rw[aX];exact hk),uI]
end
theorem gI.of_laid {L:List (String×DataW Unit)} {W:World} (h:laidMetH Tryz.prog L W) (hp:(L.all fun x=>x.2.handleName?.isNone)=true) (hm:("bulla/sha.constants",Rows.laid_bulla_sha_constants)∈L) (hf:("bulla/sha.first",Rows.laid_bulla_sha_first)∈L):gI W:=
 ⟨zM h hp hm,AZ h hp hf⟩
theorem Ku:fieldsOf Tryz.prog 50=some [(3,0),(9,1),(4,2)]:=by kernel_rfl
theorem OO:Tryz.prog.cellsOf 50=3:=by kernel_rfl
theorem EK:Tryz.prog.cellsOf 4=1:=by kernel_rfl
theorem Ul {H:Type} {enc:TypeId×Value→H} {W:World} {held:Bool} {fuel:Nat} {cs:List Value} {x:DataW H×List MemPlace} (h:DataW.trod enc Tryz.prog W 0 (fun _=>true) held fuel 50 cs=some x):
  ∃(kind:Int) (space:ByteArray) (all:Bool),cs=[.int .i64 kind,.string space,.bool all]:=by
 obtain⟨hl,n,hf⟩:=o7 Ku h
 rw[OO] at hl
 match cs,hl with
 | [c0,c1,c2],_=>
  obtain⟨y0,t0⟩:=hf 0 _ _ rfl
  obtain⟨y1,t1⟩:=hf 1 _ _ rfl
  obtain⟨y2,t2⟩:=hf 2 _ _ rfl
  rw[qI] at t0
  rw[wX] at t1
  rw[EK] at t2
  obtain⟨k0,e0,_,_⟩:=DataW.trod_int Tryz.underlying3 t0
  obtain⟨k1,e1,_,_⟩:=DataW.trod_string Tryz.underlying9 t1
  obtain⟨k2,e2,_⟩:=DataW.trod_bool Tryz.underlying4 t2
  injection (show [c0]=_ from e0) with e0 _
  injection (show [c1]=_ from e1) with e1 _
  injection (show [c2]=_ from e2) with e2 _
  exact⟨k0,k1,k2,by rw[e0,e1,e2]⟩
theorem watchPlays_contract {H:Type} {enc:TypeId×Value→H} {W:World} {base:Nat} {args:Array Value} {ds:List (DataW H)} {p:List MemPlace}
  (hval:∀(j:Nat) t v,Tryz.f5.params[j]?=some t→args[j]?=some v→Value.okWide Tryz.prog W .any base t v)
  (hA:DataW.TrodAll enc Tryz.prog W 0 (fun _=>true) true Tryz.f5.params.toList args.toList ds p) (hL:laidMetH Tryz.prog Rows.watchPlaysRow.laid W):
  Cl 5 args W fun e w'=>e=.returned (.bool true)∧Bw W w':=by
 rw[Tryz.params5] at hA hval
 obtain⟨v0,v1,v2,d0,d1,d2,p0,p1,p2,rfl,rfl,rfl,⟨f0,h0⟩,⟨f1,h1⟩,⟨f2,h2⟩⟩:=trodAll_three hA
 obtain⟨cs,rfl,hcs⟩:=okWide_struct Tryz.underlying50 (hval 0 _ v0 rfl rfl)
 obtain⟨room,rfl⟩:=okWide_int Tryz.underlying3 (hval 1 _ v1 rfl rfl)
 obtain⟨a0,n0,c0,rfl⟩:=okWide_slice Tryz.underlying22 (hval 2 _ v2 rfl rfl)
 obtain⟨B,m,d,l,e',ha,hc',hm'⟩:=Ii h2
 obtain⟨kind,space,all,e1⟩:=Ul h0
 obtain⟨ea,he⟩:=Errs.of_laid hL (by kernel_rfl) (by kernel_rfl)
 have hs:=gI.of_laid hL (by kernel_rfl) (by simp[Rows.watchPlaysRow]) (by simp[Rows.watchPlaysRow])
 obtain rfl:cs=#[.int .i64 kind,.string space,.bool all]:=Array.toList_inj.1 e1
 rw[e']
 exact WatchPlays_any kind space all room B m d l W ha (Cz hc' hm') (EW.Wq he hs) he
end Go.Proofs.YtdhbpajamlfacaaGreatDoor
