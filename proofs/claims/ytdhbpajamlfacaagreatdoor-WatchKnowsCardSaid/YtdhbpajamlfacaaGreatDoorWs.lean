/- What is laid, read (digests' tables). -/
import Derived.Test.YtdhbpajamlfacaaGreatDoorWl
import Derived.Test.YtdhbpajamlfacaaGreatDoorWo
import Derived.Lib.LaidTab
import Derived.Test.YtdhbpajamlfacaaGreatDoorRows
set_option maxRecDepth 100000
namespace Go.Proofs.YtdhbpajamlfacaaGreatDoor
open Go.RowKit Go.ChangeShapes Go.WideShapes Go.ChangeAt Go.Deep
theorem laid_tab {W:World}:∀{L:List (String×DataW Unit)} {ps:List MemPlace},DataW.LaidVars Tryz.prog W L ps→
  ∀{name:String} {k:IntKind} {zs:List Int} {g:Nat} {t e:TypeId} {n:Nat},(name,Lib.tabData k zs)∈L→Tryz.prog.globalNamed name=some g→(Tryz.prog.globals[g]?).map (·.type)=some t→
  Tryz.prog.underlying t=some (.array n e)→Tryz.prog.underlying e=some (.int k)→Tryz.prog.cellsOf e=1→Tryz.prog.cellsOf t=n→Lib.TabIs Tryz.prog W name k zs
 | [],_,_,_,_,_,_,_,_,_,hm,_,_,_,_,_,_=>by cases hm
 | (n0,d0)::r,ps,h,name,k,zs,g,t,e,n,hm,hg,hty,ht,he,hce,hct=>by
  obtain⟨g0,t0,cs0,f0,p0,q0,hg0,ht0,hv0,hd0,hq,rfl⟩:=h
  rcases List.mem_cons.1 hm with e' | hm
  ·injection e' with e1 e2
   subst e1;subst e2
   obtain rfl:=Option.some.inj (hg.symm.trans hg0)
   obtain rfl:=Option.some.inj (hty.symm.trans ht0)
   have:=Lib.cells_of_tab ht he hce hct hd0
   unfold Lib.TabIs
   rw[hv0]
   congr 1
   exact Array.toList_inj.1 (by rw[this])
  ·exact laid_tab hq hm hg hty ht he hce hct
section
variable {L:List (String×DataW Unit)} {W:World}
theorem uK (h:laidMetH Tryz.prog L W) (hp:(L.all fun x=>x.2.handleName?.isNone)=true) {name:String} {k:IntKind} {zs:List Int} {g:Nat} {t e:TypeId} {n:Nat} (hm:(name,Lib.tabData k zs)∈L)
  (hg:Tryz.prog.globalNamed name=some g) (hty:(Tryz.prog.globals[g]?).map (·.type)=some t)
  (ht:Tryz.prog.underlying t=some (.array n e)) (he:Tryz.prog.underlying e=some (.int k)) (hce:Tryz.prog.cellsOf e=1) (hct:Tryz.prog.cellsOf t=n):Lib.TabIs Tryz.prog W name k zs:=by
 rw[MakeChecks.laidMetH_plain _ _ _ hp] at h
 obtain⟨ps,hv,_⟩:=h
 exact laid_tab hv hm hg hty ht he hce hct
theorem kdata:(Rows.laid_bulla_sha_constants:DataW Unit)=Lib.tabData .u32 (aad.map fun x=>(x.toNat:Int)):=by rfl
theorem fdata:(Rows.laid_bulla_sha_first:DataW Unit)=Lib.tabData .u32 (htab.list.map fun x=>(x.toNat:Int)):=by rfl
theorem rF (l:List UInt32) (k:Nat):(l.map fun x=>(x.toNat:Int)).getD k 0=((l.getD k 0).toNat:Int):=by
 simp only[List.getD_eq_getElem?_getD,List.getElem?_map]
 cases l[k]?<;>rfl
theorem xI (h:laidMetH Tryz.prog L W) (hp:(L.all fun x=>x.2.handleName?.isNone)=true) (hm:("bulla/sha.constants",Rows.laid_bulla_sha_constants)∈L):iO W Hw:=by
 rw[kdata] at hm
 have hg:Tryz.prog.globalNamed "bulla/sha.constants" =some 30:=by kernel_rfl
 have ht:=uK h hp hm hg (t:=356) (by kernel_rfl) Tryz.underlying356 Tryz.underlying318 (by kernel_rfl) (by kernel_rfl)
 intro k hk
 rw[ht.cell hg k (by rw[List.length_map];exact hk),rF]
 rfl
theorem yH (h:laidMetH Tryz.prog L W) (hp:(L.all fun x=>x.2.handleName?.isNone)=true) (hm:("bulla/sha.first",Rows.laid_bulla_sha_first)∈L):ig W htab:=by
 rw[fdata] at hm
 have hg:Tryz.prog.globalNamed "bulla/sha.first" =some 29:=by kernel_rfl
 have ht:=uK h hp hm hg (t:=348) (by kernel_rfl) Tryz.underlying348 Tryz.underlying318 (by kernel_rfl) (by kernel_rfl)
 intro k hk
 rw[ht.cell hg k (by rw[List.length_map];exact hk),rF]
end
theorem dS.of_laid {L:List (String×DataW Unit)} {W:World} (h:laidMetH Tryz.prog L W) (hp:(L.all fun x=>x.2.handleName?.isNone)=true) (hm:("bulla/sha.constants",Rows.laid_bulla_sha_constants)∈L) (hf:("bulla/sha.first",Rows.laid_bulla_sha_first)∈L):dS W:=
 ⟨xI h hp hm,yH h hp hf⟩
end Go.Proofs.YtdhbpajamlfacaaGreatDoor
