/- The listed sentinel errors: what the row's list gives of their cells: each holds a pointer of its own. -/
import Derived.Test.YtdhbpajamlfacaaGreatDoorBase
import Derived.Test.YtdhbpajamlfacaaGreatDoorRows
import Derived.Stop.LaidErr
import Derived.LaidEql
import Derived.LaidMore
import Derived.WalkKit
import Derived.Stop.Asserts
import Derived.RowKitTokens
import Derived.Deep.LoopGhost
set_option maxHeartbeats 1000000
set_option maxRecDepth 100000
namespace Go.Proofs.YtdhbpajamlfacaaGreatDoor
open Go.RowKit
/-- An error out of errors.New, at address a. -/
def nI (a:Addr):Value:=.iface 368 (.pointer (some a))
structure ErrAt (W:World) (g:Nat) (a:Addr):Prop where
 cell:W.cell? ⟨g,0,none⟩=some (nI a)
 block:∃c t,W.heap[a.block]?=some (.cells c t (0,0))
theorem ErrAt.inj {W:World} {g:Nat} {a b:Addr} (h:ErrAt W g a) (k:ErrAt W g b):a=b:=by
 have:=h.cell.symm.trans k.cell
 simpa [nI] using this
def isErr (d:DataW Unit):Prop:=∃text,d=.iface "*errors.errorString" (.ptr (.agg [.lit (.string text)]))
theorem Lm: "*" ++ "errors.errorString" = "*errors.errorString" :=by decide
theorem YE (u:TypeId) (h:Tryz.prog.typeName? 3 u=some "*errors.errorString"):u=368:=
 typeName_ptr_named (nm:= "errors.errorString") (by rw[Lm];kernel_rfl) (by kernel_rfl) (by decide) u (by rw[Lm];exact h)
theorem Qw:Tryz.prog.cellsOf 392=1:=by kernel_rfl
theorem Qx:Tryz.prog.cellsOf 9=1:=by kernel_rfl
theorem laid_err {W:World}:∀{L:List (String×DataW Unit)} {ps:List MemPlace},DataW.LaidVars Tryz.prog W L ps→
  (∀b off,MemPlace.cell b off∈ps→(∃c t,W.heap[b]?=some (.cells c t (0,0)))∧∀u v,W.cell? ⟨b,off,none⟩=some (.iface u v)→Value.okWide Tryz.prog W .any 0 u v)→
  ∀{n:String} {d:DataW Unit} {g:Nat},(n,d)∈L→isErr d→Tryz.prog.globalNamed n=some g→(Tryz.prog.globals[g]?).map (·.type)=some 32→
  ∃a,ErrAt W g a∧MemPlace.cell a.block a.off∈ps
 | [],_,_,_,_,_,_,hm,_,_,_=>by cases hm
 | (n0,d0)::r,ps,h,hrows,n,d,g,hm,he,hg,ht=>by
  obtain⟨g0,t0,cs0,f0,p0,q0,hg0,ht0,hv0,hd0,hq,rfl⟩:=h
  rcases fC.1 hm with e | hm
  ·injection e with e1 e2
   subst e1;subst e2
   obtain rfl:=Option.some.inj (hg.symm.trans hg0)
   obtain rfl:=Option.some.inj (ht.symm.trans ht0)
   obtain⟨text,rfl⟩:=he
   obtain⟨l0⟩:=cs0
   have ok0:∀u v,l0=[.iface u v]→Value.okWide Tryz.prog W .any 0 u v:=fun u v e=>by
    subst e
    exact(hrows g 0 (by simp[MemPlace.row])).2 u v (by simpa using World.var?_cell hg0 hv0 0)
   obtain⟨a0,s0,rfl,hc0,hs0,hz0,hp⟩:=errorString_of_trod Tryz.underlying32 YE Tryz.underlying368 Tryz.underlying392 rfl rfl Tryz.underlying9 Qw Qx hd0 ok0
   have hin:MemPlace.cell a0.block a0.off∈MemPlace.row ⟨g,0,none⟩ (List.toArray [Value.iface 368 (.pointer (some a0))]).size++p0++q0:=by
    rw[hp]
    simp[MemPlace.row]
   refine⟨a0,⟨?_,(hrows _ _ hin).1⟩,hin⟩
   have:=World.var?_cell hg0 hv0 0
   simpa [nI] using this
  ·obtain ⟨a,h1,h2⟩:=laid_err hq (fun b off hb=>hrows b off (List.mem_append_right _ hb)) hm he hg ht
   exact⟨a,h1,List.mem_append_right _ h2⟩
/-- Two listed errors are two pointers. -/
theorem laid_apart {W:World}:∀{L:List (String×DataW Unit)} {ps:List MemPlace},DataW.LaidVars Tryz.prog W L ps→ps.Nodup→
  (∀b off,MemPlace.cell b off∈ps→(∃c t,W.heap[b]?=some (.cells c t (0,0)))∧∀u v,W.cell? ⟨b,off,none⟩=some (.iface u v)→Value.okWide Tryz.prog W .any 0 u v)→
  ∀{n n':String} {d d':DataW Unit} {g g':Nat} {a a':Addr},(n,d)∈L→(n',d')∈L→isErr d→isErr d'→Tryz.prog.globalNamed n=some g→Tryz.prog.globalNamed n'=some g'→
  (Tryz.prog.globals[g]?).map (·.type)=some 32→(Tryz.prog.globals[g']?).map (·.type)=some 32→ErrAt W g a→ErrAt W g' a'→n≠n'→a≠a'
 | [],_,_,_,_,_,_,_,_,_,_,_,_,hm,_,_,_,_,_,_,_,_,_,_=>by cases hm
 | (n0,d0)::r,ps,h,hnd,hrows,n,n',d,d',g,g',a,a',hm,hm',he,he',hg,hg',ht,ht',ha,ha',hne=>by
  have h0:=h
  obtain⟨g0,t0,cs0,f0,p0,q0,hg0,ht0,hv0,hd0,hq,rfl⟩:=h
  have Qy:=fun b off hb=>hrows b off (List.mem_append_right (MemPlace.row ⟨g0,0,none⟩ cs0.size++p0) hb)
  have head:∀{m:String} {e:DataW Unit} {k:Nat} {x:Addr},(m,e)=(n0,d0)→isErr e→Tryz.prog.globalNamed m=some k→(Tryz.prog.globals[k]?).map (·.type)=some 32→ErrAt W k x→
    MemPlace.cell x.block x.off∈MemPlace.row ⟨g0,0,none⟩ cs0.size++p0:=by
   intro m e k x hme hee hk htk hx
   obtain⟨y,hy,hin⟩:=laid_err (W:=W) (L:=[(n0,d0)]) (ps:=MemPlace.row ⟨g0,0,none⟩ cs0.size++p0++[]) ⟨g0,t0,cs0,f0,p0,[],hg0,ht0,hv0,hd0,rfl,rfl⟩
    (fun b off hb=>hrows b off (List.mem_append_left _ (by simpa using hb))) (by rw[hme];simp:(m,e)∈[(n0,d0)]) hee hk htk
   rw[hx.inj hy]
   simpa using hin
  have tail:∀{m:String} {e:DataW Unit} {k:Nat} {x:Addr},(m,e)∈r→isErr e→Tryz.prog.globalNamed m=some k→(Tryz.prog.globals[k]?).map (·.type)=some 32→ErrAt W k x→MemPlace.cell x.block x.off∈q0:=by
   intro m e k x hme hee hk htk hx
   obtain⟨y,hy,hin⟩:=laid_err hq Qy hme hee hk htk
   rw[hx.inj hy]
   exact hin
  have apart:=(List.nodup_append.1 hnd).2.2
  rcases fC.1 hm with e | hm<;>rcases fC.1 hm' with e' | hm'
  ·injection e with e1 _;injection e' with e2 _
   exact absurd (e1.trans e2.symm) hne
  ·rintro rfl
   exact apart _ (head e he hg ht ha) _ (tail hm' he' hg' ht' ha') rfl
  ·rintro rfl
   exact apart _ (head e' he' hg' ht' ha') _ (tail hm he hg ht ha) rfl
  ·exact laid_apart hq (List.nodup_append.1 hnd).2.1 Qy hm hm' he he' hg hg' ht ht' ha ha' hne
section
variable {L:List (String×DataW Unit)} {W:World}
theorem FP (h:laidMetH Tryz.prog L W) (hp:(L.all fun x=>x.2.handleName?.isNone)=true) {n:String} {d:DataW Unit} {g:Nat} (hm:(n,d)∈L) (he:isErr d)
  (hg:Tryz.prog.globalNamed n=some g) (ht:(Tryz.prog.globals[g]?).map (·.type)=some 32):∃a,ErrAt W g a:=by
 rw[MakeChecks.laidMetH_plain _ _ _ hp] at h
 obtain⟨ps,hv,_,hrows⟩:=h
 obtain⟨a,ha,_⟩:=laid_err hv hrows hm he hg ht
 exact⟨a,ha⟩
theorem AA (h:laidMetH Tryz.prog L W) (hp:(L.all fun x=>x.2.handleName?.isNone)=true) {n n':String} {d d':DataW Unit} {g g':Nat} {a a':Addr} (hm:(n,d)∈L) (hm':(n',d')∈L) (he:isErr d) (he':isErr d')
  (hg:Tryz.prog.globalNamed n=some g) (hg':Tryz.prog.globalNamed n'=some g') (ht:(Tryz.prog.globals[g]?).map (·.type)=some 32) (ht':(Tryz.prog.globals[g']?).map (·.type)=some 32)
  (ha:ErrAt W g a) (ha':ErrAt W g' a') (hne:n≠n'):a≠a':=by
 rw[MakeChecks.laidMetH_plain _ _ _ hp] at h
 obtain⟨ps,hv,hnd,hrows⟩:=h
 exact laid_apart hv hnd hrows hm hm' he he' hg hg' ht ht' ha ha' hne
end
open Go.Extern.Stop Go.Stop Go.Extern
theorem isTypeOf (v:Value) (w:World):(Extern.ReflectliteType.typeOf #[.iface 368 v]).run Tryz.prog w=.ok (.iface 215 (.agg #[.pointer (some ⟨31,368,none⟩)])) w:=by kernel_rfl
def DC:Array Value→Sem Value:=Extern.ReflectliteType.method fun t=>do
 Extern.Rtype.noPackHeld "Comparable" t
 pure (.bool (←typeInfo t).comparable)
theorem isComparable (w:World):(DC #[.agg #[.pointer (some ⟨31,368,none⟩)]]).run Tryz.prog w=.ok (.bool true) w:=by kernel_rfl
theorem isMethodComparable (v:Value) (w:World):(Go.method 504 215 v "Comparable").run Tryz.prog w=.ok (327,v) w:=by kernel_rfl
theorem isComp:(Tryz.prog.info? 368).map (·.comparable)=some true:=by kernel_rfl
theorem isSize:(Tryz.prog.info? 392).map (·.size)=some 1:=by kernel_rfl
theorem noIsE (v:Value) (xT:TypeId) (w:World):(Instr.typeAssert (.iface 368 v) xT 217 true).run Tryz.prog w=.ok (.tuple #[.nilIface,.bool false]) w:=run_typeAssert_lacksB Tryz.underlying217 (by kernel_rfl) (by kernel_rfl) v xT w
theorem noUnwrapE (v:Value) (xT:TypeId) (w:World):(Instr.typeAssert (.iface 368 v) xT 220 true).run Tryz.prog w=.ok (.tuple #[.nilIface,.bool false]) w:=run_typeAssert_lacksB Tryz.underlying220 (by kernel_rfl) (by kernel_rfl) v xT w
theorem noUnwrapsE (v:Value) (xT:TypeId) (w:World):(Instr.typeAssert (.iface 368 v) xT 221 true).run Tryz.prog w=.ok (.tuple #[.nilIface,.bool false]) w:=run_typeAssert_lacksB Tryz.underlying221 (by kernel_rfl) (by kernel_rfl) v xT w
/-- errors.Is(x, x). -/
theorem is_same (a:Addr) (w:World):
  Cl 41 #[.iface 368 (.pointer (some a)),.iface 368 (.pointer (some a))] w fun e w'=>e=.returned (.bool true)∧w=w':=by
 obtain⟨i,hi,hcmp⟩:=Option.map_eq_some_iff.1 isComp
 obtain⟨j,hj,hjs⟩:=Option.map_eq_some_iff.1 isSize
 have h8:=@run_callFunc_extern Tryz.prog 87 _ Extern.ReflectliteType.typeOf Tryz.func87 (by kernel_rfl) (by kernel_rfl) (by kernel_rfl) (by kernel_rfl)
 have h32:=@run_callFunc_extern Tryz.prog 327 _ DC Tryz.func327 (by kernel_rfl) (by kernel_rfl) (by kernel_rfl) (by kernel_rfl)
 have tT:=isTypeOf
 have cT:=isComparable
 have mR:=isMethodComparable
 have heq:=run_eql_iface_ptr_same (P:=Tryz.prog) w a Tryz.underlying32 Tryz.underlying368 hi hcmp hj
 go_enter Tryz.func41,Tryz.ntmps41
 go_wp2
 refine wp_loop_rounds 1 ?_
 rw[rounds_succ]
 go_wp2
 go_ret
 exact⟨rfl,rfl⟩
/-- errors.Is(x, y), two pointers. -/
theorem is_other (a b:Addr) (ca cb:Array Value) (ta tb:TypeId) (w:World) (hne:a≠b) (ha:w.heap[a.block]?=some (.cells ca ta (0,0))) (hb:w.heap[b.block]?=some (.cells cb tb (0,0))):
  Cl 41 #[.iface 368 (.pointer (some a)),.iface 368 (.pointer (some b))] w fun e w'=>e=.returned (.bool false)∧w=w':=by
 obtain⟨i,hi,hcmp⟩:=Option.map_eq_some_iff.1 isComp
 obtain⟨j,hj,hjs⟩:=Option.map_eq_some_iff.1 isSize
 have h8:=@run_callFunc_extern Tryz.prog 87 _ Extern.ReflectliteType.typeOf Tryz.func87 (by kernel_rfl) (by kernel_rfl) (by kernel_rfl) (by kernel_rfl)
 have h32:=@run_callFunc_extern Tryz.prog 327 _ DC Tryz.func327 (by kernel_rfl) (by kernel_rfl) (by kernel_rfl) (by kernel_rfl)
 have tT:=isTypeOf
 have cT:=isComparable
 have mR:=isMethodComparable
 have nE:=noIsE
 have uE:=noUnwrapE
 have vE:=noUnwrapsE
 have heq:=run_eql_iface_ptr_other (P:=Tryz.prog) w Tryz.underlying32 Tryz.underlying368 hi hcmp hj (by rw[hjs];decide) hne ha hb
 go_enter Tryz.func41,Tryz.ntmps41
 go_wp2
 refine wp_loop_rounds 1 ?_
 rw[rounds_succ]
 go_wp2
 go_ret
 exact⟨rfl,rfl⟩
/-- The address of the n-th error's variable, by the document's numbers. -/
def Nq (n:Nat):Nat:=[0,1,2,3,4,5,6,7,8,0,9,10,11,12,13,14,15,16,17,18,19,20,21,22,23,24,25,26,27].getD n 0
/-- The errors' variables hold pointers ea 1 to ea 28, no two the same. -/
structure Errs (w:World) (ea:Nat→Addr):Prop where
 cell:∀n,1≤n→n≤28→w.cell? ⟨Nq n,0,none⟩=some (nI (ea n))
 block:∀n,1≤n→n≤28→∃c t,w.heap[(ea n).block]?=some (.cells c t (0,0))
 apart:∀n m,1≤n→n≤28→1≤m→m≤28→n≠m→ea n≠ea m
theorem Errs.below {w w':World} {ea:Nat→Addr} (h:Errs w ea) (hb:Below w.heap.size w w'):Errs w' ea:=
 ⟨fun n h1 h2=>Kz hb _ _ (h.cell n h1 h2),fun n h1 h2=>let ⟨c,t,e⟩:=h.block n h1 h2;⟨c,t,(hb.block _ (Cq e)).trans e⟩,h.apart⟩
/-- An error's number as a value: 0 is nil. -/
def errOf (ea:Nat→Addr) (n:Nat):Value:=if n=0 then .nilIface else nI (ea n)
theorem Errs.is {w:World} {ea:Nat→Addr} (h:Errs w ea) (n m:Nat) (h1:1≤n) (h2:n≤28) (h3:1≤m) (h4:m≤28):
  Cl 41 #[.iface 368 (.pointer (some (ea n))),.iface 368 (.pointer (some (ea m)))] w fun e w'=>e=.returned (.bool (decide (n=m)))∧w=w':=by
 by_cases hnm:n=m
 ·subst hnm
  rw[aZ rfl]
  exact is_same _ _
 ·obtain ⟨c,t,e⟩:=h.block n h1 h2
  obtain⟨c',t',e'⟩:=h.block m h3 h4
  rw[aQ hnm]
  exact is_other _ _ c c' t t' w (h.apart n m h1 h2 h3 h4 hnm) e e'
def errName (n:Nat):String:=["","bulla/api.ErrRange","bulla/api.ErrShort","bulla/api.ErrLong","bulla/api.ErrForm","bulla/api.ErrTag","bulla/api.ErrDepth","bulla/api.ErrOrder","bulla/api.ErrText","bulla/api.ErrName","bulla/api.ErrKey","bulla/api.ErrProof","bulla/api.ErrSign","bulla/api.ErrExpired","bulla/api.ErrEarly","bulla/api.ErrUsage","bulla/api.ErrIssuer","bulla/api.ErrRevoked","bulla/api.ErrNone","bulla/api.ErrExists","bulla/api.ErrStale","bulla/api.ErrQuota","bulla/api.ErrDenied","bulla/api.ErrAuth","bulla/api.ErrState","bulla/api.ErrDown","bulla/api.ErrFull","bulla/api.ErrCorrupt","bulla/api.ErrBusy"].getD n ""
def Jf:DataW Unit→Bool
 | .iface n (.ptr (.agg [.lit (.string _)]))=>n== "*errors.errorString"
 | _=>false
theorem Qz {d:DataW Unit} (h:Jf d=true):isErr d:=by
 unfold Jf at h
 split at h
 ·rename_i n t
  rw[beq_iff_eq] at h
  exact⟨t,by rw[h]⟩
 ·cases h
/-- Does a list hold all 28? -/
def YF (L:List (String×DataW Unit)):Bool:=(List.range 28).all fun k=>L.any fun x=>x.1==errName (k+1)&&Jf x.2
theorem Jg:((List.range 28).all fun k=>(Tryz.prog.globalNamed (errName (k+1))==some (Nq (k+1)))&&((Tryz.prog.globals[Nq (k+1)]?).map (·.type)==some 32))=true:=by kernel_rfl
theorem Jh:((List.range 28).all fun k=>(List.range 28).all fun j=>(k==j)|| !(errName (k+1)==errName (j+1)))=true:=by kernel_rfl
theorem Errs.of_laid {L:List (String×DataW Unit)} {W:World} (h:laidMetH Tryz.prog L W) (hp:(L.all fun x=>x.2.handleName?.isNone)=true) (hc:YF L=true):∃ea,Errs W ea:=by
 have hm:∀n,1≤n→n≤28→∃d,(errName n,d)∈L∧isErr d:=by
  intro n h1 h2
  have:=List.all_eq_true.1 hc (n-1) (by simp;omega)
  rw[show n-1+1=n by omega] at this
  obtain⟨x,hx,hy⟩:=List.any_eq_true.1 this
  rw[jA,beq_iff_eq] at hy
  exact⟨x.2,by rw[←hy.1];exact hx,Qz hy.2⟩
 have hg:∀n,1≤n→n≤28→Tryz.prog.globalNamed (errName n)=some (Nq n)∧(Tryz.prog.globals[Nq n]?).map (·.type)=some 32:=by
  intro n h1 h2
  have:=List.all_eq_true.1 Jg (n-1) (by simp;omega)
  rw[show n-1+1=n by omega,jA,beq_iff_eq,beq_iff_eq] at this
  exact this
 have hn:∀n m,1≤n→n≤28→1≤m→m≤28→n≠m→errName n≠errName m:=by
  intro n m h1 h2 h3 h4 hne
  have:=List.all_eq_true.1 (List.all_eq_true.1 Jh (n-1) (by simp;omega)) (m-1) (by simp;omega)
  rw[show n-1+1=n by omega,show m-1+1=m by omega,Bool.or_eq_true,beq_iff_eq,Bool.not_eq_true',gQ] at this
  rcases this with h | h
  ·omega
  ·exact h
 have hex:∀n,∃a,1≤n→n≤28→ErrAt W (Nq n) a:=by
  intro n
  by_cases hh:1≤n∧n≤28
  ·obtain ⟨d,h1,h2⟩:=hm n hh.1 hh.2
   obtain⟨a,ha⟩:=FP h hp h1 h2 (hg n hh.1 hh.2).1 (hg n hh.1 hh.2).2
   exact⟨a,fun _ _=>ha⟩
  ·exact ⟨⟨0,0,none⟩,fun h1 h2=>absurd ⟨h1,h2⟩ hh⟩
 refine⟨fun n=>Classical.choose (hex n),fun n h1 h2=>(Classical.choose_spec (hex n) h1 h2).cell,fun n h1 h2=>(Classical.choose_spec (hex n) h1 h2).block,fun n m h1 h2 h3 h4 hne=> ?_⟩
 obtain⟨d,m1,e1⟩:=hm n h1 h2
 obtain⟨d',m2,e2⟩:=hm m h3 h4
 exact AA h hp m1 m2 e1 e2 (hg n h1 h2).1 (hg m h3 h4).1 (hg n h1 h2).2 (hg m h3 h4).2 (Classical.choose_spec (hex n) h1 h2) (Classical.choose_spec (hex m) h3 h4) (hn n m h1 h2 h3 h4 hne)
theorem DF (w:World):Cl 13 #[.nilIface] w fun e w'=>e=.returned (.int .i64 0)∧w=w':=by
 go_enter Tryz.func13,Tryz.ntmps13
 go_wp2
 go_ret
 exact⟨rfl,rfl⟩
def um (ea:Nat→Addr):Array Value:=#[.iface 368 (.pointer (some (ea 1))),.iface 368 (.pointer (some (ea 2))),.iface 368 (.pointer (some (ea 3))),.iface 368 (.pointer (some (ea 4))),.iface 368 (.pointer (some (ea 5))),.iface 368 (.pointer (some (ea 6))),.iface 368 (.pointer (some (ea 7))),.iface 368 (.pointer (some (ea 8))),.iface 368 (.pointer (some (ea 9))),.iface 368 (.pointer (some (ea 10))),.iface 368 (.pointer (some (ea 11))),.iface 368 (.pointer (some (ea 12))),.iface 368 (.pointer (some (ea 13))),.iface 368 (.pointer (some (ea 14))),.iface 368 (.pointer (some (ea 15))),.iface 368 (.pointer (some (ea 16))),.iface 368 (.pointer (some (ea 17))),.iface 368 (.pointer (some (ea 18))),.iface 368 (.pointer (some (ea 19))),.iface 368 (.pointer (some (ea 20))),.iface 368 (.pointer (some (ea 21))),.iface 368 (.pointer (some (ea 22))),.iface 368 (.pointer (some (ea 23))),.iface 368 (.pointer (some (ea 24))),.iface 368 (.pointer (some (ea 25))),.iface 368 (.pointer (some (ea 26))),.iface 368 (.pointer (some (ea 27))),.iface 368 (.pointer (some (ea 28)))]
theorem DI (ea:Nat→Addr) (k:Nat) (h:k<28):(um ea)[k]?=some (.iface 368 (.pointer (some (ea (k+1))))):=by
 match k,h with
 | 0,_=>rfl
 | 1,_=>rfl
 | 2,_=>rfl
 | 3,_=>rfl
 | 4,_=>rfl
 | 5,_=>rfl
 | 6,_=>rfl
 | 7,_=>rfl
 | 8,_=>rfl
 | 9,_=>rfl
 | 10,_=>rfl
 | 11,_=>rfl
 | 12,_=>rfl
 | 13,_=>rfl
 | 14,_=>rfl
 | 15,_=>rfl
 | 16,_=>rfl
 | 17,_=>rfl
 | 18,_=>rfl
 | 19,_=>rfl
 | 20,_=>rfl
 | 21,_=>rfl
 | 22,_=>rfl
 | 23,_=>rfl
 | 24,_=>rfl
 | 25,_=>rfl
 | 26,_=>rfl
 | 27,_=>rfl
 | k+28,h=>omega
theorem U0 {w:World} {ea:Nat→Addr} (he:Errs w ea) (n:Nat) (h1:1≤n) (h2:n≤28):
  Cl 13 #[.iface 368 (.pointer (some (ea n)))] w fun e w'=>e=.returned (.int .i64 (n:Int))∧Below w.heap.size w w':=by
 have c1:w.cell? ⟨1,0,none⟩=some (.iface 368 (.pointer (some (ea 1)))):=he.cell 1 (by omega) (by omega)
 have c2:w.cell? ⟨2,0,none⟩=some (.iface 368 (.pointer (some (ea 2)))):=he.cell 2 (by omega) (by omega)
 have c3:w.cell? ⟨3,0,none⟩=some (.iface 368 (.pointer (some (ea 3)))):=he.cell 3 (by omega) (by omega)
 have c4:w.cell? ⟨4,0,none⟩=some (.iface 368 (.pointer (some (ea 4)))):=he.cell 4 (by omega) (by omega)
 have c5:w.cell? ⟨5,0,none⟩=some (.iface 368 (.pointer (some (ea 5)))):=he.cell 5 (by omega) (by omega)
 have c6:w.cell? ⟨6,0,none⟩=some (.iface 368 (.pointer (some (ea 6)))):=he.cell 6 (by omega) (by omega)
 have c7:w.cell? ⟨7,0,none⟩=some (.iface 368 (.pointer (some (ea 7)))):=he.cell 7 (by omega) (by omega)
 have c8:w.cell? ⟨8,0,none⟩=some (.iface 368 (.pointer (some (ea 8)))):=he.cell 8 (by omega) (by omega)
 have c9:w.cell? ⟨0,0,none⟩=some (.iface 368 (.pointer (some (ea 9)))):=he.cell 9 (by omega) (by omega)
 have c10:w.cell? ⟨9,0,none⟩=some (.iface 368 (.pointer (some (ea 10)))):=he.cell 10 (by omega) (by omega)
 have c11:w.cell? ⟨10,0,none⟩=some (.iface 368 (.pointer (some (ea 11)))):=he.cell 11 (by omega) (by omega)
 have c12:w.cell? ⟨11,0,none⟩=some (.iface 368 (.pointer (some (ea 12)))):=he.cell 12 (by omega) (by omega)
 have c13:w.cell? ⟨12,0,none⟩=some (.iface 368 (.pointer (some (ea 13)))):=he.cell 13 (by omega) (by omega)
 have c14:w.cell? ⟨13,0,none⟩=some (.iface 368 (.pointer (some (ea 14)))):=he.cell 14 (by omega) (by omega)
 have c15:w.cell? ⟨14,0,none⟩=some (.iface 368 (.pointer (some (ea 15)))):=he.cell 15 (by omega) (by omega)
 have c16:w.cell? ⟨15,0,none⟩=some (.iface 368 (.pointer (some (ea 16)))):=he.cell 16 (by omega) (by omega)
 have c17:w.cell? ⟨16,0,none⟩=some (.iface 368 (.pointer (some (ea 17)))):=he.cell 17 (by omega) (by omega)
 have c18:w.cell? ⟨17,0,none⟩=some (.iface 368 (.pointer (some (ea 18)))):=he.cell 18 (by omega) (by omega)
 have c19:w.cell? ⟨18,0,none⟩=some (.iface 368 (.pointer (some (ea 19)))):=he.cell 19 (by omega) (by omega)
 have c20:w.cell? ⟨19,0,none⟩=some (.iface 368 (.pointer (some (ea 20)))):=he.cell 20 (by omega) (by omega)
 have c21:w.cell? ⟨20,0,none⟩=some (.iface 368 (.pointer (some (ea 21)))):=he.cell 21 (by omega) (by omega)
 have c22:w.cell? ⟨21,0,none⟩=some (.iface 368 (.pointer (some (ea 22)))):=he.cell 22 (by omega) (by omega)
 have c23:w.cell? ⟨22,0,none⟩=some (.iface 368 (.pointer (some (ea 23)))):=he.cell 23 (by omega) (by omega)
 have c24:w.cell? ⟨23,0,none⟩=some (.iface 368 (.pointer (some (ea 24)))):=he.cell 24 (by omega) (by omega)
 have c25:w.cell? ⟨24,0,none⟩=some (.iface 368 (.pointer (some (ea 25)))):=he.cell 25 (by omega) (by omega)
 have c26:w.cell? ⟨25,0,none⟩=some (.iface 368 (.pointer (some (ea 26)))):=he.cell 26 (by omega) (by omega)
 have c27:w.cell? ⟨26,0,none⟩=some (.iface 368 (.pointer (some (ea 27)))):=he.cell 27 (by omega) (by omega)
 have c28:w.cell? ⟨27,0,none⟩=some (.iface 368 (.pointer (some (ea 28)))):=he.cell 28 (by omega) (by omega)
 have He:=Hj he
 clear he
 go_enter Tryz.func13,Tryz.ntmps13
 go_wp2_with fail
 obtain⟨w1,hw1⟩:∃W,W=w.alloc (.cells (um ea) 32):=⟨_,rfl⟩
 change Code.wp _ _ _ _ (w.alloc (.cells (um ea) 32))
 rw[←hw1]
 have Hb:Hid (Below w.heap.size w w1):=by show Below _ _ _;rw[hw1];exact(aj _ w).alloc Kv _
 have Hc:Hid (∀k,k<28→w1.cell? ⟨w.heap.size,k,none⟩=some (.iface 368 (.pointer (some (ea (k+1)))))):=fun k hk=>by
  rw[hw1,bT _ w.heap.size k (um ea) 32 (0,0) (aA w _)]
  exact DI ea k hk
 have He1:=Hj (He.out.below Hb.out)
 clear hw1 c1 c2 c3 c4 c5 c6 c7 c8 c9 c10 c11 c12 c13 c14 c15 c16 c17 c18 c19 c20 c21 c22 c23 c24 c25 c26 c27 c28
 generalize hB:w.heap.size=B at*
 have HB:=Hj hB
 clear hB
 go_loopg [4,5,39] 28 (fun g s4 s5 s39 wr=>∃k:Nat,s39=.int .i64 (k:Int)∧k+g=28∧k<n∧wr=w1)
 case atStart=>exact⟨0,rfl,by omega,by omega,rfl⟩
 case round=>
  obtain⟨k,rfl,hk,hkn,rfl⟩:=hrel
  by_cases hlt:k<28
  ·have hc:=Hc.out k hlt
   have k0:(0:Int)≤(k:Int):=by omega
   have k1:(k:Int)<(28:Int):=by omega
   by_cases hnk:n=k+1
   ·subst hnk
    go_wp2_with (go_at_call 41;refine(is_same (ea (k+1)) _).mono ?_;rintro e w' ⟨rfl,rfl⟩)
    go_ret
    exact⟨tK (by omega),by rw[HB.out];exact Hb.out⟩
   ·have hd:decide (n=k+1)=false:=aQ hnk
    go_wp2_with (go_at_call 41;refine(He1.out.is n (k+1) h1 h2 (by omega) (by omega)).mono ?_;rintro e w' ⟨rfl,rfl⟩)
    go_roundg (gk-1)
    case measure=>omega
    case rel=>exact⟨k+1,by go_num,by omega,by omega,rfl⟩
  ·exfalso
   omega
theorem Lp {w:World} {ea:Nat→Addr} (he:Errs w ea) (n:Nat) (h2:n≤28):
  Cl 13 #[errOf ea n] w fun e w'=>e=.returned (.int .i64 (n:Int))∧Below w.heap.size w w':=by
 by_cases h0:n=0
 ·subst h0
  exact(DF w).mono fun e w' ⟨h,h'⟩=>⟨h,h'▸aj _ w⟩
 ·unfold errOf
  rw[aG h0]
  exact U0 he n (by omega) h2
end Go.Proofs.YtdhbpajamlfacaaGreatDoor
