/- What every law's proof shares: arguments read as lists; the row's last step where nothing that was there has turned. -/
import Derived.Test.YtdhbpajamlfacaaGreatDoorBase
import Derived.Test.YtdhbpajamlfacaaGreatDoorRows
import Derived.ProofKit
import Derived.OpenShut
import Derived.Deep.Slices
import Derived.LaidMore
import Derived.LaidLaws
import Derived.Stop.BytesEq
import Derived.Laws.StructEq
set_option maxRecDepth 100000
namespace Go.Proofs.YtdhbpajamlfacaaGreatDoor
open Go.RowKit Go.ChangeShapes Go.WideShapes Go.ChangeAt Go.Deep
theorem own:ownKnob Tryz.prog.godebug=none:=by kernel_rfl
theorem laidOut:laidOutB Tryz.prog=true:=by kernel_rfl
section
variable {H:Type} {enc:TypeId×Value→H} {P:Program}
theorem AB {f:Func} {s:ChangeSpec} {apart fresh handsOn again:Bool} {W W':World} {args:Array Value} {v:Value} {ds gs:List (DataW H)} {before pa pv:List MemPlace}
  (hW:DataW.Whole enc P f.params.toList s.vars apart W args.toList ds gs before)
  (hres:∀(b:Nat) (sp:Nat→Bool) (hd:Bool),DataW.TrodAll enc P W' b sp hd f.resultTypes.toList (v.resultList f.resultTypes.size) (s.fn H (ds++gs)).results [])
  (hargs:∀sp:Nat→Bool,(∀p∈before,sp p.block=true)→DataW.TrodAll enc P W' 0 sp true f.params.toList args.toList (s.fn H (ds++gs)).args pa)
  (hvars:∀sp:Nat→Bool,(∀p∈before,sp p.block=true)→DataW.TrodVars enc P W' sp s.vars (s.fn H (ds++gs)).vars pv)
  (hps:before=pa++pv) (hb:Bw W W')
  (hok:∀(j:Nat) (t:TypeId) (r:Value),f.resultTypes[j]?=some t→(v.resultList f.resultTypes.size)[j]?=some r→Value.okWide P W' .any 0 t r):
  s.post enc P f apart fresh handsOn again W args v W':=by
 have hlt:∀p∈before,p.block<W.heap.size:=fun p hp=>hW.lt p hp
 have hold:∀p∈before,(fun b=>decide (b<W.heap.size)) p.block=true:=fun p hp=>by simpa using hlt p hp
 refine⟨ds,gs,before,[],pa,pv,hW,hres _ _ _,hargs _ hold,hvars _ hold,World.keptBut_mono (fun p hp=>⟨hp,?_⟩) (hb.frame (·∈before)),fun _=> ?_⟩
 ·rw [hps,iO] at hp
  exact Or.inr hp
 ·obtain ⟨_,_,_,_,_,hz,hn⟩:=hW
  refine⟨hok,_,_,([]++pa)++pv,⟨[]++pa,pv,trodAll_append (hargs _ (fun _ _=>rfl)) (hres _ _ _),hvars _ (fun _ _=>rfl),rfl,?_,?_⟩,?_⟩
  ·intro b off hp
   have hin:MemPlace.cell b off∈before:=by rw[hps];simpa using hp
   rw[hb.frozen (hlt _ hin)]
   exact hz b off hin
  ·intro ha
   have:=hn ha
   rw[hps] at this
   simpa using this
  ·intro p hp _
   rw[hps]
   simpa using hp
/-- All arguments read as they did. -/
theorem rM (hl:laidOutB P=true) {W W':World} {sp:Nat→Bool}:∀{ts:List TypeId} {vs:List Value} {ds:List (DataW H)} {ps:List MemPlace},
  (∀t∈ts,P.readableRec t=true∧t<P.types.size)→DataW.TrodAll enc P W 0 (fun _=>true) true ts vs ds ps→(∀p∈ps,W.sameAt W' p)→(∀p∈ps,sp p.block=true)→DataW.TrodAll enc P W' 0 sp true ts vs ds ps
 | [],vs,ds,ps,_,h,_,_=>by
  cases vs<;>cases ds<;>simp[DataW.TrodAll] at h ⊢
  exact h
 | t::ts,vs,ds,ps,hr,h,hs,hsp=>by
  obtain⟨v,vs',d,ds',p,q,rfl,rfl,rfl,h1,h2⟩:=trodAll_cons h
  obtain⟨r1,r2⟩:=hr t (by simp)
  exact trodAll_cons_mk (WideElems.Trod_stays hl r1 r2 h1 (fun x hx=>hs x (by simp[hx])) (fun x hx=>hsp x (by simp[hx])))
   (rM hl (fun t' ht'=>hr t' (by simp[ht'])) h2 (fun x hx=>hs x (by simp[hx])) (fun x hx=>hsp x (by simp[hx])))
/-- The last step of a law: it returned true, and of what was there nothing has turned. -/
theorem QC (hl:laidOutB P=true) {f:Func} {s:ChangeSpec} {W W':World} {args:Array Value} {ds gs:List (DataW H)} {before:List MemPlace} {tb:TypeId}
  (hr:∀t∈f.params.toList,P.readableRec t=true∧t<P.types.size) (hvars:s.vars=[]) (hres:f.resultTypes=#[tb]) (htb:P.underlying tb=some .bool)
  (hfn:∀ds:List (DataW H),ds.length=f.params.size→s.fn H ds={results:=[.lit (.bool true)],args:=ds})
  (hW:DataW.Whole enc P f.params.toList s.vars false W args.toList ds gs before) (hb:Bw W W'):
  s.post enc P f false true false false W args (.bool true) W':=by
 have hW':=hW
 obtain⟨p,q,hA,hV,rfl,hfz,hnd⟩:=hW
 rw[hvars] at hV
 have hgs:gs=[]∧q=[]:=by cases gs<;>simp[DataW.TrodVars] at hV;exact⟨rfl,hV⟩
 obtain⟨rfl,rfl⟩:=hgs
 have hlen:∀{ts:List TypeId} {vs:List Value} {ds:List (DataW H)} {ps:List MemPlace},DataW.TrodAll enc P W 0 (fun _=>true) true ts vs ds ps→ds.length=ts.length:=by
  intro ts
  induction ts with
  | nil=>intro vs ds ps h;cases vs<;>cases ds<;>simp[DataW.TrodAll] at h ⊢
  | cons t ts ih=>
   intro vs ds ps h
   obtain⟨v,vs',d,ds',p,q,rfl,rfl,rfl,h1,h2⟩:=trodAll_cons h
   simp[ih h2]
 have hd:ds.length=f.params.size:=by rw[hlen hA,pY]
 have hlt:∀x∈p++[],x.block<W.heap.size:=fun x hx=>hW'.lt x hx
 have hfn':=hfn ds hd
 refine AB (pa:=p) (pv:=[]) hW' (fun b sp hdd=> ?_) (fun sp hsp=> ?_) (fun sp _=> ?_) rfl hb (ok_one (by rw[hres]) rfl (okWide_bool_mk htb _))
 ·rw [List.append_nil,hfn',hres]
  exact trodAll_mk1 (shut_bool htb _)
 ·rw [List.append_nil,hfn']
  exact rM hl hr hA (fun x hx=>hb.same (hlt x (by simp[hx]))) (fun x hx=>hsp x (by simp[hx]))
 ·rw [List.append_nil,hfn',hvars]
  rfl
end
section
variable {W:World}
theorem add_add' {v:Value} (a:Addr) (i:Nat) (h:W.cell? (a.add i)=some v):a.spot=none∨i≠0:=by
 by_cases hi:i=0
 ·subst hi
  left
  have:a.add 0=a:=by simp[Addr.add]
  rw[this] at h
  unfold World.cell? at h
  split at h
  ·split at h
   ·cases h
   ·rename_i hs;simpa using hs
  ·cases h
 ·exact .inr hi
theorem BO {a:Addr} {v:Value} (h:W.cell? (a.add 0)=some v):∃b o,a=⟨b,o,none⟩:=by
 rcases add_add' a 0 h with h' | h'
 ·exact ⟨a.block,a.off,by cases a;simp_all⟩
 ·exact absurd rfl h'
end
section
variable {H:Type} {enc:TypeId×Value→H} {P:Program} {w:World} {base:Nat} {spare:Nat→Bool} {held:Bool}
/-- The fields' types and places. -/
def fieldsOf (P:Program) (e:TypeId):Option (List (TypeId×Nat)):=match P.underlying e with
 | some (.struct fs)=>some (fs.toList.map fun f=>(f.type,f.offset))
 | _=>none
end
theorem QD:Tryz.prog.cellsOf 5=1:=by kernel_rfl
theorem FT:Tryz.prog.cellsOf 35=1:=by kernel_rfl
section
variable {H:Type} {enc:TypeId×Value→H} {W:World} {held:Bool}
theorem U6 {fuel:Nat} {v:Value} {x:DataW H×List MemPlace} (h:DataW.trod enc Tryz.prog W 0 (fun _=>true) held fuel 35 [v]=some x):∃l,SB W v l:=by
 rcases open_slice1 Tryz.underlying35 QD h with ⟨e,_⟩ | ⟨a,len,cap,m,n,V,D,Pl,e,_,hl,hm,hmm,_,hx⟩
 ·injection e with e _;subst e
  exact⟨[],SB.nil W⟩
 ·injection e with e _;subst e
  have hx':∀i,i<len→∃z:UInt8,W.cell? (a.add i)=some (.int .u8 z.toNat):=by
   intro i hi
   obtain⟨h1,h2⟩:=hx i (by rw[hmm];simp;omega)
   obtain⟨z,e1,_,hw⟩:=DataW.trod_int Tryz.underlying5 h2
   injection e1 with e1 _
   rw[e1] at h1
   simp[Lit.wf,IntKind.min,IntKind.max,IntKind.signed,IntKind.bits] at hw
   exact⟨UInt8.ofNat z.toNat,by rw[h1];simp;omega⟩
  obtain⟨f,hf⟩:=choose_lt hx'
  refine⟨(List.range len).map f,SB.tN (n:=len) ⟨by simp,fun hn=> ?_⟩ hl hm⟩
  obtain⟨b,o,rfl⟩:=BO (hf 0 hn)
  refine⟨b,o,rfl,fun k hk=> ?_⟩
  have:=hf k hk
  rw[addr_add] at this
  simpa [hk] using this
end
/-- The bytes of a number, the last one first. -/
def oD (n:Nat):List UInt8:=if h:n=0 then [] else UInt8.ofNat n::oD (n / 256)
termination_by n
decreasing_by exact Nat.div_lt_self (by omega) (by omega)
/-- A length's bytes. -/
def kL (n:Nat):List UInt8:=if n≤127 then [UInt8.ofNat n] else (oD n++[UInt8.ofNat (128+(oD n).length)]).reverse
def bG (tag:Nat) (b:List UInt8):List UInt8:=UInt8.ofNat tag::(kL b.length++b)
/-- A body's bytes of a number that isn't below 0, the last one first. -/
def su (n:Nat):List UInt8:=if h:n<128 then [UInt8.ofNat n] else UInt8.ofNat n::su (n / 256)
termination_by n
decreasing_by exact Nat.div_lt_self (by omega) (by omega)
def dY (n:Nat):List UInt8:=(su n).reverse
theorem nP:oD 0=[]:=by unfold oD;simp
theorem ug {n:Nat} (h:0<n):oD n=UInt8.ofNat n::oD (n / 256):=by
 rw[oD,dif_neg (by omega)]
theorem Fp {n:Nat}:∀k,n<256 ^ k→(oD n).length≤k:=by
 intro k
 induction k generalizing n with
 | zero=>
  intro h
  have h0:n=0:=by simpa using h
  subst h0
  rw[nP]
  simp
 | succ k ih=>
  intro h
  rcases pF n with h0 | h0
  ·subst h0;rw[nP];simp
  ·rw [ug h0,qV]
   have:=ih (n:=n / 256) (by rw[Nat.pow_succ] at h;exact Nat.div_lt_of_lt_mul (by omega))
   omega
theorem lU {n:Nat} (h:n<128):su n=[UInt8.ofNat n]:=by rw[su,dif_pos h]
theorem qM {n:Nat} (h:128≤n):su n=UInt8.ofNat n::su (n / 256):=by rw[su,dif_neg (by omega)]
theorem UQ (n:Nat):su n≠[]:=by
 rcases Nat.lt_or_ge n 128 with h | h
 ·rw [lU h];simp
 ·rw [qM h];simp
theorem uh {n:Nat}:∀k,n<128*256 ^ k→(su n).length≤k+1:=by
 intro k
 induction k generalizing n with
 | zero=>intro h;rw[lU (by simpa using h)];simp
 | succ k ih=>
  intro h
  rcases Nat.lt_or_ge n 128 with h0 | h0
  ·rw [lU h0];simp
  ·rw [qM h0,qV]
   have:=ih (n:=n / 256) (by rw[Nat.pow_succ,←Nat.mul_assoc] at h;exact Nat.div_lt_of_lt_mul (by omega))
   omega
theorem Fq {n:Nat} (h:n≤65535):(kL n).length≤3:=by
 unfold kL
 split
 ·simp
 ·have:=Fp (n:=n) 2 (by omega)
  simp
  omega
theorem oG (tag:Nat) (b:List UInt8) (h:b.length≤65535):(bG tag b).length≤b.length+4:=by
 unfold bG
 have:=Fq h
 simp
 omega
section
variable {P:Program} {w:World}
theorem xg (m:Nat):(Builtin.zeroCells (Value.int .u8 0).cells m).toList=ay (List.replicate m 0):=by
 apply List.ext_getElem
 ·simp [Builtin.zeroCells,ay,Value.cells]
 ·intro i h1 h2
  simp[Builtin.zeroCells,ay,Value.cells,Nat.mod_one]
theorem pU (t tx ty e:TypeId) (i:TypeInfo) (ht:P.underlying t=some (.slice e)) (hx:P.underlying tx=some (.int .i64)) (hi:P.info? e=some i) (hz:i.zero=some (.int .u8 0)) (hs1:i.size=1) (hb1:i.bytes=1)
  (g o sLen sCap m:Nat) (cur:Array Value) (hg:w.heap[g]?=some (.cells cur e (0,0))) (hm:m≤281474976710656) (h0:0<m)
  (hroom:sLen+m≤sCap) (hfit:o+sLen+m≤cur.size):
  (Builtin.append_ #[t,tx] ty #[.slice (some ⟨g,o,none⟩) sLen sCap,.int .i64 (m:Int)]).run P w=
   .ok (.slice (some ⟨g,o,none⟩) (sLen+m) sCap) (w.setRow g (cur.toList.take (o+sLen)++ay (List.replicate m 0)++cur.toList.drop (o+sLen+m)).toArray):=by
 have hst:=run_storeCells_at (P:=P) g (o+sLen) e (ay (List.replicate m 0)) 0 cur w hg (by rw[aV,List.length_replicate];simpa using hfit) (fQ _)
 simp only[Nat.add_zero] at hst
 have hw:IntKind.i64.wrap (m:Int)=(m:Int):=cO _ (by omega)
 have hn:¬((m:Int)<0):=by omega
 have h48:¬(281474976710656<(m:Int)):=by omega
 have h0':¬m=0:=by omega
 have hzc:=xg m
 rw[aV,List.length_replicate,←hzc] at hst
 rw[←hzc]
 simp[Builtin.append_,run_underlying ht,run_underlying hx,sizeOf,typeInfo,zeroValue,hi,hz,hs1,hb1,asInt,asIntOf,hw,hn,h48,h0',hroom,Addr.add_lit,hst]
theorem run_append_grow_zeros (t tx ty e:TypeId) (i:TypeInfo) (ht:P.underlying t=some (.slice e)) (hx:P.underlying tx=some (.int .i64)) (hi:P.info? e=some i) (hz:i.zero=some (.int .u8 0)) (hs1:i.size=1) (hb1:i.bytes=1) (base:Option Addr) (sLen sCap m:Nat) (olds:List Value)
  (hold:(Builtin.firstCells 1 sLen (.slice base sLen sCap)).run P w.drew=.ok olds.toArray w.drew) (hm:m≤281474976710656) (h0:0<m)
  (hg:sCap<sLen+m) (h63:((sLen+m:Nat):Int)≤9223372036854775807) (hfit:Builtin.nextslicecap (sLen+m) sCap*1≤281474976710656):
  (Builtin.append_ #[t,tx] ty #[.slice base sLen sCap,.int .i64 (m:Int)]).run P w=
   .ok (.slice (some ⟨w.heap.size,0,none⟩) (sLen+m) (grownCap w (sLen+m) sCap e))
    (w.drew.alloc (.cells ((olds++ay (List.replicate m 0)).toArray++Builtin.zeroCells (Value.int .u8 0).cells (grownCap w (sLen+m) sCap e-(sLen+m))) e)):=by
 have hn:¬(sLen+m≤sCap):=by omega
 have hw:IntKind.i64.wrap (m:Int)=(m:Int):=cO _ (by omega)
 have hn0:¬((m:Int)<0):=by omega
 have h48:¬(281474976710656<(m:Int)):=by omega
 have h0':¬m=0:=by omega
 have hmx:max (m:Int) 0=(m:Int):=by omega
 have h63':¬(9223372036854775807<((sLen:Int)+(m:Int))):=by omega
 have h48':¬(281474976710656<Builtin.nextslicecap (sLen+m) sCap):=by omega
 have hzc:=xg m
 rw[←hzc]
 simp[Builtin.append_,run_underlying ht,run_underlying hx,sizeOf,typeInfo,zeroValue,hi,hz,hs1,hb1,asInt,asIntOf,hw,hn0,h48,h0',hmx,hn,h63',h48',Question.forced,hold,newRow,grownCap]
 try (congr 2;apply Array.ext';simp[List.append_assoc])
theorem vV (t tx ty e:TypeId) (i:TypeInfo) (ht:P.underlying t=some (.slice e)) (hx:P.underlying tx=some (.int .i64)) (hi:P.info? e=some i) (hz:i.zero=some (.int .u8 0)) (hs1:i.size=1) (hb1:i.bytes=1) {base n m:Nat} {v:Value} {l:List UInt8}
  (hown:ah w base e 1 v n (ay l)) (h0:0<m) (hbytes:(n+m)≤140737488355328) (hbase:base≤w.heap.size):
  ∃v' w',(Builtin.append_ #[t,tx] ty #[v,.int .i64 (m:Int)]).run P w=.ok v' w'∧ah w' base e 1 v' (n+m) (ay (l++List.replicate m 0))∧w.grownBy w' v.ownBlock∧(v'.ownBlock=v.ownBlock∨v'.ownBlock=some w.heap.size):=by
 have hlen:(ay l++ay (List.replicate m 0)).length=(n+m)*1:=by rw[bP,hown.1,aV,List.length_replicate];omega
 rw[iQ]
 have h63:n+m≤maxLen:=by unfold maxLen;omega
 have grown:∀(old:Nat),∀(row:Option Nat),
   ah (w.drew.alloc (.cells ((ay l++ay (List.replicate m 0)).toArray++Builtin.zeroCells (Value.int .u8 0).cells (grownCap w (n+m) old e-(n+m))) e)) base e 1
    (.slice (some ⟨w.heap.size,0,none⟩) (n+m) (grownCap w (n+m) old e)) (n+m) (ay l++ay (List.replicate m 0))∧
   w.grownBy (w.drew.alloc (.cells ((ay l++ay (List.replicate m 0)).toArray++Builtin.zeroCells (Value.int .u8 0).cells (grownCap w (n+m) old e-(n+m))) e)) row:=by
  intro old row
  have hge:=grownCap_ge w (n+m) old e
  have hcm:grownCap w (n+m) old e≤maxLen:=grownCap_le_maxLen w (n+m) old e h63
  refine⟨⟨hlen,.inr ⟨w.heap.size,0,_,_,rfl,hbase,aA w.drew _,hge,hcm,?_,?_⟩⟩,⟨rfl,rfl,rfl,by simp,fun k hk _=>heap_alloc_old w.drew _ hk⟩⟩
  ·have:((ay l++ay (List.replicate m 0)).toArray++Builtin.zeroCells (Value.int .u8 0).cells (grownCap w (n+m) old e-(n+m))).size=grownCap w (n+m) old e*1:=by
    rw[Array.size_append,size_zeroCells,List.size_toArray,hlen]
    show (n+m)*1+(_-_)*1=_
    omega
   omega
  ·simp only[Array.toList_append,List.drop_zero]
   rw[←hlen]
   exact List.take_left
 have h63':((n+m:Nat):Int)≤9223372036854775807:=by unfold maxLen at h63;omega
 rcases hown.2 with ⟨rfl,rfl⟩ | ⟨g,o,cap,cur,rfl,hbg,hg,hnc,hcm,hcs,htake⟩
 ·have hx0:ay l=[]:=mP (by simpa using hown.1)
  rw[hx0] at grown ⊢
  have hr:=run_append_grow_zeros (P:=P) (w:=w) t tx ty e i ht hx hi hz hs1 hb1 none 0 0 m [] (by simp[Builtin.firstCells]) (by omega) h0 (by omega) h63' (growslice_fits (by omega) (by omega))
  have hgr:=grown 0 (Value.ownBlock (.slice none 0 0))
  exact⟨_,_,hr,hgr.1,hgr.2,.inr rfl⟩
 ·by_cases hroom:n+m≤cap
  ·have hr:=pU (P:=P) (w:=w) t tx ty e i ht hx hi hz hs1 hb1 g o n cap m cur hg (by omega) h0 hroom (by omega)
   refine⟨_,_,hr,⟨hlen,.inr ⟨g,o,cap,_,rfl,hbg,setRow_heap w g cur _ e _ hg,hroom,hcm,?_,?_⟩⟩,⟨rfl,rfl,rfl,by simp,fun k _ hk=>setRow_other w g k _ (fun e=>hk (by simp[Value.ownBlock,e]))⟩,.inl rfl⟩
   ·simp only[List.size_toArray,List.length_append,List.length_take,List.length_drop,Array.length_toList,aV,List.length_replicate]
    omega
   ·rw [Nat.mul_one] at htake
    have hln:(ay l).length=n:=by have:=hown.1;omega
    have h1:(cur.toList.take (o+n)).drop o=(cur.toList.drop o).take n:=by
     rw[List.drop_take];congr 1;omega
    rw[List.toList_toArray,mQ,List.drop_append_of_le_length (by rw[eu,pY];omega),h1,htake,←mQ,Nat.mul_one]
    refine List.take_left' ?_
    rw[hlen,Nat.mul_one]
  ·have holds:∀j u,(ay l)[j]?=some u→w.cell? ⟨g,o+j,none⟩=some u:=by
    intro j u hu
    obtain⟨g',o',cap',hv,_,_,hc⟩:=hown.cells (by have:=(fA.1 hu).1;omega)
    injection hv with hv _ _
    injection hv with hv
    injection hv with hv1 hv2
    subst hv1;subst hv2
    exact hc j u hu
   have hfo:=run_firstCells_some (P:=P) w.drew 1 n ⟨g,o,none⟩ n cap (ay l) hown.1 (by intro j u hu;rw[addr_add];simpa using holds j u hu)
   have hr:=run_append_grow_zeros (P:=P) (w:=w) t tx ty e i ht hx hi hz hs1 hb1 (some ⟨g,o,none⟩) n cap m (ay l) hfo (by omega) h0 (by omega) h63' (growslice_fits (by omega) (by omega))
   have hgr:=grown cap (Value.ownBlock (.slice (some ⟨g,o,none⟩) n cap))
   exact⟨_,_,hr,hgr.1,hgr.2,.inr rfl⟩
end
/-- append of m zeros, as an operation of the walk. -/
theorem lF {ops:Array Oper} {rest:List Oper} {o:Oper} {a:Act} {w:World} {Q:Exit→Act→World→Prop} (hgd:o.guard=none) (s x:Operand)
  (ho:o.op=.call {callee:=.builtin .append,args:=#[s,x],argTypes:=#[35,3]})
  {base m:Nat} {v:Value} {l:List UInt8} (hown:OB w base v l) (hs:a.eval s=v) (hx:a.eval x=.int .i64 (m:Int)) (h0:0<m)
  (hbytes:l.length+m≤140737488355328) (hbase:base≤w.heap.size)
  (h:∀v' w',OB w' base v' (l++List.replicate m 0)→w.grownBy w' v.ownBlock→(v'.ownBlock=v.ownBlock∨v'.ownBlock=some w.heap.size)→wpList Tryz.prog ops Q rest (a.put o.dst v') w'):wpList Tryz.prog ops Q (o::rest) a w:=by
 obtain⟨i0,hi,hz0,hz1,hz2⟩:=info_parts xK
 refine wpList_plain hgd fun K hK=> ?_
 obtain⟨v',w',hr,h2,h3,h4⟩:=vV (P:=Tryz.prog) (w:=w) 35 3 o.type 5 i0 Tryz.underlying35 Tryz.underlying3 hi hz0 hz1 hz2 hown h0 hbytes hbase
 unfold Oper.wp execOp
 simp only[ho,resolve,invoke,builtin,Sem.run_bind,Sem.run_pure,Result.andThen_ok,List.map_toArray,List.map_cons,List.map_nil,hs,hx,hr]
 refine hK _ _ (h v' w' ?_ h3 h4)
 unfold OB
 rw[bP,List.length_replicate]
 exact h2
theorem Dh:(Tryz.prog.info? 5).map (·.size)=some 1:=by kernel_rfl
theorem Iu {w:World} {B n c pos nb:Nat} {A:Option Addr} {l bs:List UInt8} (hown:OB w B (.slice A n c) l) (hn:l.length=n) (hfit:pos+nb≤n) {dp:Option Addr} {dCap:Nat}
  (hdp:0<nb→∀g o,A=some ⟨g,o,none⟩→dp=some ⟨g,o+pos,none⟩) {A2:Option Addr} {c2:Nat} (hsrc:RB w A2 nb bs) (ty:TypeId):
  ∃w',(Builtin.copy_ #[35,35] ty #[.slice dp (n-pos) dCap,.slice A2 nb c2]).run Tryz.prog w=.ok (goInt nb) w'∧OB w' B (.slice A n c) (l.take pos++bs++l.drop (pos+nb))∧Fr (fun k=>(Value.slice A n c).ownBlock=some k) w w':=by
 have hbl:=hsrc.1
 rcases pF nb with h0 | h0
 ·subst h0
  obtain rfl:bs=[]:=mP hbl
  refine⟨w,run_copy_none w _ _ ty 5 dp A2 _ dCap 0 c2 Tryz.underlying35 Dh (by simp),?_,Fr.refl _ _⟩
  have:l.take pos++[]++l.drop (pos+0)=l:=by simp
  rw[this]
  exact hown
 ·obtain ⟨h1,h2⟩:=hown
  rcases h2 with ⟨h2,h3⟩ | ⟨g,o,cap,cur,h2,h3,h4,h5,h6,h7,h8⟩
  ·omega
  ·injection h2 with e1 e2 e3
   subst e1;subst e3
   rw[hdp h0 g o rfl]
   obtain⟨b2,o2,rfl,hc2⟩:=hsrc.2 h0
   have hsz:o+n≤cur.size:=by omega
   have hr:=run_copy_row (P:=Tryz.prog) w 35 35 ty 5 g (o+pos) (n-pos) dCap ⟨b2,o2,none⟩ nb c2 cur 5 (ay bs) Tryz.underlying35 Dh h4
    (by rw[aV,hbl];exact(Nat.min_eq_left (by omega)).symm) (RB.news hbl hc2) (by rw[aV,hbl];omega) (fQ _)
   rw[aV,hbl] at hr
   refine⟨_,hr,⟨?_,.inr ⟨g,o,c,_,by congr 1;simp[hbl];omega,h3,setRow_heap w g cur _ _ _ h4,?_,h6,?_,?_⟩⟩,?_⟩
   ·rw [aV,Nat.mul_one]
   ·simp [hbl];omega
   ·simp only[List.size_toArray,List.length_append,List.length_take,List.length_drop,Array.length_toList,aV,hbl];omega
   ·have e:(l.take pos++bs++l.drop (pos+nb)).length=n:=by simp[hbl];omega
    rw[e,List.toList_toArray,Nat.mul_one]
    rw[Nat.mul_one,hn] at h8
    have q1:(cur.toList.drop o).take n=ay l:=h8
    have q2:(cur.toList.take (o+pos)).drop o=ay (l.take pos):=by
     rw[List.drop_take,show o+pos-o=pos by omega]
     have:(cur.toList.drop o).take pos=((cur.toList.drop o).take n).take pos:=by rw[List.take_take,Nat.min_eq_left (by omega)]
     rw[this,q1]
     simp[ay,List.map_take]
    have q3:(cur.toList.drop (o+pos+nb)).take (n-(pos+nb))=ay (l.drop (pos+nb)):=by
     have:ay (l.drop (pos+nb))=(ay l).drop (pos+nb):=by simp[ay,List.map_drop]
     rw[this,←q1,List.drop_take,List.drop_drop,show o+(pos+nb)=o+pos+nb by omega]
    rw[mQ,List.drop_append_of_le_length (by rw[eu,pY];omega),q2,iQ,iQ,←q3,←mQ]
    rw[List.take_append,fO (by simp[aV,hbl];omega)]
    congr 1
    simp only[List.length_append,aV,List.length_take,hbl]
    congr 1
    omega
   ·exact ⟨rfl,rfl,rfl,by simp[World.setRow],fun k hk hne=>setRow_other w g k _ (fun e=>hne (by simp[Value.ownBlock,e]))⟩
theorem lI {ops:Array Oper} {o:Oper} {a:Act} {w:World} {K:Act→World→Prop} {Q:Exit→Act→World→Prop} {E:Prop} (hgd:o.guard=none) (d s:Operand)
  (ho:o.op=.call {callee:=.builtin .copy,args:=#[d,s],argTypes:=#[35,35]})
  {B n c pos nb:Nat} {A:Option Addr} {l bs:List UInt8} (hown:OB w B (.slice A n c) l) (hn:l.length=n) (hfit:pos+nb≤n) {dp:Option Addr} {dCap:Nat}
  (hd:a.eval d=.slice dp (n-pos) dCap) (hdp:0<nb→∀g o,A=some ⟨g,o,none⟩→dp=some ⟨g,o+pos,none⟩) {A2:Option Addr} {c2:Nat} (hs:a.eval s=.slice A2 nb c2) (hsrc:RB w A2 nb bs)
  (h:∀w',OB w' B (.slice A n c) (l.take pos++bs++l.drop (pos+nb))→Fr (fun k=>(Value.slice A n c).ownBlock=some k) w w'→K (a.put o.dst (goInt nb)) w'):
  if Region.wanted o (yielded ops a.tmps)=true then Oper.wp Tryz.prog o a w K Q else E:=by
 have hw:Region.wanted o (yielded ops a.tmps)=true:=by simp[Region.wanted,hgd]
 rw[aF hw]
 obtain⟨w',hr,h1,h2⟩:=Iu hown hn hfit hdp hsrc (c2:=c2) (dCap:=dCap) o.type
 unfold Oper.wp
 simp[execOp,ho,resolve,invoke,builtin,hd,hs,hr,Result.andThen]
 exact h w' h1 h2
theorem OB.setB {w:World} {B g o n cap k:Nat} {l:List UInt8} (x:UInt8) (h:OB w B (.slice (some ⟨g,o,none⟩) n cap) l) (hn:l.length=n) (_hk:k<n):
  w.frozen? ⟨g,o+k,none⟩=false∧OB (w.setCell ⟨g,o+k,none⟩ (.int .u8 (x.toNat:Int))) B (.slice (some ⟨g,o,none⟩) n cap) (l.set k x):=by
 obtain⟨h1,h2⟩:=h
 rcases h2 with ⟨h2,_⟩ | ⟨g',o',cap',cur,h2,h3,h4,h5,h6,h7,h8⟩
 ·cases h2
 ·injection h2 with e1 e2 e3
  injection e1 with e1
  injection e1 with e4 e5
  subst e4;subst e5;subst e3
  refine⟨Kj h4,?_,.inr ⟨_,_,_,_,by rw[List.length_set,hn],h3,aI _ _ _ _ _ _ h4,by rw[List.length_set];exact h5,h6,by simpa using h7,?_⟩⟩
  ·rw [aV,Nat.mul_one]
  ·rw [List.length_set,Array.toList_setIfInBounds,List.drop_set,aG (by omega),List.take_set,h8]
   simp[ay,List.map_set]
end Go.Proofs.YtdhbpajamlfacaaGreatDoor
