/- What every law's proof shares: arguments read as lists; the row's last step where nothing that was there has turned. -/
import Derived.Test.YtdhbpajamlfacaaGreatDoorBase
import Derived.Test.YtdhbpajamlfacaaGreatDoorRows
import Derived.ProofKit
import Derived.OpenShut
import Derived.Deep.Slices
import Derived.LaidMore
import Derived.LaidLaws
import Derived.Stop.BytesEq
import Derived.Laws.StructEq
import Derived.Deep.LoopGhost
import Derived.Deep.RegionLaw
import Derived.Deep.RegionHeld3
set_option maxRecDepth 100000
namespace Go.Proofs.YtdhbpajamlfacaaGreatDoor
open Go.RowKit Go.ChangeShapes Go.WideShapes Go.ChangeAt Go.Deep
theorem own:ownKnob Tryz.prog.godebug=none:=by kernel_rfl
theorem laidOut:laidOutB Tryz.prog=true:=by kernel_rfl
section
variable {H:Type} {enc:TypeId×Value→H} {P:Program}
theorem yA {f:Func} {s:ChangeSpec} {apart fresh handsOn again:Bool} {W W':World} {args:Array Value} {v:Value} {ds gs:List (DataW H)} {before pa pv:List MemPlace}
  (hW:DataW.Whole enc P f.params.toList s.vars apart W args.toList ds gs before)
  (hres:∀(b:Nat) (sp:Nat→Bool) (hd:Bool),DataW.TrodAll enc P W' b sp hd f.resultTypes.toList (v.resultList f.resultTypes.size) (s.fn H (ds++gs)).results [])
  (hargs:∀sp:Nat→Bool,(∀p∈before,sp p.block=true)→DataW.TrodAll enc P W' 0 sp true f.params.toList args.toList (s.fn H (ds++gs)).args pa)
  (hvars:∀sp:Nat→Bool,(∀p∈before,sp p.block=true)→DataW.TrodVars enc P W' sp s.vars (s.fn H (ds++gs)).vars pv)
  (hps:before=pa++pv) (hb:Below W.heap.size W W')
  (hok:∀(j:Nat) (t:TypeId) (r:Value),f.resultTypes[j]?=some t→(v.resultList f.resultTypes.size)[j]?=some r→Value.okWide P W' .any 0 t r):
  s.post enc P f apart fresh handsOn again W args v W':=by
 have hlt:∀p∈before,p.block<W.heap.size:=fun p hp=>hW.lt p hp
 have hold:∀p∈before,(fun b=>decide (b<W.heap.size)) p.block=true:=fun p hp=>by simpa using hlt p hp
 refine⟨ds,gs,before,[],pa,pv,hW,hres _ _ _,hargs _ hold,hvars _ hold,World.keptBut_mono (fun p hp=>⟨hp,?_⟩) (hb.frame (·∈before)),fun _=> ?_⟩
 ·rw [hps,List.mem_append] at hp
  exact Or.inr hp
 ·obtain ⟨_,_,_,_,_,hz,hn⟩:=hW
  refine⟨hok,_,_,([]++pa)++pv,⟨[]++pa,pv,trodAll_append (hargs _ (fun _ _=>rfl)) (hres _ _ _),hvars _ (fun _ _=>rfl),rfl,?_,?_⟩,?_⟩
  ·intro b off hp
   have hin:MemPlace.cell b off∈before:=by rw[hps];simpa using hp
   rw[hb.frozen (hlt _ hin)]
   exact hz b off hin
  ·intro ha
   have:=hn ha
   rw[hps] at this
   simpa using this
  ·intro p hp _
   rw[hps]
   simpa using hp
/-- All arguments read as they did. -/
theorem oO (hl:laidOutB P=true) {W W':World} {sp:Nat→Bool}:∀{ts:List TypeId} {vs:List Value} {ds:List (DataW H)} {ps:List MemPlace},
  (∀t∈ts,P.readableRec t=true∧t<P.types.size)→DataW.TrodAll enc P W 0 (fun _=>true) true ts vs ds ps→(∀p∈ps,W.sameAt W' p)→(∀p∈ps,sp p.block=true)→DataW.TrodAll enc P W' 0 sp true ts vs ds ps
 | [],vs,ds,ps,_,h,_,_=>by
  cases vs<;>cases ds<;>simp[DataW.TrodAll] at h ⊢
  exact h
 | t::ts,vs,ds,ps,hr,h,hs,hsp=>by
  obtain⟨v,vs',d,ds',p,q,rfl,rfl,rfl,h1,h2⟩:=trodAll_cons h
  obtain⟨r1,r2⟩:=hr t (by simp)
  exact trodAll_cons_mk (WideElems.Trod_stays hl r1 r2 h1 (fun x hx=>hs x (by simp[hx])) (fun x hx=>hsp x (by simp[hx])))
   (oO hl (fun t' ht'=>hr t' (by simp[ht'])) h2 (fun x hx=>hs x (by simp[hx])) (fun x hx=>hsp x (by simp[hx])))
/-- The last step of a law: it returned true, and of what was there nothing has turned. -/
theorem DI (hl:laidOutB P=true) {f:Func} {s:ChangeSpec} {W W':World} {args:Array Value} {ds gs:List (DataW H)} {before:List MemPlace} {tb:TypeId}
  (hr:∀t∈f.params.toList,P.readableRec t=true∧t<P.types.size) (hvars:s.vars=[]) (hres:f.resultTypes=#[tb]) (htb:P.underlying tb=some .bool)
  (hfn:∀ds:List (DataW H),ds.length=f.params.size→s.fn H ds={results:=[.lit (.bool true)],args:=ds})
  (hW:DataW.Whole enc P f.params.toList s.vars false W args.toList ds gs before) (hb:Below W.heap.size W W'):
  s.post enc P f false true false false W args (.bool true) W':=by
 have hW':=hW
 obtain⟨p,q,hA,hV,rfl,hfz,hnd⟩:=hW
 rw[hvars] at hV
 have hgs:gs=[]∧q=[]:=by cases gs<;>simp[DataW.TrodVars] at hV;exact⟨rfl,hV⟩
 obtain⟨rfl,rfl⟩:=hgs
 have hlen:∀{ts:List TypeId} {vs:List Value} {ds:List (DataW H)} {ps:List MemPlace},DataW.TrodAll enc P W 0 (fun _=>true) true ts vs ds ps→ds.length=ts.length:=by
  intro ts
  induction ts with
  | nil=>intro vs ds ps h;cases vs<;>cases ds<;>simp[DataW.TrodAll] at h ⊢
  | cons t ts ih=>
   intro vs ds ps h
   obtain⟨v,vs',d,ds',p,q,rfl,rfl,rfl,h1,h2⟩:=trodAll_cons h
   simp[ih h2]
 have hd:ds.length=f.params.size:=by rw[hlen hA,Array.length_toList]
 have hlt:∀x∈p++[],x.block<W.heap.size:=fun x hx=>hW'.lt x hx
 have hfn':=hfn ds hd
 refine yA (pa:=p) (pv:=[]) hW' (fun b sp hdd=> ?_) (fun sp hsp=> ?_) (fun sp _=> ?_) rfl hb (ok_one (by rw[hres]) rfl (okWide_bool_mk htb _))
 ·rw [List.append_nil,hfn',hres]
  exact trodAll_mk1 (shut_bool htb _)
 ·rw [List.append_nil,hfn']
  exact oO hl hr hA (fun x hx=>hb.same (hlt x (by simp[hx]))) (fun x hx=>hsp x (by simp[hx]))
 ·rw [List.append_nil,hfn',hvars]
  rfl
end
section
variable {W:World}
theorem add_add' {v:Value} (a:Addr) (i:Nat) (h:W.cell? (a.add i)=some v):a.spot=none∨i≠0:=by
 by_cases hi:i=0
 ·subst hi
  left
  have:a.add 0=a:=by simp[Addr.add]
  rw[this] at h
  unfold World.cell? at h
  split at h
  ·split at h
   ·cases h
   ·rename_i hs;simpa using hs
  ·cases h
 ·exact .inr hi
theorem y8 {a:Addr} {v:Value} (h:W.cell? (a.add 0)=some v):∃b o,a=⟨b,o,none⟩:=by
 rcases add_add' a 0 h with h' | h'
 ·exact ⟨a.block,a.off,by cases a;simp_all⟩
 ·exact absurd rfl h'
end
section
variable {H:Type} {enc:TypeId×Value→H} {P:Program} {w:World} {base:Nat} {spare:Nat→Bool} {held:Bool}
/-- The fields' types and places. -/
def fieldsOf (P:Program) (e:TypeId):Option (List (TypeId×Nat)):=match P.underlying e with
 | some (.struct fs)=>some (fs.toList.map fun f=>(f.type,f.offset))
 | _=>none
end
theorem Oe:Tryz.prog.cellsOf 5=1:=by kernel_rfl
theorem DJ:Tryz.prog.cellsOf 35=1:=by kernel_rfl
section
variable {H:Type} {enc:TypeId×Value→H} {W:World} {held:Bool}
theorem RY {fuel:Nat} {v:Value} {x:DataW H×List MemPlace} (h:DataW.trod enc Tryz.prog W 0 (fun _=>true) held fuel 35 [v]=some x):∃l,SB W v l:=by
 rcases open_slice1 Tryz.underlying35 Oe h with ⟨e,_⟩ | ⟨a,len,cap,m,n,V,D,Pl,e,_,hl,hm,hmm,_,hx⟩
 ·injection e with e _;subst e
  exact⟨[],SB.nil W⟩
 ·injection e with e _;subst e
  have hx':∀i,i<len→∃z:UInt8,W.cell? (a.add i)=some (.int .u8 z.toNat):=by
   intro i hi
   obtain⟨h1,h2⟩:=hx i (by rw[hmm];simp;omega)
   obtain⟨z,e1,_,hw⟩:=DataW.trod_int Tryz.underlying5 h2
   injection e1 with e1 _
   rw[e1] at h1
   simp[Lit.wf,IntKind.min,IntKind.max,IntKind.signed,IntKind.bits] at hw
   exact⟨UInt8.ofNat z.toNat,by rw[h1];simp;omega⟩
  obtain⟨f,hf⟩:=choose_lt hx'
  refine⟨(List.range len).map f,SB.qB (n:=len) ⟨by simp,fun hn=> ?_⟩ hl hm⟩
  obtain⟨b,o,rfl⟩:=y8 (hf 0 hn)
  refine⟨b,o,rfl,fun k hk=> ?_⟩
  have:=hf k hk
  rw[addr_add] at this
  simpa [hk] using this
end
/-- The bytes of a number, the last one first. -/
def lJ (n:Nat):List UInt8:=if h:n=0 then [] else UInt8.ofNat n::lJ (n / 256)
termination_by n
decreasing_by exact Nat.div_lt_self (by omega) (by omega)
/-- A length's bytes. -/
def jm (n:Nat):List UInt8:=if n≤127 then [UInt8.ofNat n] else (lJ n++[UInt8.ofNat (128+(lJ n).length)]).reverse
def aT (tag:Nat) (b:List UInt8):List UInt8:=UInt8.ofNat tag::(jm b.length++b)
/-- A body's bytes of a number that isn't below 0, the last one first. -/
def pz (n:Nat):List UInt8:=if h:n<128 then [UInt8.ofNat n] else UInt8.ofNat n::pz (n / 256)
termination_by n
decreasing_by exact Nat.div_lt_self (by omega) (by omega)
def dG (n:Nat):List UInt8:=(pz n).reverse
theorem kU:lJ 0=[]:=by unfold lJ;simp
theorem qG {n:Nat} (h:0<n):lJ n=UInt8.ofNat n::lJ (n / 256):=by
 rw[lJ,dif_neg (by omega)]
theorem Dl {n:Nat}:∀k,n<256 ^ k→(lJ n).length≤k:=by
 intro k
 induction k generalizing n with
 | zero=>
  intro h
  have h0:n=0:=by simpa using h
  subst h0
  rw[kU]
  simp
 | succ k ih=>
  intro h
  rcases Nat.eq_zero_or_pos n with h0 | h0
  ·subst h0;rw[kU];simp
  ·rw [qG h0,List.length_cons]
   have:=ih (n:=n / 256) (by rw[Nat.pow_succ] at h;exact Nat.div_lt_of_lt_mul (by omega))
   omega
theorem jQ {n:Nat} (h:n<128):pz n=[UInt8.ofNat n]:=by rw[pz,dif_pos h]
theorem og {n:Nat} (h:128≤n):pz n=UInt8.ofNat n::pz (n / 256):=by rw[pz,dif_neg (by omega)]
theorem RD (n:Nat):pz n≠[]:=by
 rcases Nat.lt_or_ge n 128 with h | h
 ·rw [jQ h];simp
 ·rw [og h];simp
theorem qH {n:Nat}:∀k,n<128*256 ^ k→(pz n).length≤k+1:=by
 intro k
 induction k generalizing n with
 | zero=>intro h;rw[jQ (by simpa using h)];simp
 | succ k ih=>
  intro h
  rcases Nat.lt_or_ge n 128 with h0 | h0
  ·rw [jQ h0];simp
  ·rw [og h0,List.length_cons]
   have:=ih (n:=n / 256) (by rw[Nat.pow_succ,←Nat.mul_assoc] at h;exact Nat.div_lt_of_lt_mul (by omega))
   omega
theorem Dn {n:Nat} (h:n≤65535):(jm n).length≤3:=by
 unfold jm
 split
 ·simp
 ·have:=Dl (n:=n) 2 (by omega)
  simp
  omega
theorem lK (tag:Nat) (b:List UInt8) (h:b.length≤65535):(aT tag b).length≤b.length+4:=by
 unfold aT
 have:=Dn h
 simp
 omega
section
variable {P:Program} {w:World}
theorem uN (m:Nat):(Builtin.zeroCells (Value.int .u8 0).cells m).toList=au (List.replicate m 0):=by
 apply List.ext_getElem
 ·simp [Builtin.zeroCells,au,Value.cells]
 ·intro i h1 h2
  simp[Builtin.zeroCells,au,Value.cells,Nat.mod_one]
theorem mZ (t tx ty e:TypeId) (i:TypeInfo) (ht:P.underlying t=some (.slice e)) (hx:P.underlying tx=some (.int .i64)) (hi:P.info? e=some i) (hz:i.zero=some (.int .u8 0)) (hs1:i.size=1) (hb1:i.bytes=1)
  (g o sLen sCap m:Nat) (cur:Array Value) (hg:w.heap[g]?=some (.cells cur e (0,0))) (hm:m≤281474976710656) (h0:0<m)
  (hroom:sLen+m≤sCap) (hfit:o+sLen+m≤cur.size):
  (Builtin.append_ #[t,tx] ty #[.slice (some ⟨g,o,none⟩) sLen sCap,.int .i64 (m:Int)]).run P w=
   .ok (.slice (some ⟨g,o,none⟩) (sLen+m) sCap) (w.setRow g (cur.toList.take (o+sLen)++au (List.replicate m 0)++cur.toList.drop (o+sLen+m)).toArray):=by
 have hst:=run_storeCells_at (P:=P) g (o+sLen) e (au (List.replicate m 0)) 0 cur w hg (by rw[aI,List.length_replicate];simpa using hfit) (dY _)
 simp only[Nat.add_zero] at hst
 have hw:IntKind.i64.wrap (m:Int)=(m:Int):=IntWalk.i64_in _ (by omega)
 have hn:¬((m:Int)<0):=by omega
 have h48:¬(281474976710656<(m:Int)):=by omega
 have h0':¬m=0:=by omega
 have hzc:=uN m
 rw[aI,List.length_replicate,←hzc] at hst
 rw[←hzc]
 simp[Builtin.append_,run_underlying ht,run_underlying hx,sizeOf,typeInfo,zeroValue,hi,hz,hs1,hb1,asInt,asIntOf,hw,hn,h48,h0',hroom,Addr.add_lit,hst]
theorem run_append_grow_zeros (t tx ty e:TypeId) (i:TypeInfo) (ht:P.underlying t=some (.slice e)) (hx:P.underlying tx=some (.int .i64)) (hi:P.info? e=some i) (hz:i.zero=some (.int .u8 0)) (hs1:i.size=1) (hb1:i.bytes=1) (base:Option Addr) (sLen sCap m:Nat) (olds:List Value)
  (hold:(Builtin.firstCells 1 sLen (.slice base sLen sCap)).run P w.drew=.ok olds.toArray w.drew) (hm:m≤281474976710656) (h0:0<m)
  (hg:sCap<sLen+m) (h63:((sLen+m:Nat):Int)≤9223372036854775807) (hfit:Builtin.nextslicecap (sLen+m) sCap*1≤281474976710656):
  (Builtin.append_ #[t,tx] ty #[.slice base sLen sCap,.int .i64 (m:Int)]).run P w=
   .ok (.slice (some ⟨w.heap.size,0,none⟩) (sLen+m) (grownCap w (sLen+m) sCap e))
    (w.drew.alloc (.cells ((olds++au (List.replicate m 0)).toArray++Builtin.zeroCells (Value.int .u8 0).cells (grownCap w (sLen+m) sCap e-(sLen+m))) e)):=by
 have hn:¬(sLen+m≤sCap):=by omega
 have hw:IntKind.i64.wrap (m:Int)=(m:Int):=IntWalk.i64_in _ (by omega)
 have hn0:¬((m:Int)<0):=by omega
 have h48:¬(281474976710656<(m:Int)):=by omega
 have h0':¬m=0:=by omega
 have hmx:max (m:Int) 0=(m:Int):=by omega
 have h63':¬(9223372036854775807<((sLen:Int)+(m:Int))):=by omega
 have h48':¬(281474976710656<Builtin.nextslicecap (sLen+m) sCap):=by omega
 have hzc:=uN m
 rw[←hzc]
 simp[Builtin.append_,run_underlying ht,run_underlying hx,sizeOf,typeInfo,zeroValue,hi,hz,hs1,hb1,asInt,asIntOf,hw,hn0,h48,h0',hmx,hn,h63',h48',Question.forced,hold,newRow,grownCap]
 try (congr 2;apply Array.ext';simp[List.append_assoc])
theorem tu (t tx ty e:TypeId) (i:TypeInfo) (ht:P.underlying t=some (.slice e)) (hx:P.underlying tx=some (.int .i64)) (hi:P.info? e=some i) (hz:i.zero=some (.int .u8 0)) (hs1:i.size=1) (hb1:i.bytes=1) {base n m:Nat} {v:Value} {l:List UInt8}
  (hown:ah w base e 1 v n (au l)) (h0:0<m) (hbytes:(n+m)≤140737488355328) (hbase:base≤w.heap.size):
  ∃v' w',(Builtin.append_ #[t,tx] ty #[v,.int .i64 (m:Int)]).run P w=.ok v' w'∧ah w' base e 1 v' (n+m) (au (l++List.replicate m 0))∧w.grownBy w' v.ownBlock∧(v'.ownBlock=v.ownBlock∨v'.ownBlock=some w.heap.size):=by
 have hlen:(au l++au (List.replicate m 0)).length=(n+m)*1:=by rw[List.length_append,hown.1,aI,List.length_replicate];omega
 rw[gK]
 have h63:n+m≤maxLen:=by unfold maxLen;omega
 have grown:∀(old:Nat),∀(row:Option Nat),
   ah (w.drew.alloc (.cells ((au l++au (List.replicate m 0)).toArray++Builtin.zeroCells (Value.int .u8 0).cells (grownCap w (n+m) old e-(n+m))) e)) base e 1
    (.slice (some ⟨w.heap.size,0,none⟩) (n+m) (grownCap w (n+m) old e)) (n+m) (au l++au (List.replicate m 0))∧
   w.grownBy (w.drew.alloc (.cells ((au l++au (List.replicate m 0)).toArray++Builtin.zeroCells (Value.int .u8 0).cells (grownCap w (n+m) old e-(n+m))) e)) row:=by
  intro old row
  have hge:=grownCap_ge w (n+m) old e
  have hcm:grownCap w (n+m) old e≤maxLen:=grownCap_le_maxLen w (n+m) old e h63
  refine⟨⟨hlen,.inr ⟨w.heap.size,0,_,_,rfl,hbase,heap_alloc_new w.drew _,hge,hcm,?_,?_⟩⟩,⟨rfl,rfl,rfl,by simp,fun k hk _=>heap_alloc_old w.drew _ hk⟩⟩
  ·have:((au l++au (List.replicate m 0)).toArray++Builtin.zeroCells (Value.int .u8 0).cells (grownCap w (n+m) old e-(n+m))).size=grownCap w (n+m) old e*1:=by
    rw[Array.size_append,size_zeroCells,List.size_toArray,hlen]
    show (n+m)*1+(_-_)*1=_
    omega
   omega
  ·simp only[Array.toList_append,List.drop_zero]
   rw[←hlen]
   exact List.take_left
 have h63':((n+m:Nat):Int)≤9223372036854775807:=by unfold maxLen at h63;omega
 rcases hown.2 with ⟨rfl,rfl⟩ | ⟨g,o,cap,cur,rfl,hbg,hg,hnc,hcm,hcs,htake⟩
 ·have hx0:au l=[]:=List.eq_nil_of_length_eq_zero (by simpa using hown.1)
  rw[hx0] at grown ⊢
  have hr:=run_append_grow_zeros (P:=P) (w:=w) t tx ty e i ht hx hi hz hs1 hb1 none 0 0 m [] (by simp[Builtin.firstCells]) (by omega) h0 (by omega) h63' (growslice_fits (by omega) (by omega))
  have hgr:=grown 0 (Value.ownBlock (.slice none 0 0))
  exact⟨_,_,hr,hgr.1,hgr.2,.inr rfl⟩
 ·by_cases hroom:n+m≤cap
  ·have hr:=mZ (P:=P) (w:=w) t tx ty e i ht hx hi hz hs1 hb1 g o n cap m cur hg (by omega) h0 hroom (by omega)
   refine⟨_,_,hr,⟨hlen,.inr ⟨g,o,cap,_,rfl,hbg,setRow_heap w g cur _ e _ hg,hroom,hcm,?_,?_⟩⟩,⟨rfl,rfl,rfl,by simp,fun k _ hk=>setRow_other w g k _ (fun e=>hk (by simp[Value.ownBlock,e]))⟩,.inl rfl⟩
   ·simp only[List.size_toArray,List.length_append,List.length_take,List.length_drop,Array.length_toList,aI,List.length_replicate]
    omega
   ·rw [Nat.mul_one] at htake
    have hln:(au l).length=n:=by have:=hown.1;omega
    have h1:(cur.toList.take (o+n)).drop o=(cur.toList.drop o).take n:=by
     rw[List.drop_take];congr 1;omega
    rw[List.toList_toArray,List.append_assoc,List.drop_append_of_le_length (by rw[List.length_take,Array.length_toList];omega),h1,htake,←List.append_assoc,Nat.mul_one]
    refine List.take_left' ?_
    rw[hlen,Nat.mul_one]
  ·have holds:∀j u,(au l)[j]?=some u→w.cell? ⟨g,o+j,none⟩=some u:=by
    intro j u hu
    obtain⟨g',o',cap',hv,_,_,hc⟩:=hown.cells (by have:=(List.getElem?_eq_some_iff.1 hu).1;omega)
    injection hv with hv _ _
    injection hv with hv
    injection hv with hv1 hv2
    subst hv1;subst hv2
    exact hc j u hu
   have hfo:=run_firstCells_some (P:=P) w.drew 1 n ⟨g,o,none⟩ n cap (au l) hown.1 (by intro j u hu;rw[addr_add];simpa using holds j u hu)
   have hr:=run_append_grow_zeros (P:=P) (w:=w) t tx ty e i ht hx hi hz hs1 hb1 (some ⟨g,o,none⟩) n cap m (au l) hfo (by omega) h0 (by omega) h63' (growslice_fits (by omega) (by omega))
   have hgr:=grown cap (Value.ownBlock (.slice (some ⟨g,o,none⟩) n cap))
   exact⟨_,_,hr,hgr.1,hgr.2,.inr rfl⟩
end
/-- append of m zeros, as an operation of the walk. -/
theorem jE {ops:Array Oper} {rest:List Oper} {o:Oper} {a:Act} {w:World} {Q:Exit→Act→World→Prop} (hgd:o.guard=none) (s x:Operand)
  (ho:o.op=.call {callee:=.builtin .append,args:=#[s,x],argTypes:=#[35,3]})
  {base m:Nat} {v:Value} {l:List UInt8} (hown:OB w base v l) (hs:a.eval s=v) (hx:a.eval x=.int .i64 (m:Int)) (h0:0<m)
  (hbytes:l.length+m≤140737488355328) (hbase:base≤w.heap.size)
  (h:∀v' w',OB w' base v' (l++List.replicate m 0)→w.grownBy w' v.ownBlock→(v'.ownBlock=v.ownBlock∨v'.ownBlock=some w.heap.size)→wpList Tryz.prog ops Q rest (a.put o.dst v') w'):wpList Tryz.prog ops Q (o::rest) a w:=by
 obtain⟨i0,hi,hz0,hz1,hz2⟩:=info_parts vC
 refine wpList_plain hgd fun K hK=> ?_
 obtain⟨v',w',hr,h2,h3,h4⟩:=tu (P:=Tryz.prog) (w:=w) 35 3 o.type 5 i0 Tryz.underlying35 Tryz.underlying3 hi hz0 hz1 hz2 hown h0 hbytes hbase
 unfold Oper.wp execOp
 simp only[ho,resolve,invoke,builtin,Sem.run_bind,Sem.run_pure,Result.andThen_ok,List.map_toArray,List.map_cons,List.map_nil,hs,hx,hr]
 refine hK _ _ (h v' w' ?_ h3 h4)
 unfold OB
 rw[List.length_append,List.length_replicate]
 exact h2
theorem zS:(Tryz.prog.info? 5).map (·.size)=some 1:=by kernel_rfl
set_option maxRecDepth 100000 in
theorem Fh {w:World} {B n c pos nb:Nat} {A:Option Addr} {l bs:List UInt8} (hown:OB w B (.slice A n c) l) (hn:l.length=n) (hfit:pos+nb≤n) {dp:Option Addr} {dCap:Nat}
  (hdp:0<nb→∀g o,A=some ⟨g,o,none⟩→dp=some ⟨g,o+pos,none⟩) {A2:Option Addr} {c2:Nat} (hsrc:RB w A2 nb bs) (ty:TypeId):
  ∃w',(Builtin.copy_ #[35,35] ty #[.slice dp (n-pos) dCap,.slice A2 nb c2]).run Tryz.prog w=.ok (goInt nb) w'∧OB w' B (.slice A n c) (l.take pos++bs++l.drop (pos+nb))∧Fr (fun k=>(Value.slice A n c).ownBlock=some k) w w':=by
 have hbl:=hsrc.1
 rcases Nat.eq_zero_or_pos nb with h0 | h0
 ·subst h0
  obtain rfl:bs=[]:=List.eq_nil_of_length_eq_zero hbl
  refine⟨w,run_copy_none w _ _ ty 5 dp A2 _ dCap 0 c2 Tryz.underlying35 zS (by simp),?_,Fr.refl _ _⟩
  have:l.take pos++[]++l.drop (pos+0)=l:=by simp
  rw[this]
  exact hown
 ·obtain ⟨h1,h2⟩:=hown
  rcases h2 with ⟨h2,h3⟩ | ⟨g,o,cap,cur,h2,h3,h4,h5,h6,h7,h8⟩
  ·omega
  ·injection h2 with e1 e2 e3
   subst e1;subst e3
   rw[hdp h0 g o rfl]
   obtain⟨b2,o2,rfl,hc2⟩:=hsrc.2 h0
   have hsz:o+n≤cur.size:=by omega
   have hr:=run_copy_row (P:=Tryz.prog) w 35 35 ty 5 g (o+pos) (n-pos) dCap ⟨b2,o2,none⟩ nb c2 cur 5 (au bs) Tryz.underlying35 zS h4
    (by rw[aI,hbl];exact(Nat.min_eq_left (by omega)).symm) (RB.news hbl hc2) (by rw[aI,hbl];omega) (dY _)
   rw[aI,hbl] at hr
   refine⟨_,hr,⟨?_,.inr ⟨g,o,c,_,by congr 1;simp[hbl];omega,h3,setRow_heap w g cur _ _ _ h4,?_,h6,?_,?_⟩⟩,?_⟩
   ·rw [aI,Nat.mul_one]
   ·simp [hbl];omega
   ·simp only[List.size_toArray,List.length_append,List.length_take,List.length_drop,Array.length_toList,aI,hbl];omega
   ·have e:(l.take pos++bs++l.drop (pos+nb)).length=n:=by simp[hbl];omega
    rw[e,List.toList_toArray,Nat.mul_one]
    rw[Nat.mul_one,hn] at h8
    have q1:(cur.toList.drop o).take n=au l:=h8
    have q2:(cur.toList.take (o+pos)).drop o=au (l.take pos):=by
     rw[List.drop_take,show o+pos-o=pos by omega]
     have:(cur.toList.drop o).take pos=((cur.toList.drop o).take n).take pos:=by rw[List.take_take,Nat.min_eq_left (by omega)]
     rw[this,q1]
     simp[au,List.map_take]
    have q3:(cur.toList.drop (o+pos+nb)).take (n-(pos+nb))=au (l.drop (pos+nb)):=by
     have:au (l.drop (pos+nb))=(au l).drop (pos+nb):=by simp[au,List.map_drop]
     rw[this,←q1,List.drop_take,List.drop_drop,show o+(pos+nb)=o+pos+nb by omega]
    rw[List.append_assoc,List.drop_append_of_le_length (by rw[List.length_take,Array.length_toList];omega),q2,gK,gK,←q3,←List.append_assoc]
    rw[List.take_append,List.take_of_length_le (by simp[aI,hbl];omega)]
    congr 1
    simp only[List.length_append,aI,List.length_take,hbl]
    congr 1
    omega
   ·exact ⟨rfl,rfl,rfl,by simp[World.setRow],fun k hk hne=>setRow_other w g k _ (fun e=>hne (by simp[Value.ownBlock,e]))⟩
theorem jH {ops:Array Oper} {o:Oper} {a:Act} {w:World} {K:Act→World→Prop} {Q:Exit→Act→World→Prop} {E:Prop} (hgd:o.guard=none) (d s:Operand)
  (ho:o.op=.call {callee:=.builtin .copy,args:=#[d,s],argTypes:=#[35,35]})
  {B n c pos nb:Nat} {A:Option Addr} {l bs:List UInt8} (hown:OB w B (.slice A n c) l) (hn:l.length=n) (hfit:pos+nb≤n) {dp:Option Addr} {dCap:Nat}
  (hd:a.eval d=.slice dp (n-pos) dCap) (hdp:0<nb→∀g o,A=some ⟨g,o,none⟩→dp=some ⟨g,o+pos,none⟩) {A2:Option Addr} {c2:Nat} (hs:a.eval s=.slice A2 nb c2) (hsrc:RB w A2 nb bs)
  (h:∀w',OB w' B (.slice A n c) (l.take pos++bs++l.drop (pos+nb))→Fr (fun k=>(Value.slice A n c).ownBlock=some k) w w'→K (a.put o.dst (goInt nb)) w'):
  if Region.wanted o (yielded ops a.tmps)=true then Oper.wp Tryz.prog o a w K Q else E:=by
 have hw:Region.wanted o (yielded ops a.tmps)=true:=by simp[Region.wanted,hgd]
 rw[if_pos hw]
 obtain⟨w',hr,h1,h2⟩:=Fh hown hn hfit hdp hsrc (c2:=c2) (dCap:=dCap) o.type
 unfold Oper.wp
 simp[execOp,ho,resolve,invoke,builtin,hd,hs,hr,Result.andThen]
 exact h w' h1 h2
theorem OB.setB {w:World} {B g o n cap k:Nat} {l:List UInt8} (x:UInt8) (h:OB w B (.slice (some ⟨g,o,none⟩) n cap) l) (hn:l.length=n) (_hk:k<n):
  w.frozen? ⟨g,o+k,none⟩=false∧OB (w.setCell ⟨g,o+k,none⟩ (.int .u8 (x.toNat:Int))) B (.slice (some ⟨g,o,none⟩) n cap) (l.set k x):=by
 obtain⟨h1,h2⟩:=h
 rcases h2 with ⟨h2,_⟩ | ⟨g',o',cap',cur,h2,h3,h4,h5,h6,h7,h8⟩
 ·cases h2
 ·injection h2 with e1 e2 e3
  injection e1 with e1
  injection e1 with e4 e5
  subst e4;subst e5;subst e3
  refine⟨Kj h4,?_,.inr ⟨_,_,_,_,by rw[List.length_set,hn],h3,heap_setCell_same _ _ _ _ _ _ h4,by rw[List.length_set];exact h5,h6,by simpa using h7,?_⟩⟩
  ·rw [aI,Nat.mul_one]
  ·rw [List.length_set,Array.toList_setIfInBounds,List.drop_set,if_neg (by omega),List.take_set,h8]
   simp[au,List.map_set]
/-- A row half turned round. -/
def gu (l:List UInt8) (i:Nat):List UInt8:=l.mapIdx fun k x=>if k<i∨l.length-i≤k then l.getD (l.length-1-k) 0 else x
theorem ru (l:List UInt8) (i:Nat):(gu l i).length=l.length:=by simp[gu]
theorem Ig (l:List UInt8):gu l 0=l:=by
 refine List.ext_getElem (by simp[gu]) fun k h1 h2=> ?_
 simp only[gu,List.getElem_mapIdx]
 rw[if_neg (by omega)]
theorem zN (l:List UInt8) (i k:Nat) (hk:k<l.length):(gu l i).getD k 0=if k<i∨l.length-i≤k then l.getD (l.length-1-k) 0 else l.getD k 0:=by
 rw[List.getD_eq_getElem?_getD,List.getElem?_eq_getElem (by rw[ru];exact hk)]
 simp[gu,hk]
theorem Ih (l:List UInt8) (i:Nat) (h:2*i+1<l.length):((gu l i).set i ((gu l i).getD (l.length-1-i) 0)).set (l.length-1-i) ((gu l i).getD i 0)=gu l (i+1):=by
 rw[zN l i i (by omega),zN l i (l.length-1-i) (by omega),if_neg (by omega),if_neg (by omega)]
 refine List.ext_getElem (by simp[gu]) fun k h1 h2=> ?_
 simp only[List.getElem_set,gu,List.getElem_mapIdx]
 have hk:k<l.length:=by simpa [gu] using h2
 by_cases e1:l.length-1-i=k
 ·rw [if_pos e1,if_pos (by omega),←e1,show l.length-1-(l.length-1-i)=i by omega]
 ·rw [if_neg e1]
  by_cases e2:i=k
  ·rw [if_pos e2,if_pos (by omega),←e2]
  ·rw [if_neg e2]
   by_cases e3:k<i∨l.length-i≤k
   ·rw [if_pos e3,if_pos (by omega)]
   ·rw [if_neg e3,if_neg (by omega)]
theorem L9 (l:List UInt8) (i:Nat) (h:l.length≤2*i+1):gu l i=l.reverse:=by
 refine List.ext_getElem (by simp[gu]) fun k h1 h2=> ?_
 simp only[gu,List.getElem_mapIdx,List.getElem_reverse]
 have hk:k<l.length:=by simpa using h2
 split
 ·rw [List.getD_eq_getElem?_getD,List.getElem?_eq_getElem (by omega)];rfl
 ·congr 1
  omega
set_option maxHeartbeats 4000000 in
theorem nI (g o c base:Nat) (l:List UInt8) (w:World) (h:OB w base (.slice (some ⟨g,o,none⟩) l.length c) l) (hl:l.length≤1048576):
  Calls Tryz.prog 148 #[.slice (some ⟨g,o,none⟩) l.length c] w fun e w'=>e=.returned (.tuple #[])∧OB w' base (.slice (some ⟨g,o,none⟩) l.length c) l.reverse∧Fr (fun q=>q=g) w w':=by
 have HO:=Hj h
 have HL:=Hj hl
 have mW:=Hj (L9 l)
 have VG:=Hj (Ih l)
 have H0:=Hj (Ig l)
 have HN:=Hj (ru l)
 clear h hl
 obtain⟨n,hn⟩:∃n,n=l.length:=⟨_,rfl⟩
 rw[←hn] at HO HL mW VG HN ⊢
 have n0:(n:Int)≤1048576:=by have:=HL.out;omega
 clear hn
 go_enter Tryz.func148,Tryz.ntmps148
 go_wp2
 go_loopg [2,3] n (fun gk s2 s3 wr=>∃i:Nat,i+gk=n∧s2=.int .i64 (i:Int)∧s3=.int .i64 ((n:Int)-1-(i:Int))∧OB wr base (.slice (some ⟨g,o,none⟩) n c) (gu l i)∧Fr (fun q=>q=g) w wr)
 case atStart=>exact⟨0,by omega,rfl,by go_num,by rw[H0.out];exact HO.out,Fr.refl _ _⟩
 case round=>
  obtain⟨i,hi,rfl,rfl,hob,hf⟩:=hrel
  have HI:=Hj hi
  have xX:=Hj hob
  have HF:=Hj hf
  clear hi hob hf
  by_cases hlt:2*i+1<n
  ·obtain ⟨j,hj⟩:∃j,j=n-1-i:=⟨_,rfl⟩
   have hji:(n:Int)-1-(i:Int)=(j:Int):=by omega
   have q1:decide ((i:Int)<(j:Int))=true:=decide_eq_true (by omega)
   have q1n:decide (i<j)=true:=decide_eq_true (by omega)
   have hst:=VG.out i hlt
   rw[←hj] at hst
   rw[hji]
   obtain⟨A,c',e,hc1,hc2,hr⟩:=xX.out.form
   have hsl:=HN.out i
   rw[hsl] at e hc1
   injection e with e1 _ e9
   subst e1
   clear e9
   obtain⟨b',o',e,hcell⟩:=hr.2 (by rw[hsl];omega)
   injection e with e
   injection e with e1 e2
   subst e1
   subst e2
   rw[hsl] at hcell
   have ci:=hcell i (by omega)
   have cj:=hcell j (by omega)
   obtain⟨x,hx⟩:∃x,x=(gu l i).getD i 0:=⟨_,rfl⟩
   obtain⟨y,hy⟩:∃y,y=(gu l i).getD j 0:=⟨_,rfl⟩
   rw[←hx] at ci hst
   rw[←hy] at cj hst
   have S1:=OB.setB (k:=i) y xX.out hsl (by omega)
   have S2:=OB.setB (k:=j) x S1.2 (by rw[List.length_set,hsl]) (by omega)
   rw[hst] at S2
   obtain⟨A3,c3,e3,_,_,hr3⟩:=S1.2.form
   have Uu:((gu l i).set i y).length=n:=by rw[List.length_set,hsl]
   rw[Uu] at e3
   injection e3 with e4 _ e9
   subst e4
   clear e9
   obtain⟨b3,o3,e5,Ii⟩:=hr3.2 (by rw[Uu];omega)
   injection e5 with e5
   injection e5 with e6 e7
   subst e6
   subst e7
   rw[Uu] at Ii
   have cj2:=Ii j (by omega)
   rw[show ((gu l i).set i y).getD j 0=y by rw[hy,List.getD_eq_getElem?_getD,List.getD_eq_getElem?_getD,List.getElem?_set_ne (by omega)]] at cj2
   have fi:=S1.1
   have fj:=S2.1
   have Rz:=Hj S2.2
   have HF2:Hid (Fr (fun q=>q=g) w ((wr.setCell ⟨g,o+i,none⟩ (.int .u8 (y.toNat:Int))).setCell ⟨g,o+j,none⟩ (.int .u8 (x.toNat:Int)))):=Hj ((HF.out.setCell (p:=⟨g,o+i,none⟩) (fun _=>rfl) _).setCell (p:=⟨g,o+j,none⟩) (fun _=>rfl) _)
   have i0:(0:Int)≤(i:Int):=by omega
   have i1:(i:Int)<(n:Int):=by omega
   have j0:(0:Int)≤(j:Int):=by omega
   have j1:(j:Int)<(n:Int):=by omega
   have HIJ:Hid ((j:Int)-1=(n:Int)-1-((i+1:Nat):Int)):=Hj (by omega)
   clear hst S1 S2 hcell hr hc1 hc2 hsl hx hy hj hji Ii hr3 Uu
   go_wp2_with fail
   go_region_law (fail)
   all_goals
    go_wp2
    go_roundg (gk-1)
    case measure=>have:=HI.out;omega
    case rel=>exact⟨i+1,by have:=HI.out;omega,by go_num,by rw[←HIJ.out],Rz.out.drew,HF2.out.drew⟩
  ·obtain ⟨z,hz⟩:∃z,z=(n:Int)-1-(i:Int):=⟨_,rfl⟩
   have q1:decide ((i:Int)<z)=false:=decide_eq_false (by omega)
   rw[←hz]
   have HR:=Hj (mW.out i (by omega))
   clear hlt hz
   go_wp2
   exact bodyPost_end (results_none rfl _ _ _) rfl ⟨rfl,by rw[←HR.out];exact xX.out,HF.out⟩
theorem E5 (c:UInt8) (r:Nat) (w:World):Calls Tryz.prog 197 #[.int .u8 (c.toNat:Int),.int .i64 (r:Int)] w fun e w'=>e=.returned (.bool (decide (r=0∧c.toNat<128)))∧w=w':=by
 have hc:=c.toNat_lt
 generalize c.toNat=x at*
 rcases Nat.eq_zero_or_pos r with h0 | h0
 ·subst h0
  rw[show ((0:Nat):Int)=0 from rfl]
  by_cases h1:x<128
  ·have q1:decide ((x:Int)<128)=true:=decide_eq_true (by omega)
   have q1n:decide (x<128)=true:=decide_eq_true h1
   rw[decide_eq_true (show 0=0∧x<128 from ⟨rfl,h1⟩)]
   clear h1
   go_enter Tryz.func197,Tryz.ntmps197
   go_wp2
   go_ret
   exact⟨rfl,rfl⟩
  ·have q1:decide ((x:Int)<128)=false:=decide_eq_false (by omega)
   have q1n:decide (x<128)=false:=decide_eq_false h1
   rw[decide_eq_false (show ¬(0=0∧x<128) from fun h=>h1 h.2)]
   clear h1
   go_enter Tryz.func197,Tryz.ntmps197
   go_wp2
   go_ret
   exact⟨rfl,rfl⟩
 ·have q1:((r:Int)==0)=false:=beq_eq_false_iff_ne.2 (by omega)
  have q2:((r:Int)== -1)=false:=beq_eq_false_iff_ne.2 (by omega)
  have q3:(r==0)=false:=beq_eq_false_iff_ne.2 (by omega)
  rw[decide_eq_false (show ¬(r=0∧x<128) from fun h=>by omega)]
  clear h0
  go_enter Tryz.func197,Tryz.ntmps197
  go_wp2
  go_ret
  exact⟨rfl,rfl⟩
theorem xg (r:Nat):(r:Int) % 256=((UInt8.ofNat r).toNat:Int):=by rw[UInt8.toNat_ofNat'];omega
set_option maxHeartbeats 4000000 in
theorem su (n:Nat) (w:World) (hn:n<4611686018427387904):
  Calls Tryz.prog 134 #[.int .i64 (n:Int)] w fun e w'=>∃A c,e=.returned (.slice A (dG n).length c)∧OB w' w.heap.size (.slice A (dG n).length c) (dG n)∧Below w.heap.size w w':=by
 have hll:(pz n).length≤9:=Cz (qH 8 (by omega)) (by omega)
 have YT:=Hj hll
 obtain⟨c0,hc0⟩:∃c,c=UInt8.ofNat n:=⟨_,rfl⟩
 have hu:=xg n
 rw[←hc0] at hu
 have HC0:=Hj hc0
 have HN:=Hj hn
 have Ob:=Hj (OB.lit w w.heap.size Kv [c0] 1 rfl (by simp[maxLen]))
 have HD:Hid ((n:Int) / 256=((n / 256:Nat):Int)):=Hj (by omega)
 clear hll hc0 hn
 go_enter Tryz.func134,Tryz.ntmps134
 go_wp2
 clear hu
 go_loopg [3,4] n (fun gk s3 s4 wr=>∃(acc:List UInt8) (m:Nat),OB wr w.heap.size s3 (acc++[UInt8.ofNat m])∧s4=.int .i64 ((m / 256:Nat):Int)∧pz n=acc++pz m∧m≤gk∧m≤n∧Below w.heap.size w wr)
 case atStart=>exact⟨[],n,by rw[←HC0.out];exact Ob.out,by rw[←HD.out],rfl,Nat.le_refl _,Nat.le_refl _,(Below.refl _ w).alloc Kv _⟩
 case round=>
  obtain⟨acc,m,hob,rfl,hlow,Oc,hmn,hb⟩:=hrel
  have hlen:acc.length+1≤9:=by
   have h1:=congrArg List.length hlow
   have h2:=List.length_pos_iff.2 (RD m)
   have:=YT.out
   rw[List.length_append] at h1
   omega
  obtain⟨x,hx⟩:∃x,x=UInt8.ofNat m:=⟨_,rfl⟩
  have hxm:x.toNat=m % 256:=by rw[hx,UInt8.toNat_ofNat']
  rw[←hx] at hob
  obtain⟨r,hr⟩:∃r,r=m / 256:=⟨_,rfl⟩
  rw[←hr]
  have xX:=Hj hob
  have HB:=Hj hb
  have Wx:=Hj hlow
  have YU:=Hj Oc
  have HX:=Hj hx
  have HRD:=Hj hr
  have HMN:=Hj hmn
  have HLen:=Hj hlen
  obtain⟨A,c,e,hc1,hc2,hrb⟩:=hob.form
  subst e
  obtain⟨k,hk⟩:∃k,k=acc.length:=⟨_,rfl⟩
  have hK:(acc++[x]).length=k+1:=by rw[List.length_append,hk];rfl
  rw[hK] at hrb hc1 xX ⊢
  have HKL:=Hj hK
  obtain⟨b,o,rfl,hcell⟩:=hrb.2 (by omega)
  have cl:=hcell k (by omega)
  rw[show (acc++[x]).getD k 0=x by simp[List.getD_eq_getElem?_getD,hk]] at cl
  have HSe:=Hj (E5 x r wr)
  have k0:(0:Int)≤(k:Int):=by omega
  have k2:(k:Int)≤9:=by omega
  have r0:(0:Int)≤(r:Int):=by omega
  have HR1:Hid ((r:Int) / 256=((r / 256:Nat):Int)):=Hj (by omega)
  by_cases hm:m<128
  ·rw [decide_eq_true (show r=0∧x.toNat<128 by omega)] at HSe
   have Fp:Hid (Calls Tryz.prog 148 #[.slice (some ⟨b,o,none⟩) (k+1) c] wr fun e w'=>e=.returned (.tuple #[])∧OB w' w.heap.size (.slice (some ⟨b,o,none⟩) (k+1) c) (acc++[x]).reverse∧Fr (fun q=>q=b) wr w'):=Hj (by
    have h:=xX.out
    rw[←HKL.out] at h ⊢
    exact nI b o c w.heap.size (acc++[x]) wr h (by rw[HKL.out];omega))
   have HI:Hid (dG n=(acc++[x]).reverse):=Hj (by unfold dG;rw[hlow,jQ hm,hx])
   have HI2:Hid ((dG n).length=k+1):=Hj (by rw[HI.out,List.length_reverse,HKL.out])
   have hbl:=(OB.lt hob b rfl).1
   have Gp:=Hj hbl
   clear hob hb hlow Oc hmn hlen hx hxm hr hrb hcell hc1 hc2 hK hk hm hbl
   go_wp2_with (first
    | (go_at_call 197;((with_reducible refine HSe.out.mono ?_);rintro e w1 ⟨rfl,rfl⟩))
    | (go_at_call 148;((with_reducible refine Fp.out.mono ?_);rintro e w2 ⟨rfl,ho2,hf2⟩;have O2:=Hj ho2;have F2:=Hj hf2;clear ho2 hf2))
    | fail)
   go_ret
   refine⟨some ⟨b,o,none⟩,c,by rw[HI2.out];rfl,?_,HB.out.trans (F2.out.below HB.out.size fun q _ e=>by rw[e];exact Gp.out)⟩
   rw[HI2.out,HI.out]
   exact O2.out
  ·rw [decide_eq_false (show ¬(r=0∧x.toNat<128) by omega)] at HSe
   obtain⟨y,hy⟩:∃y,y=UInt8.ofNat r:=⟨_,rfl⟩
   have hu:=xg r
   rw[←hy] at hu
   have HY:=Hj hy
   have HM:Hid (128≤m):=Hj (by omega)
   have QN:Hid (pz n=(acc++[x])++pz r):=Hj (by rw[hlow,og (show 128≤m by omega),←hx,←hr,List.append_assoc];rfl)
   clear hob hb hlow Oc hmn hlen hx hxm hr hrb hcell hc1 hc2 hK hk hm hy
   go_wp2_with (first
    | (go_at_call 197;((with_reducible refine HSe.out.mono ?_);rintro e w1 ⟨rfl,rfl⟩))
    | (at_builtin;(refine aA rfl (.tmp 21) (.tmp 24) 35 rfl (OB.alloc xX.out _) rfl (Src.lit wr _ [y] rfl 1 1 rfl) rfl (by have:=HLen.out;simp;omega) (by have:=HB.out.size;simp;omega) ?_;intro v2 w2 hown2 bZ jc;obtain⟨A2,c2,e2,-,-,-⟩:=hown2.form;subst e2;have O2:=Hj hown2;have B2:Hid (Below w.heap.size w w2):=Hj (aS ((HB.out).alloc HB.out.size _) bZ (OB.alloc xX.out _) Kv (by have:=HB.out.size;simp;omega));clear hown2 bZ jc))
    | fail)
   go_roundg r
   case measure=>have:=YU.out;have:=HM.out;have:=HRD.out;omega
   case rel=>exact⟨acc++[x],r,by rw[←HY.out];have h:=O2.out;rw[show (acc++[x]++[y]).length=acc.length+2 by simp] at h;exact h,by rw[←HR1.out],QN.out,Nat.le_refl _,by have:=HRD.out;have:=HMN.out;omega,B2.out⟩
set_option maxHeartbeats 4000000 in
theorem H7 (n:Nat) (w:World) (hn:n≤65535):
  Calls Tryz.prog 170 #[.int .i64 (n:Int)] w fun e w'=>∃A c,e=.returned (.slice A (jm n).length c)∧OB w' w.heap.size (.slice A (jm n).length c) (jm n)∧Below w.heap.size w w':=by
 by_cases h127:n≤127
 ·have q1:decide ((n:Int)≤127)=true:=decide_eq_true (by omega)
  have q1n:decide (n≤127)=true:=decide_eq_true h127
  obtain⟨c0,hc0⟩:∃c,c=UInt8.ofNat n:=⟨_,rfl⟩
  have hu:=xg n
  rw[←hc0] at hu
  have HI:Hid (jm n=[c0]):=Hj (by unfold jm;rw[if_pos h127,hc0])
  rw[HI.out]
  have Ob:=Hj (OB.lit w w.heap.size Kv [c0] 1 rfl (by simp[maxLen]))
  clear hc0 h127 hn
  go_enter Tryz.func170,Tryz.ntmps170
  go_wp2
  go_ret
  exact⟨_,_,rfl,Ob.out,(Below.refl _ w).alloc Kv _⟩
 have q1:decide ((n:Int)≤127)=false:=decide_eq_false (by omega)
 have q1n:decide (n≤127)=false:=decide_eq_false h127
 have YT:Hid ((lJ n).length≤2):=Hj (Dl 2 (by omega))
 have HI:Hid (jm n=(lJ n++[UInt8.ofNat (128+(lJ n).length)]).reverse):=Hj (by unfold jm;rw[if_neg h127])
 obtain⟨T,hT⟩:∃T,T=lJ n++[UInt8.ofNat (128+(lJ n).length)]:=⟨_,rfl⟩
 rw[HI.out,←hT]
 have HTT:=Hj hT
 clear h127 hn hT HI
 go_enter Tryz.func170,Tryz.ntmps170
 go_wp2
 go_loopg [0,3] n (fun gk s0 s3 wr=>∃(acc:List UInt8) (m:Nat),s0=.int .i64 (m:Int)∧OB wr w.heap.size s3 acc∧lJ n=acc++lJ m∧m≤gk∧Below w.heap.size w wr)
 case atStart=>exact⟨[],n,rfl,OB.nil _ _,rfl,Nat.le_refl _,Below.refl _ _⟩
 case round=>
  obtain⟨acc,m,rfl,hob,hlow,Oc,hb⟩:=hrel
  have xX:=Hj hob
  have HB:=Hj hb
  have Wx:=Hj hlow
  have YU:=Hj Oc
  obtain⟨A,c,e,hc1,hc2,hrb⟩:=hob.form
  subst e
  have hlen:acc.length≤2:=by
   have h1:=congrArg List.length hlow
   have:=YT.out
   rw[List.length_append] at h1
   omega
  have HLen:=Hj hlen
  have Rq:Hid ((m:Int) / 256=((m / 256:Nat):Int)):=Hj (by omega)
  have m0:(0:Int)≤(m:Int):=by omega
  by_cases hm:0<m
  ·have q2:decide ((m:Int)>0)=true:=decide_eq_true (by omega)
   have q2':decide (0<(m:Int))=true:=decide_eq_true (by omega)
   have q2n:decide (0<m)=true:=decide_eq_true hm
   obtain⟨y,hy⟩:∃y,y=UInt8.ofNat m:=⟨_,rfl⟩
   have hu:=xg m
   rw[←hy] at hu
   have QN:Hid (lJ n=(acc++[y])++lJ (m / 256)):=Hj (by rw[hlow,qG hm,←hy,List.append_assoc];rfl)
   have HM:Hid (m / 256<m):=Hj (Nat.div_lt_self hm (by omega))
   clear hob hb hlow Oc hlen hrb hc1 hc2 hm hy
   go_wp2_with (first
    | (at_builtin;(refine aA rfl (.tmp 13) (.tmp 16) 35 rfl (OB.alloc xX.out _) rfl (Src.lit wr _ [y] rfl 1 1 rfl) rfl (by have:=HLen.out;simp;omega) (by have:=HB.out.size;simp;omega) ?_;intro v2 w2 hown2 bZ jc;obtain⟨A2,c2,e2,-,-,-⟩:=hown2.form;subst e2;have O2:=Hj hown2;have B2:Hid (Below w.heap.size w w2):=Hj (aS ((HB.out).alloc HB.out.size _) bZ (OB.alloc xX.out _) Kv (by have:=HB.out.size;simp;omega));clear hown2 bZ jc))
    | fail)
   go_roundg (m / 256)
   case measure=>have:=YU.out;have:=HM.out;omega
   case rel=>exact⟨acc++[y],m / 256,by rw[←Rq.out],by have h:=O2.out;rw[show (acc++[y]).length=acc.length+1 by simp] at h;exact h,QN.out,Nat.le_refl _,B2.out⟩
  ·obtain rfl:m=0:=by omega
   have q2:decide ((0:Int)>0)=false:=by decide
   have HA:Hid (lJ n=acc):=Hj (by rw[hlow,kU,List.append_nil])
   obtain⟨k,hk⟩:∃k,k=acc.length:=⟨_,rfl⟩
   rw[←hk] at hlen hrb hc1 ⊢
   have HK:=Hj hk
   rw[←hk] at xX
   obtain⟨y,hy⟩:∃y,y=UInt8.ofNat (128+k):=⟨_,rfl⟩
   have hyn:(128+(k:Int))=(y.toNat:Int):=by rw[hy,UInt8.toNat_ofNat'];omega
   have k0:(0:Int)≤(k:Int):=by omega
   have k2:(k:Int)≤2:=by omega
   have HT:Hid (T=acc++[y]):=Hj (by rw[HTT.out,HA.out,hy,HK.out])
   rw[show ((0:Nat):Int)=0 from rfl]
   clear hob hb hlow Oc hlen hrb hc1 hc2 hm hk hy m0
   go_wp2_with (first
    | (at_builtin;(refine aA rfl (.tmp 18) (.tmp 23) 35 rfl (OB.alloc xX.out _) rfl (Src.lit wr _ [y] rfl 1 1 rfl) rfl (by have:=HLen.out;simp;omega) (by have:=HB.out.size;simp;omega) ?_;intro v2 w2 hown2 bZ jc;have hO2:=hown2;obtain⟨A2,c2,e2,-,-,hr2⟩:=hown2.form;subst e2;have B2:Hid (Below w.heap.size w w2):=Hj (aS ((HB.out).alloc HB.out.size _) bZ (OB.alloc xX.out _) Kv (by have:=HB.out.size;simp;omega));obtain⟨b2,o2,rfl,-⟩:=hr2.2 (by simp);have Gp:=Hj ((OB.lt hO2 b2 rfl).1);have hRv:=nI b2 o2 c2 w.heap.size (acc++[y]) w2 hO2 (by have:=HLen.out;simp;omega);rw[show (acc++[y]).length=acc.length+1 by simp] at hRv;have Fp:=Hj hRv;clear hown2 bZ jc hr2 hO2 hRv))
    | (go_at_call 148;((with_reducible refine Fp.out.mono ?_);rintro e w3 ⟨rfl,ho3,hf3⟩;have O3:=Hj ho3;have F3:=Hj hf3;clear ho3 hf3))
    | fail)
   go_ret
   have hl:T.reverse.length=acc.length+1:=by rw[HT.out];simp
   refine⟨some ⟨b2,o2,none⟩,c2,by rw[hl];rfl,?_,B2.out.trans (F3.out.below B2.out.size fun q _ e=>by rw[e];exact Gp.out)⟩
   rw[hl,HT.out]
   exact O3.out
end Go.Proofs.YtdhbpajamlfacaaGreatDoor
