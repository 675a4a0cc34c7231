/- Layer 21 (watch): rows as tables by their objects' keys; both watchers know the same. No program in sight. -/
import Derived.Test.YtdhbpajamlfacaaGreatDoorZe
import Derived.Test.YtdhbpajamlfacaaGreatDoorZc
namespace Go.Proofs.YtdhbpajamlfacaaGreatDoor
open Go.RowKit SO
section
variable {α:Type} {f:α→ByteArray} {k:ByteArray} {v:α}
/-- A row as a table. -/
def kd (f:α→ByteArray) (l:List α):List (ByteArray×α):=l.map fun x=>(f x,x)
def WO (f:α→ByteArray) (v:α):List α→List α
 | []=>[v]
 | x::l=>if aS (f v) (f x)=true then v::x::l else x::WO f v l
theorem zQ:∀{l:List α},(∀x∈l,aS k (f x)=true)→wo f k l=l
 | [],_=>rfl
 | x::l,h=>by
  have ih:=zQ fun y hy=>h y (gK _ hy)
  have hx:=(pq (h x (by simp))).symm
  unfold wo at ih ⊢
  rw[List.filter_cons,ih]
  simp[hx]
theorem X8 {x:α} {l:List α} (h:f x≠k):wo f k (x::l)=x::wo f k l:=by unfold wo;rw[List.filter_cons];simp[h]
theorem X9 {x:α} {l:List α} (h:f x=k):wo f k (x::l)=wo f k l:=by unfold wo;rw[List.filter_cons];simp[h]
theorem ML {x:α} {l:List α} (h:aT aS (kd f (x::l))):(∀y∈l,aS (f x) (f y)=true)∧aT aS (kd f l):=by
 unfold aT kd at h
 rw[qg,List.pairwise_cons] at h
 exact⟨fun y hy=>h.1 _ (bW.2 ⟨y,hy,rfl⟩),h.2⟩
theorem Ua (k:ByteArray):∀{l:List α},aT aS (kd f l)→rem aS k (kd f l)=kd f (wo f k l)
 | [],_=>rfl
 | x::l,h=>by
  obtain⟨h1,h2⟩:=ML h
  have ih:=Ua k h2
  have e:kd f (x::l)=(f x,x)::kd f l:=rfl
  rw[e]
  unfold rem
  by_cases ha:aS k (f x)=true
  ·rw [aF ha,zQ]
   ·rfl
   ·intro y hy
    rcases fC.1 hy with rfl | hy
    ·exact ha
    ·exact dh.tr _ _ _ ha (h1 y hy)
  ·rw [aG ha]
   by_cases hb:aS (f x) k=true
   ·rw [aF hb,ih,X8 (pq hb)];rfl
   ·have e2:=dh.tri _ _ (by simpa using hb) (by simpa using ha)
    rw[aG hb,X9 e2,zQ fun y hy=>by rw[←e2];exact h1 y hy]
theorem Ub (l:List α):∀a:List α,l.foldl (rD f v) (true,a)=(true,a++l):=by
 induction l with
 | nil=>intro a;simp
 | cons x l ih=>
  intro a
  have e:rD f v (true,a) x=(true,a++[x]):=by unfold rD;exact aG fun h=>by cases h.1
  rw[lC,e,ih]
  simp
theorem ZP (l:List α):∀a:List α,PE v (l.foldl (rD f v) (false,a))=a++WO f v l:=by
 induction l with
 | nil=>intro a;rfl
 | cons x l ih=>
  intro a
  rw[lC]
  unfold WO
  by_cases h:aS (f v) (f x)=true
  ·have e:rD f v (false,a) x=(true,a++[v]++[x]):=by unfold rD;exact aF ⟨rfl,h⟩
   rw[e,Ub,aF h]
   show (a++[v]++[x])++l=_
   simp
  ·have e:rD f v (false,a) x=(false,a++[x]):=by unfold rD;exact aG fun k=>h k.2
   rw[e,ih,aG h]
   simp
theorem MN:∀{l:List α},(∀x∈l,aS (f v) (f x)=true)→WO f v l=v::l
 | [],_=>rfl
 | x::l,h=>by unfold WO;exact aF (h x (by simp))
theorem Uc (v:α) {l:List α} (h:aT aS (kd f l)):ins aS (f v) v (kd f l)=kd f (wi f v l):=by
 have e:wi f v l=WO f v (wo f (f v) l):=by
  unfold wi
  rw[ZP];rfl
 rw[e]
 clear e
 induction l with
 | nil=>rfl
 | cons x l ih=>
  obtain⟨h1,h2⟩:=ML h
  have e:kd f (x::l)=(f x,x)::kd f l:=rfl
  rw[e]
  unfold ins
  by_cases ha:aS (f v) (f x)=true
  ·have hall:∀y∈x::l,aS (f v) (f y)=true:=fun y hy=>by
    rcases fC.1 hy with rfl | hy
    ·exact ha
    ·exact dh.tr _ _ _ ha (h1 y hy)
   rw[aF ha,zQ hall,MN hall];rfl
  ·rw [aG ha]
   by_cases hb:aS (f x) (f v)=true
   ·rw [aF hb,ih h2,X8 (pq hb)]
    have e2:WO f v (x::wo f (f v) l)=x::WO f v (wo f (f v) l):=by rw[WO];exact aG ha
    rw[e2];rfl
   ·have e2:=dh.tri _ _ (by simpa using hb) (by simpa using ha)
    have hall:∀y∈l,aS (f v) (f y)=true:=fun y hy=>by rw[←e2];exact h1 y hy
    rw[aG hb,X9 e2,zQ hall,MN hall];rfl
end
/-- An object's key. -/
def ko (o:aC):ByteArray:=wkey o.space o.name
/-- Rows of objects with what they are. -/
def EG (w:World) (l:List (OV×aC)):Prop:=∀x∈l,dD w x.1 x.2
section
variable {w:World} {kind:Int} {space:ByteArray} {all:Bool} {l K:List (OV×aC)}
theorem dD.Iw {x:OV×aC} (h:dD w x.1 x.2):ko x.2=pk x:=by unfold ko pk ig;rw[h.space,h.name]
theorem dD.Ud {x:OV×aC} (h:dD w x.1 x.2):iW kind space all x.1=pI kind space all x.2:=by unfold iW pI;rw[h.kind,h.space]
/-- Along the events: the document's row is the program's table. -/
theorem Iy:∀(ys:List (Bool×(OV×aC))) (K:List (OV×aC)),(∀y∈ys,dD w y.2.1 y.2.2)→EG w K→aT aS (kd ko (K.map Prod.snd))→
  (ys.map fun y=>(y.1,y.2.2)).foldl (mZ kind space all) (kd ko (K.map Prod.snd))=kd ko ((ys.foldl (yK kind space all) K).map Prod.snd)∧EG w (ys.foldl (yK kind space all) K)∧aT aS (kd ko ((ys.foldl (yK kind space all) K).map Prod.snd))
 | [],K,_,hK,hr=>⟨rfl,hK,hr⟩
 | y::ys,K,hy,hK,hr=>by
  have h0:=hy y (by simp)
  have hm:EG w (yK kind space all K y):=fun x hx=>by
   unfold yK at hx
   split at hx
   ·split at hx
    ·exact hK x (jB.1 hx).1
    ·rcases vT hx with rfl | hx
     ·exact h0
     ·exact hK x hx
   ·exact hK x hx
  have hs:mZ kind space all (kd ko (K.map Prod.snd)) (y.1,y.2.2)=kd ko ((yK kind space all K y).map Prod.snd)∧aT aS (kd ko ((yK kind space all K y).map Prod.snd)):=by
   unfold mZ yK
   rw[dD.Ud (x:=y.2) h0]
   by_cases hf:pI kind space all y.2.2=true
   ·rw [aF hf,aF hf]
    cases y.1 with
    | true=>
     rw[aF rfl,aF rfl,←ED pk ko Prod.snd _ K fun x hx=>(hK x hx).Iw,←dD.Iw (x:=y.2) h0]
     have e:=Ua (f:=ko) (ko y.2.2) hr
     exact⟨e,by rw[←e];exact vF hr⟩
    | false=>
     rw[aG (by decide),aG (by decide),←EF pk ko Prod.snd y.2 K (fun x hx=>(hK x hx).Iw) (dD.Iw (x:=y.2) h0)]
     have e:=Uc (f:=ko) y.2.2 hr
     exact⟨e,by rw[←e];exact nU dh hr⟩
   ·rw [aG hf,aG hf]
    exact⟨rfl,hr⟩
  rw[qg,lC,hs.1]
  exact Iy ys _ (fun z hz=>hy z (gK _ hz)) hm hs.2
theorem zS (d:Bool):∀(ys:List (Bool×(OV×aC))) (q:List (OV×aC)),(∀y∈ys,dD w y.2.1 y.2.2)→EG w q→
  (ys.map fun y=>(y.1,y.2.2)).foldl (iZ d kind space all) (q.map Prod.snd)=(ys.foldl (yL d kind space all) q).map Prod.snd∧EG w (ys.foldl (yL d kind space all) q)
 | [],q,_,hq=>⟨rfl,hq⟩
 | y::ys,q,hy,hq=>by
  have h0:=hy y (by simp)
  have hs:iZ d kind space all (q.map Prod.snd) (y.1,y.2.2)=(yL d kind space all q y).map Prod.snd∧EG w (yL d kind space all q y):=by
   unfold iZ yL
   rw[dD.Ud (x:=y.2) h0]
   by_cases hf:pI kind space all y.2.2=true∧y.1=d
   ·rw [aF hf,aF hf,dI]
    exact⟨rfl,fun x hx=>by rcases iO.1 hx with hx | hx;exact hq x hx;rw[iq.1 hx];exact h0⟩
   ·rw [aG hf,aG hf]
    exact⟨rfl,hq⟩
  rw[qg,lC,hs.1]
  exact zS d ys _ (fun z hz=>hy z (gK _ hz)) hs.2
/-- Anew: the rows that follow, by their keys. -/
theorem J9:∀(xs P:List (OV×aC)),EG w xs→EG w P→aT aS (kd ko (P.map Prod.snd))→
  ((xs.map Prod.snd).filter (pI kind space all)).foldl gZ (kd ko (P.map Prod.snd))=kd ko ((xs.foldl (yA kind space all) P).map Prod.snd)∧EG w (xs.foldl (yA kind space all) P)∧aT aS (kd ko ((xs.foldl (yA kind space all) P).map Prod.snd))
 | [],P,_,hP,hr=>⟨rfl,hP,hr⟩
 | x::xs,P,hx,hP,hr=>by
  have h0:=hx x (by simp)
  have hxs:EG w xs:=fun z hz=>hx z (gK _ hz)
  rw[qg,List.filter_cons,lC]
  unfold yA
  rw[dD.Ud (x:=x) h0]
  by_cases hf:pI kind space all x.2=true
  ·rw [aF hf,aF hf,lC]
   have e:=Uc (f:=ko) x.2 hr
   rw[EF pk ko Prod.snd x P (fun z hz=>(hP z hz).Iw) (dD.Iw h0)] at e
   have e2:gZ (kd ko (P.map Prod.snd)) x.2=kd ko ((wi pk x P).map Prod.snd):=e
   rw[e2]
   exact J9 xs _ hxs (fun z hz=>by rcases vT hz with rfl | hz;exact h0;exact hP z hz) (by rw[←e];exact nU dh hr)
  ·rw [aG hf,aG hf]
   exact J9 xs _ hxs hP hr
end
theorem WG (p a b:List UInt8):aS (dG (p++a)) (dG (p++b))=Op.bytesLess a b:=by unfold aS;rw[aO,aO,yU]
theorem ny (o:aC):aW o=dG ((jh (o.kind:Int)++[47])++(o.space.data.toList++47::o.name.data.toList)):=by
 unfold aW jr gU
 simp
theorem WH {x y:aC} (h1:x.kind=y.kind):aS (aW x) (aW y)=aS (ko x) (ko y):=by
 rw[ny,ny,h1,WG]
 unfold aS ko wkey
 rw[aO,aO]
theorem x9 {o:aC} (ho:o.Ok) {K:Nat} {S:ByteArray} (hK:K≤7) (hS:sJ S):(!aS (aW o) (dG (gU (K:Int) S))&&aS (aW o) (dG (IG (K:Int) S)))=pI (K:Int) S false o:=by
 unfold pI
 rw[Bool.eq_iff_iff,jA,Bool.not_eq_true',Bool.false_or,jA,lD,lD]
 refine⟨fun⟨e1,e2⟩=>(Jr ho hK hS e1 e2).imp (fun e=>by rw[e]) id,fun⟨e1,e2⟩=> ?_⟩
 unfold aS aW jr
 rw[e1,e2,aO,aO,aO]
 have h1:gU (K:Int) S++o.name.data.toList=(jh (K:Int)++[47]++S.data.toList)++47::o.name.data.toList:=by simp[gU]
 rw[h1]
 exact RF _ _
theorem CZ {α:Type}:∀{a b:List (ByteArray×α)},aT aS a→aT aS b→(∀x,x∈a↔x∈b)→a=b
 | [],[],_,_,_=>rfl
 | [],y::b,_,_,h=>by cases (h y).2 (by simp)
 | x::a,[],_,_,h=>by cases (h x).1 (by simp)
 | x::a,y::b,ha,hb,h=>by
  have h1:=(List.pairwise_cons.1 ha).1
  have h2:=(List.pairwise_cons.1 hb).1
  have e:x=y:=by
   rcases fC.1 ((h x).1 (by simp)) with e | hx
   ·exact e
   ·rcases fC.1 ((h y).2 (by simp)) with e | hy
    ·exact e.symm
    ·have k:=dh.tr _ _ _ (h1 y hy) (h2 x hx)
     rw[dh.Ut] at k
     cases k
  subst e
  have ne:∀z,(z∈a→z≠x)∧(z∈b→z≠x):=fun z=>
   ⟨fun hz e=>(by have:=h1 z hz;rw[e,dh.Ut] at this;cases this),fun hz e=>(by have:=h2 z hz;rw[e,dh.Ut] at this;cases this)⟩
  rw[CZ ha.tail hb.tail fun z=>⟨fun hz=> ?_,fun hz=> ?_⟩]
  ·exact (fC.1 ((h z).1 (gK _ hz))).resolve_left ((ne z).1 hz)
  ·exact (fC.1 ((h z).2 (gK _ hz))).resolve_left ((ne z).2 hz)
theorem Io {l:List aC} (h:l.Pairwise fun a b=>aS (ko a) (ko b)=true):aT aS (kd ko l):=by
 unfold aT kd
 rw[List.pairwise_map]
 exact h
theorem uJ:∀(l pre:List aC),aT aS (kd ko (pre++l))→l.foldl gZ (kd ko pre)=kd ko (pre++l)
 | [],pre,_=>by rw[List.append_nil];rfl
 | x::l,pre,h=>by
  have h0:aT aS (kd ko pre++(ko x,x)::kd ko l):=by unfold kd at h ⊢;rw[dI,qg] at h;exact h
  have e:gZ (kd ko pre) x=kd ko (pre++[x]):=by
   unfold gZ
   show ins aS (ko x) x (kd ko pre)=_
   rw[LW dh h0.below]
   unfold kd
   rw[dI]
   rfl
  rw[lC,e,uJ l (pre++[x]) (by rw[mQ];exact h),mQ]
  rfl
/-- Rows put in one by one: they are there, in order. -/
theorem zN:∀(q:List aC) (P:List (ByteArray×aC)),aT aS P→(∀a∈q,∀b∈q,ko a=ko b→a=b)→(∀a∈q,∀y∈P,y.1=ko a→y.2=a)→aT aS (q.foldl gZ P)∧∀y,y∈q.foldl gZ P↔y∈P∨y∈kd ko q
 | [],P,hr,_,_=>⟨hr,fun y=>by simp[kd]⟩
 | x::q,P,hr,hi,hp=>by
  have hm:∀y,y∈gZ P x↔y∈P∨y=(ko x,x):=fun y=>by
   refine(zG hr y).trans ⟨fun h=>h.elim .inr fun h=>.inl h.1,fun h=> ?_⟩
   rcases h with h | rfl
   ·by_cases hy:y.1=ko x
    ·exact .inl (Prod.ext hy (hp x (by simp) y h hy))
    ·exact .inr ⟨h,hy⟩
   ·exact .inl rfl
  obtain⟨h1,h2⟩:=zN q (gZ P x) (nU dh hr) (fun a ha b hb=>hi a (gK _ ha) b (gK _ hb)) fun a ha y hy e=>by
   rcases(hm y).1 hy with hy | rfl
   ·exact hp a (gK _ ha) y hy e
   ·exact hi x (by simp) a (gK _ ha) e
  refine⟨h1,fun y=>(h2 y).trans ?_⟩
  rw[hm y]
  unfold kd
  rw[qg,fC,or_assoc]
/-- All that is there of what is followed, in order. -/
def vS (M:bQ) (kind:Int) (space:ByteArray) (all:Bool) (l:List aC):Prop:=(∀o,o∈l↔o∈M.tab.map Prod.snd∧pI kind space all o=true)∧aT aS (kd ko l)
section
variable {M:bQ} {kind:Int} {S:ByteArray} {all:Bool} {l:List aC}
theorem JZ (h:M.Ok) {a b:aC} (ha:a∈M.tab.map Prod.snd) (hb:b∈M.tab.map Prod.snd) (hk:a.kind=b.kind) (he:ko a=ko b):a=b:=by
 obtain⟨x,hx,rfl⟩:=bW.1 ha
 obtain⟨y,hy,rfl⟩:=bW.1 hb
 have e:x.1=y.1:=by
  rw[(h.tab.each x hx).1,(h.tab.each y hy).1,ny,ny,hk]
  have e:=bJ ByteArray.toList he
  unfold ko wkey at e
  rw[aO,aO] at e
  rw[e]
 obtain⟨i,hi⟩:=jT.1 hx
 obtain⟨j,hj⟩:=jT.1 hy
 have h1:=fF dh h.tab.tH hi
 have h2:=fF dh h.tab.tH hj
 rw[e,h2] at h1
 injection h1 with h1
 exact h1.symm
theorem jQ {o:aC} (h:pI kind S all o=true):(o.kind:Int)=kind:=by
 unfold pI at h
 rw[jA] at h
 exact rG h.1
theorem OJ {o:aC} (h:o.Ok) (h5:o.kind≠5) (h6:o.kind≠6):o.space=⟨#[]⟩:=by
 have hn:=h.named
 unfold dJ at hn
 have hi:fV (o.kind:Int)=false:=by
  unfold fV
  rw[Bool.or_eq_false_iff]
  exact⟨aQ (by omega),aQ (by omega)⟩
 rw[hi,jA] at hn
 have h0:o.space.size=0:=rG (by simpa using hn.1)
 exact kG (Array.eq_empty_of_size_eq_zero h0)
/-- What is listed, where one List does. -/
theorem vS.one (h:M.Ok) (K:Nat) (hK:K≤7) (hS:all=false→sJ S) (hn:all=false∨(K≠5∧K≠6)):vS M (K:Int) S all (jP M (K:Int) S all):=by
 have hS':sJ (if all=true then ⟨#[]⟩ else S):=by
  split
  ·intro c hc;cases hc
  ·rename_i ha
   exact hS (by simpa using ha)
 have hf:∀o:aC,o.Ok→pI (K:Int) (if all=true then ⟨#[]⟩ else S) false o=pI (K:Int) S all o:=fun o ho=>by
  cases all with
  | false=>rfl
  | true=>
   have hn:=hn.resolve_left (by decide)
   unfold pI
   by_cases hk:(o.kind:Int)=(K:Int)
   ·have e:=OJ ho (by omega) (by omega)
    simp[hk,e]
   ·simp [hk]
 refine⟨fun o=> ?_,Io ?_⟩
 ·unfold jP span
  refine⟨fun ho=> ?_,fun⟨ho,h2⟩=> ?_⟩
  ·obtain ⟨x,hx,rfl⟩:=bW.1 ho
   obtain⟨h1,h2⟩:=jB.1 hx
   obtain⟨hk,hok,-⟩:=h.tab.each x h1
   rw[hk,x9 hok hK hS',hf _ hok] at h2
   exact⟨bW.2 ⟨x,h1,rfl⟩,h2⟩
  ·obtain ⟨x,hx,rfl⟩:=bW.1 ho
   obtain⟨hk,hok,-⟩:=h.tab.each x hx
   exact bW.2 ⟨x,jB.2 ⟨hx,by rw[hk,x9 hok hK hS',hf _ hok];exact h2⟩,rfl⟩
 ·unfold jP
  rw[List.pairwise_map]
  refine List.Pairwise.imp_of_mem (fun {a b} ha hb hab=> ?_) (List.Pairwise.filter _ h.tab.tH)
  obtain⟨a1,a2⟩:=jB.1 ha
  obtain⟨b1,b2⟩:=jB.1 hb
  obtain⟨ka,oa,-⟩:=h.tab.each a a1
  obtain⟨kb,ob,-⟩:=h.tab.each b b1
  rw[ka,x9 oa hK hS'] at a2
  rw[kb,x9 ob hK hS'] at b2
  rw[ka,kb,WH (by have:=jQ a2;have:=jQ b2;omega)] at hab
  exact hab
/-- The document's rows and the program's are the same. -/
theorem vS.ins (h:M.Ok) (hl:vS M kind S all l) {T:List aC} (hT:T=M.tab.map Prod.snd):(T.filter (pI kind S all)).foldl gZ []=kd ko l∧l.foldl gZ []=kd ko l:=by
 refine⟨?_,uJ l [] hl.2⟩
 obtain⟨h1,h2⟩:=zN (T.filter (pI kind S all)) [] List.Pairwise.nil (fun a ha b hb e=>by
  rw[hT] at ha hb
  obtain⟨a1,a2⟩:=jB.1 ha
  obtain⟨b1,b2⟩:=jB.1 hb
  exact JZ h a1 b1 (by have:=jQ a2;have:=jQ b2;omega) e) fun a _ y hy=>by cases hy
 refine CZ h1 hl.2 fun y=>(h2 y).trans ?_
 unfold kd
 simp only[List.not_mem_nil,false_or,List.mem_map,List.mem_filter]
 refine⟨fun⟨o,⟨o1,o2⟩,e⟩=>⟨o,(hl.1 o).2 ⟨by rw[←hT];exact o1,o2⟩,e⟩,fun⟨o,o1,e⟩=>⟨o,⟨by rw[hT];exact((hl.1 o).1 o1).1,((hl.1 o).1 o1).2⟩,e⟩⟩
/-- Who is gone, in both ways. -/
theorem vS.gone (h:M.Ok) (hl:vS M kind S all l) {o:aC} (ho:o.Ok) (hf:pI kind S all o=true):(look aS (ko o) (kd ko l)).isNone=(getM M (o.kind:Int) o.space o.name).isNone:=by
 have hk:jr (o.kind:Int) o.space o.name=aW o:=rfl
 unfold getM
 rw[hk]
 cases hx:look aS (ko o) (kd ko l) with
 | some y=>
  obtain⟨z,hz,e⟩:=bW.1 (nX dh hx)
  injection e with e1 e2
  subst e2
  obtain⟨z1,z2⟩:=(hl.1 z).1 hz
  obtain⟨x,hx1,rfl⟩:=bW.1 z1
  obtain⟨xk,xo,-⟩:=h.tab.each x hx1
  have hkk:x.2.kind=o.kind:=by have:=jQ z2;have:=jQ hf;omega
  have e:aW o=x.1:=by
   rw[xk,ny,ny,hkk]
   have e:=bJ ByteArray.toList e1
   unfold ko wkey at e
   rw[aO,aO] at e
   rw[e]
  obtain⟨i,hi⟩:=jT.1 hx1
  rw[e,fF dh h.tab.tH hi]
  have hs:=(zH ho xo (e.trans xk)).2.1.symm
  simp[hkk,hs]
 | none=>
  cases hy:look aS (aW o) M.tab with
  | none=>rfl
  | some y=>
   have hm:=nX dh hy
   obtain⟨yk,yo,-⟩:=h.tab.each _ hm
   dsimp only at yk
   show true=(if _ then some y else none).isNone
   rw[aG ?_]
   ·rfl
   ·rintro ⟨k1,k2⟩
    have hin:y∈l:=(hl.1 y).2 ⟨bW.2 ⟨_,hm,rfl⟩,by
     unfold pI at hf ⊢
     rw[k1,k2]
     exact hf⟩
    have e:ko y=ko o:=by
     have e:=bJ ByteArray.toList yk
     rw[ny,ny,aO,aO] at e
     rw[show y.kind=o.kind by omega] at e
     have e:=List.append_cancel_left e
     unfold ko wkey
     rw[e]
    obtain⟨i,hi⟩:=jT.1 (bW.2 ⟨y,hin,rfl⟩:(ko y,y)∈kd ko l)
    have:=fF dh hl.2 hi
    rw[e,hx] at this
    cases this
/-- Namespace by namespace. -/
def J3 (M:bQ) (K:Nat):List aC:=(jP M ((1:Nat):Int) ⟨#[]⟩ false).flatMap fun x=>jP M (K:Int) x.name false
theorem Ip:sJ ⟨#[]⟩:=fun c hc=>by cases hc
theorem qU {K:Nat} {o:aC} (h:pI (K:Int) S false o=true):o.kind=K∧o.space=S:=by
 unfold pI at h
 rw[jA,Bool.false_or,lD,lD] at h
 exact⟨by omega,h.2⟩
theorem vS.cat (h:M.Ok) (hn:vN M.tab) (K:Nat) (hK:K=5∨K=6):(∀o,o∈J3 M K↔o∈M.tab.map Prod.snd∧pI (K:Int) S true o=true)∧(J3 M K).Pairwise fun a b=>ko a≠ko b:=by
 obtain⟨s1,s2⟩:=vS.one (all:=false) h 1 (by decide) (fun _=>Ip) (.inl rfl)
 have hone:∀a∈jP M ((1:Nat):Int) ⟨#[]⟩ false,a.kind=1∧a.space=⟨#[]⟩∧vS M (K:Int) a.name false (jP M (K:Int) a.name false):=fun a ha=>by
  obtain⟨a1,a2⟩:=(s1 a).1 ha
  obtain⟨x,hx,rfl⟩:=bW.1 a1
  obtain⟨f1,f2⟩:=qU a2
  exact⟨f1,f2,vS.one (all:=false) h K (by omega) (fun _=>Cc (h.tab.each x hx).2.1.named) (.inl rfl)⟩
 refine⟨fun o=> ?_,?_⟩
 ·unfold J3
  rw[List.mem_flatMap]
  refine⟨fun⟨a,ha,ho⟩=> ?_,fun⟨o1,o2⟩=> ?_⟩
  ·obtain ⟨-,-,h3⟩:=hone a ha
   obtain⟨o1,o2⟩:=(h3.1 o).1 ho
   exact⟨o1,by unfold pI;rw[(qU o2).1];simp⟩
  ·obtain ⟨x,hx,rfl⟩:=bW.1 o1
   have hk:x.2.kind=K:=by have:=jQ o2;omega
   obtain⟨y,hy,y1,y2,y3⟩:=hn x hx (by unfold fV;rw[hk];rcases hK with rfl | rfl<;>decide)
   have ha:y.2∈jP M ((1:Nat):Int) ⟨#[]⟩ false:=(s1 _).2 ⟨bW.2 ⟨y,hy,rfl⟩,by unfold pI;rw[y1,y2];simp⟩
   exact⟨y.2,ha,((hone _ ha).2.2.1 _).2 ⟨o1,by unfold pI;rw[hk,y3];simp⟩⟩
 ·unfold J3
  rw[List.pairwise_flatMap]
  have hp:∀{l:List aC},aT aS (kd ko l)→l.Pairwise fun a b=>aS (ko a) (ko b)=true:=fun hl=>by
   unfold aT kd at hl
   rw[List.pairwise_map] at hl
   exact hl
  refine⟨fun a ha=>(hp (hone a ha).2.2.2).imp pq,(hp s2).imp_of_mem fun {a b} ha hb hab x hx y hy e=>pq hab ?_⟩
  obtain⟨x1,x2⟩:=((hone a ha).2.2.1 x).1 hx
  obtain⟨y1,y2⟩:=((hone b hb).2.2.1 y).1 hy
  obtain⟨xk,xs⟩:=qU x2
  obtain⟨yk,ys⟩:=qU y2
  have e:=JZ h x1 y1 (xk.trans yk.symm) e
  unfold ko
  rw[(hone a ha).2.1,(hone b hb).2.1,←xs,←ys,e]
/-- .. and sorted. -/
theorem vS.sorted (h:M.Ok) (hn:vN M.tab) (K:Nat) (hK:K=5∨K=6) {l:List aC} (hp:l.Perm (J3 M K)) (hs:l.Pairwise fun a b=>aS (ko b) (ko a)=false):vS M (K:Int) S true l:=by
 obtain⟨h1,h2⟩:=vS.cat (S:=S) h hn K hK
 refine⟨fun o=>hp.mem_iff.trans (h1 o),Io ?_⟩
 refine(hs.and ((hp.pairwise_iff fun e=>e.symm).2 h2)).imp fun {a b} hab=> ?_
 cases hk:aS (ko a) (ko b) with
 | true=>rfl
 | false=>exact absurd (dh.tri _ _ hk hab.1) hab.2
end
end Go.Proofs.YtdhbpajamlfacaaGreatDoor
