/- Trees in memory, whose nodes are never turned: each with its shape; what the balanced trees' functions make of shapes. No program in sight. -/
import Derived.Test.YtdhbpajamlfacaaGreatDoorBase
import Derived.Test.YtdhbpajamlfacaaGreatDoorRows
import Derived.Deep.RegionHeld3
import Derived.StillTailTactics
import Derived.Deep.LoopGhost
set_option maxHeartbeats 4000000
set_option maxRecDepth 100000
namespace Go.Proofs.YtdhbpajamlfacaaGreatDoor
open Go.RowKit
theorem bK {B:Nat} {a w:World} (h:Below B a w):Below B a w.drew:=⟨h.os,h.tape,h.output,h.size,h.block⟩
/-- All blocks that were stay as they are. -/
def BK (w w':World):Prop:=∀b,b<w.heap.size→w'.heap[b]?=w.heap[b]?
theorem BK.trans {a b c:World} (h:BK a b) (k:BK b c):BK a c:=fun i hi=>by
 have h1:=h i hi
 have h2:i<b.heap.size:=by
  rw[Array.getElem?_eq_getElem hi] at h1
  exact(Cq h1)
 exact(k i h2).trans h1
theorem BK.of_below {w w':World} (h:Below w.heap.size w w'):BK w w':=fun i hi=>h.block i hi
theorem BK.drew (w:World):BK w w.drew:=fun _ _=>rfl
theorem BK.drewN (w:World) (n:Nat):BK w (w.drewN n):=fun _ _=>rfl
theorem BK.cell {w w':World} (h:BK w w'):Keeps w w':=fun p v hp=>by
 have hb:=iP w p hp
 rw[World.cell?_of_block (h p.block hb)]
 exact hp
def ht:Code→Nat
 | .seq a b=>1+max (ht a) (ht b)
 | _=>0
def sz:Code→Nat
 | .seq a b=>sz a+sz b+1
 | _=>0
def Ju:Code→Code→Code
 | .seq a b,r=>if ht a<ht b then (match b with | .seq m1 m2=>.seq (.seq a m1) (.seq m2 r) | _=>.skip) else .seq a (.seq b r)
 | _,_=>.skip
def Jv (l:Code):Code→Code
 | .seq a b=>if ht b<ht a then (match a with | .seq m1 m2=>.seq (.seq l m1) (.seq m2 b) | _=>.skip) else .seq (.seq l a) b
 | _=>.skip
def iI (l r:Code):Code:=if ht r+1<ht l then Ju l r else if ht l+1<ht r then Jv l r else .seq l r
def vC:Code→Code
 | .seq a b=>match a with | .skip=>b | _=>iI (vC a) b
 | _=>.skip
section Tree
variable {κ ν:Type}
def lN (lt:κ→κ→Bool) (k:κ):Code→List (κ×ν)→Code
 | .seq a b,l=>match l.drop (sz a) with
  | []=>.skip
  | e::lr=>if lt k e.1 then iI (lN lt k a (l.take (sz a))) b else if lt e.1 k then iI a (lN lt k b lr) else .seq a b
 | _,_=>.seq .skip .skip
def delS (lt:κ→κ→Bool) (k:κ):Code→List (κ×ν)→Code
 | .seq a b,l=>match l.drop (sz a) with
  | []=>.skip
  | e::lr=>if lt k e.1 then iI (delS lt k a (l.take (sz a))) b else if lt e.1 k then iI a (delS lt k b lr) else (match b with | .skip=>a | _=>iI a (vC b))
 | _,_=>.skip
/-- NP w b k v l r h s: block b is a node. A tree of shape s at p, with the entries l from left to right. -/
def Tr (NP:World→Nat→κ→ν→Option Addr→Option Addr→Nat→Nat→Prop) (w:World):Code→Option Addr→List (κ×ν)→Prop
 | .seq a b,p,l=>∃(g:Nat) (k:κ) (v:ν) (pl pr:Option Addr) (ll lr:List (κ×ν)),p=some ⟨g,0,none⟩∧NP w g k v pl pr (1+max (ht a) (ht b)) (ll.length+lr.length+1)∧l=ll++(k,v)::lr∧Tr NP w a pl ll∧Tr NP w b pr lr
 | .skip,p,l=>p=none∧l=[]
 | _,_,_=>False
variable {NP:World→Nat→κ→ν→Option Addr→Option Addr→Nat→Nat→Prop}
theorem Tr.nil (w:World):Tr NP w .skip none []:=⟨rfl,rfl⟩
/-- What a tree at an address is. -/
theorem Tr.open {w:World} {s p l} (a:Tr NP w s p l):(s=.skip∧p=none∧l=[])∨∃(b:Nat) (k:κ) (v:ν) (pl pr:Option Addr) (ll lr:List (κ×ν)) (sl sr:Code),p=some ⟨b,0,none⟩∧NP w b k v pl pr (1+max (ht sl) (ht sr)) (ll.length+lr.length+1)∧l=ll++(k,v)::lr∧
   s=.seq sl sr∧Tr NP w sl pl ll∧Tr NP w sr pr lr:=by
 cases s with
 | seq x y=>
  obtain⟨b,k,v,pl,pr,ll,lr,h1,h2,h3,h4,h5⟩:=a
  exact .inr ⟨b,k,v,pl,pr,ll,lr,x,y,h1,h2,h3,rfl,h4,h5⟩
 | skip=>exact .inl ⟨rfl,a.1,a.2⟩
 | _=>exact a.elim
theorem Tr.Vh {w w':World} (hk:∀b k v pl pr h s,NP w b k v pl pr h s→NP w' b k v pl pr h s):∀(n:Nat) (s:Code) (p:Option Addr) (l:List (κ×ν)),sz s≤n→Tr NP w s p l→Tr NP w' s p l:=by
 intro n
 induction n with
 | zero=>
  intro s p l hn a
  rcases a.open with ⟨rfl,rfl,rfl⟩ | ⟨b,k,v,pl,pr,ll,lr,sl,sr,_,_,_,rfl,_,_⟩
  ·exact Tr.nil w'
  ·simp [sz] at hn
 | succ n ih=>
  intro s p l hn a
  rcases a.open with ⟨rfl,rfl,rfl⟩ | ⟨b,k,v,pl,pr,ll,lr,sl,sr,h1,h2,h3,rfl,h4,h5⟩
  ·exact Tr.nil w'
  ·simp only[sz] at hn
   exact⟨b,k,v,pl,pr,ll,lr,h1,hk _ _ _ _ _ _ _ h2,h3,ih sl pl ll (by omega) h4,ih sr pr lr (by omega) h5⟩
theorem Tr.keep {w w':World} {s p l} (a:Tr NP w s p l) (hk:∀b k v pl pr h s,NP w b k v pl pr h s→NP w' b k v pl pr h s):Tr NP w' s p l:=Tr.Vh hk _ s p l Kv a
theorem Tr.node {w:World} {b k v pl pr ll lr sl sr} (hn:NP w b k v pl pr (1+max (ht sl) (ht sr)) (ll.length+lr.length+1)) (a:Tr NP w sl pl ll) (c:Tr NP w sr pr lr):
  Tr NP w (.seq sl sr) (some ⟨b,0,none⟩) (ll++(k,v)::lr):=⟨b,k,v,pl,pr,ll,lr,rfl,hn,rfl,a,c⟩
theorem Y4 (a b:Code):ht (.seq a b)=1+max (ht a) (ht b):=rfl
theorem Tr.pos {w:World} {s p l} (a:Tr NP w s p l) (hp:0<ht s):∃(b:Nat) (k:κ) (v:ν) (pl pr:Option Addr) (ll lr:List (κ×ν)) (sl sr:Code),p=some ⟨b,0,none⟩∧NP w b k v pl pr (1+max (ht sl) (ht sr)) (ll.length+lr.length+1)∧l=ll++(k,v)::lr∧
   s=.seq sl sr∧Tr NP w sl pl ll∧Tr NP w sr pr lr:=by
 rcases a.open with ⟨rfl,_⟩ | x
 ·simp [ht] at hp
 ·exact x
theorem Tr.Y5 {w:World}:∀(n:Nat) (s:Code) (p:Option Addr) (l:List (κ×ν)),sz s≤n→Tr NP w s p l→l.length=sz s:=by
 intro n
 induction n with
 | zero=>
  intro s p l hn a
  rcases a.open with ⟨rfl,rfl,rfl⟩ | ⟨b,k,v,pl,pr,ll,lr,sl,sr,_,_,_,rfl,_,_⟩
  ·rfl
  ·simp [sz] at hn
 | succ n ih=>
  intro s p l hn a
  rcases a.open with ⟨rfl,rfl,rfl⟩ | ⟨b,k,v,pl,pr,ll,lr,sl,sr,h1,h2,rfl,rfl,h4,h5⟩
  ·rfl
  ·simp only[sz] at hn ⊢
   have e1:=ih sl pl ll (by omega) h4
   have e2:=ih sr pr lr (by omega) h5
   simp only[List.length_append,List.length_cons]
   omega
theorem Tr.len {w:World} {s p l} (a:Tr NP w s p l):l.length=sz s:=Tr.Y5 _ s p l Kv a
theorem ht_le:∀(n:Nat) (s:Code),sz s≤n→ht s≤sz s:=by
 intro n
 induction n with
 | zero=>
  intro s hn
  cases s with
  | seq a b=>simp[sz] at hn
  | _=>exact bZ _
 | succ n ih=>
  intro s hn
  cases s with
  | seq a b=>
   simp only[sz,ht] at*
   have:=ih a (by omega)
   have:=ih b (by omega)
   omega
  | _=>exact bZ _
theorem Tr.le {w:World} {s p l} (a:Tr NP w s p l):ht s≤l.length:=by rw[a.len];exact ht_le _ s Kv
theorem Vj {lt:κ→κ→Bool} {k:κ} {a b:Code} {ll lr:List (κ×ν)} {e:κ×ν} (h:ll.length=sz a) (h1:lt k e.1=true):lN lt k (.seq a b) (ll++e::lr)=iI (lN lt k a ll) b:=by
 simp only[lN,←h,List.drop_left,List.take_left,h1,if_true]
theorem Vk {lt:κ→κ→Bool} {k:κ} {a b:Code} {ll lr:List (κ×ν)} {e:κ×ν} (h:ll.length=sz a) (h1:lt k e.1=false) (h2:lt e.1 k=true):lN lt k (.seq a b) (ll++e::lr)=iI a (lN lt k b lr):=by
 simp only[lN,←h,List.drop_left,h1,h2,if_true]
 simp
theorem Vl {lt:κ→κ→Bool} {k:κ} {a b:Code} {ll lr:List (κ×ν)} {e:κ×ν} (h:ll.length=sz a) (h1:lt k e.1=false) (h2:lt e.1 k=false):lN lt k (.seq a b) (ll++e::lr)=.seq a b:=by
 simp only[lN,←h,List.drop_left,h1,h2]
 simp
theorem Vm {lt:κ→κ→Bool} {k:κ} {a b:Code} {ll lr:List (κ×ν)} {e:κ×ν} (h:ll.length=sz a) (h1:lt k e.1=true):delS lt k (.seq a b) (ll++e::lr)=iI (delS lt k a ll) b:=by
 simp only[delS,←h,List.drop_left,List.take_left,h1,if_true]
theorem Vo {lt:κ→κ→Bool} {k:κ} {a b:Code} {ll lr:List (κ×ν)} {e:κ×ν} (h:ll.length=sz a) (h1:lt k e.1=false) (h2:lt e.1 k=true):delS lt k (.seq a b) (ll++e::lr)=iI a (delS lt k b lr):=by
 simp only[delS,←h,List.drop_left,h1,h2,if_true]
 simp
theorem Vp {lt:κ→κ→Bool} {k:κ} {a b:Code} {ll lr:List (κ×ν)} {e:κ×ν} (h:ll.length=sz a) (h1:lt k e.1=false) (h2:lt e.1 k=false):delS lt k (.seq a b) (ll++e::lr)=(match b with | .skip=>a | _=>iI a (vC b)):=by
 simp only[delS,←h,List.drop_left,h1,h2]
 simp
end Tree
section
variable {κ ν:Type}
end
/-- An order of keys. -/
structure vZ {κ:Type} (lt:κ→κ→Bool):Prop where
 Ut:∀a,lt a a=false
 tr:∀a b c,lt a b=true→lt b c=true→lt a c=true
 tri:∀a b,lt a b=false→lt b a=false→a=b
section Rows
variable {κ ν:Type} (lt:κ→κ→Bool)
def aT (l:List (κ×ν)):Prop:=l.Pairwise fun a b=>lt a.1 b.1=true
def ins (k:κ) (v:ν):List (κ×ν)→List (κ×ν)
 | []=>[(k,v)]
 | e::l=>if lt k e.1 then (k,v)::e::l else if lt e.1 k then e::ins k v l else (k,v)::l
def rem (k:κ):List (κ×ν)→List (κ×ν)
 | []=>[]
 | e::l=>if lt k e.1 then e::l else if lt e.1 k then e::rem k l else l
/-- The value of a key. -/
def look (k:κ):List (κ×ν)→Option ν
 | []=>none
 | e::l=>if lt k e.1 then none else if lt e.1 k then look k l else some e.2
/-- How many keys are below one. -/
def rank (k:κ) (l:List (κ×ν)):Nat:=(l.filter fun e=>lt e.1 k).length
variable {lt}
theorem vZ.Vq (L:vZ lt) {a b:κ} (h:lt a b=true):lt b a=false:=by
 cases h':lt b a with
 | false=>rfl
 | true=>have:=L.tr a b a h h';rw[L.Ut] at this;cases this
theorem aT.left {l r:List (κ×ν)} (h:aT lt (l++r)):aT lt l:=(List.pairwise_append.1 h).1
theorem aT.right {l r:List (κ×ν)} (h:aT lt (l++r)):aT lt r:=(List.pairwise_append.1 h).2.1
theorem aT.tail {e:κ×ν} {l:List (κ×ν)} (h:aT lt (e::l)):aT lt l:=(List.pairwise_cons.1 h).2
theorem aT.below {l r:List (κ×ν)} {k v} (h:aT lt (l++(k,v)::r)):∀e∈l,lt e.1 k=true:=fun e he=>(List.pairwise_append.1 h).2.2 e he (k,v) (by simp)
theorem aT.above {l r:List (κ×ν)} {k v} (h:aT lt (l++(k,v)::r)):∀e∈r,lt k e.1=true:=fun e he=>(List.pairwise_cons.1 h.right).1 e he
theorem QV {k a:κ} {v b:ν} {l r:List (κ×ν)} (h:lt k a=true):ins lt k v (l++(a,b)::r)=ins lt k v l++(a,b)::r:=by
 induction l with
 | nil=>simp[ins,h]
 | cons e l ih=>
  simp only[List.cons_append,ins]
  rw[ih]
  split
  ·rfl
  ·split<;>rfl
theorem uw (L:vZ lt) {k:κ} {v:ν} {l r:List (κ×ν)} (h:∀e∈l,lt e.1 k=true):ins lt k v (l++r)=l++ins lt k v r:=by
 induction l with
 | nil=>rfl
 | cons e l ih=>
  have he:=h e (by simp)
  simp only[List.cons_append,ins]
  rw[aG (by rw[L.Vq he];simp),aF he,ih fun x hx=>h x (by simp[hx])]
theorem ND (L:vZ lt) {k a:κ} {v b:ν} {l r:List (κ×ν)} (hr:aT lt (l++(a,b)::r)) (h:lt a k=true):ins lt k v (l++(a,b)::r)=l++(a,b)::ins lt k v r:=by
 rw[uw L fun e he=>L.tr _ _ _ (hr.below e he) h]
 simp[ins,L.Vq h,h]
theorem QW (L:vZ lt) {k:κ} {v b:ν} {l r:List (κ×ν)} (hr:aT lt (l++(k,b)::r)):ins lt k v (l++(k,b)::r)=l++(k,v)::r:=by
 rw[uw L fun e he=>hr.below e he]
 simp[ins,L.Ut]
theorem QX {k a:κ} {b:ν} {l r:List (κ×ν)} (h:lt k a=true):rem lt k (l++(a,b)::r)=rem lt k l++(a,b)::r:=by
 induction l with
 | nil=>simp[rem,h]
 | cons e l ih=>
  simp only[List.cons_append,rem]
  rw[ih]
  split
  ·rfl
  ·split<;>rfl
theorem yV (L:vZ lt) {k:κ} {l r:List (κ×ν)} (h:∀e∈l,lt e.1 k=true):rem lt k (l++r)=l++rem lt k r:=by
 induction l with
 | nil=>rfl
 | cons e l ih=>
  have he:=h e (by simp)
  simp only[List.cons_append,rem]
  rw[aG (by rw[L.Vq he];simp),aF he,ih fun x hx=>h x (by simp[hx])]
theorem NG (L:vZ lt) {k a:κ} {b:ν} {l r:List (κ×ν)} (hr:aT lt (l++(a,b)::r)) (h:lt a k=true):rem lt k (l++(a,b)::r)=l++(a,b)::rem lt k r:=by
 rw[yV L fun e he=>L.tr _ _ _ (hr.below e he) h]
 simp[rem,L.Vq h,h]
theorem QY (L:vZ lt) {k:κ} {b:ν} {l r:List (κ×ν)} (hr:aT lt (l++(k,b)::r)):rem lt k (l++(k,b)::r)=l++r:=by
 rw[yV L fun e he=>hr.below e he]
 simp[rem,L.Ut]
theorem NH {k a:κ} {b:ν} {l r:List (κ×ν)} (h:lt k a=true):look lt k (l++(a,b)::r)=look lt k l:=by
 induction l with
 | nil=>simp[look,h]
 | cons e l ih=>simp only[List.cons_append,look,ih]
theorem Cb (L:vZ lt) {k:κ} {l r:List (κ×ν)} (h:∀e∈l,lt e.1 k=true):look lt k (l++r)=look lt k r:=by
 induction l with
 | nil=>rfl
 | cons e l ih=>
  have he:=h e (by simp)
  simp only[List.cons_append,look]
  rw[aG (by rw[L.Vq he];simp),aF he,ih fun x hx=>h x (by simp[hx])]
theorem Jw (L:vZ lt) {k a:κ} {b:ν} {l r:List (κ×ν)} (hr:aT lt (l++(a,b)::r)) (h:lt a k=true):look lt k (l++(a,b)::r)=look lt k r:=by
 rw[Cb L fun e he=>L.tr _ _ _ (hr.below e he) h]
 simp[look,L.Vq h,h]
theorem uV (L:vZ lt) {k:κ} {b:ν} {l r:List (κ×ν)} (hr:aT lt (l++(k,b)::r)):look lt k (l++(k,b)::r)=some b:=by
 rw[Cb L fun e he=>hr.below e he]
 simp[look,L.Ut]
theorem tu {k:κ} {v:ν} {l:List (κ×ν)} {e:κ×ν} (h:e∈ins lt k v l):e=(k,v)∨e∈l:=by
 induction l with
 | nil=>simpa [ins] using h
 | cons a l ih=>
  simp only[ins] at h
  split at h
  ·simpa using h
  ·split at h
   ·rcases fC.1 h with rfl | h
    ·simp
    ·rcases ih h with h | h
     ·exact .inl h
     ·exact .inr (by simp[h])
   ·rcases fC.1 h with rfl | h
    ·simp
    ·exact .inr (by simp[h])
theorem nU (L:vZ lt) {k:κ} {v:ν} {l:List (κ×ν)} (h:aT lt l):aT lt (ins lt k v l):=by
 induction l with
 | nil=>simp[ins,aT]
 | cons a l ih=>
  have h1:=List.pairwise_cons.1 h
  simp only[ins]
  split
  ·rename_i hk
   refine List.pairwise_cons.2 ⟨fun e he=> ?_,h⟩
   rcases fC.1 he with rfl | he
   ·exact hk
   ·exact L.tr _ _ _ hk (h1.1 e he)
  ·split
   ·rename_i hk
    refine List.pairwise_cons.2 ⟨fun e he=> ?_,ih h.tail⟩
    rcases tu he with rfl | he
    ·exact hk
    ·exact h1.1 e he
   ·rename_i h2 h3
    obtain rfl:=L.tri k a.1 (by simpa using h2) (by simpa using h3)
    exact List.pairwise_cons.2 ⟨fun e he=>h1.1 e he,h.tail⟩
theorem mM {k:κ} {l:List (κ×ν)}:(rem lt k l).Sublist l:=by
 induction l with
 | nil=>exact List.Sublist.refl _
 | cons a l ih=>
  simp only[rem]
  split
  ·exact List.Sublist.refl _
  ·split
   ·exact ih.cons_cons a
   ·exact List.sublist_cons_self a l
theorem vF {k:κ} {l:List (κ×ν)} (h:aT lt l):aT lt (rem lt k l):=h.sublist mM
theorem kC {k:κ} {v:ν} {l:List (κ×ν)}:(ins lt k v l).length=if (look lt k l).isSome then l.length else l.length+1:=by
 induction l with
 | nil=>simp[ins,look]
 | cons a l ih=>
  simp only[ins,look]
  split
  ·simp
  ·split
   ·simp only[List.length_cons,ih]
    split<;>rfl
   ·simp
theorem yX {k:κ} {l:List (κ×ν)}:(rem lt k l).length=if (look lt k l).isSome then l.length-1 else l.length:=by
 induction l with
 | nil=>simp[rem,look]
 | cons a l ih=>
  simp only[rem,look]
  split
  ·simp
  ·split
   ·simp only[List.length_cons,ih]
    split
    ·rename_i h
     have:l≠[]:=by rintro rfl;simp[look] at h
     have:=List.length_pos_iff.2 this
     omega
    ·rfl
   ·simp
theorem NI (L:vZ lt) {k a:κ} {b:ν} {l r:List (κ×ν)} (hr:aT lt (l++(a,b)::r)) (h:lt a k=false):rank lt k (l++(a,b)::r)=rank lt k l:=by
 unfold rank
 rw[List.filter_append,List.filter_cons,h,bP]
 have:(r.filter fun e=>lt e.1 k)=[]:=by
  rw[List.filter_eq_nil_iff]
  intro e he h'
  have h1:=hr.above e he
  have h2:=L.tr _ _ _ h1 h'
  rw[h] at h2
  cases h2
 rw[this]
 simp
theorem Jy (L:vZ lt) {k a:κ} {b:ν} {l r:List (κ×ν)} (hr:aT lt (l++(a,b)::r)) (h:lt a k=true):rank lt k (l++(a,b)::r)=l.length+1+rank lt k r:=by
 unfold rank
 rw[List.filter_append,List.filter_cons,aF h,bP]
 have:(l.filter fun e=>lt e.1 k)=l:=by
  rw[List.filter_eq_self]
  exact fun e he=>L.tr _ _ _ (hr.below e he) h
 rw[this]
 simp
 omega
end Rows
end Go.Proofs.YtdhbpajamlfacaaGreatDoor
namespace Go.Proofs.YtdhbpajamlfacaaGreatDoor.SO
open Go.RowKit
/-- An object, as a value. -/
structure OV where
 kind:Int
 space:ByteArray
 name:ByteArray
 ver:Int
 A:Option Addr
 n:Nat
 c:Nat
@[reducible] def _root_.Go.Proofs.YtdhbpajamlfacaaGreatDoor.ov (v:OV):Array Value:=#[.int .i64 v.kind,.string v.space,.string v.name,.int .i64 v.ver,.slice v.A v.n v.c]
/-- Block b holds the value v from cell 1 on. -/
def VC (w:World) (b:Nat) (v:OV):Prop:=
 w.cell? ⟨b,1,none⟩=some (.int .i64 v.kind)∧w.cell? ⟨b,2,none⟩=some (.string v.space)∧w.cell? ⟨b,3,none⟩=some (.string v.name)∧w.cell? ⟨b,4,none⟩=some (.int .i64 v.ver)∧w.cell? ⟨b,5,none⟩=some (.slice v.A v.n v.c)
theorem VC.keep {w w':World} {b:Nat} {v:OV} (hk:BK w w') (h:VC w b v):VC w' b v:=
 ⟨hk.cell _ _ h.1,hk.cell _ _ h.2.1,hk.cell _ _ h.2.2.1,hk.cell _ _ h.2.2.2.1,hk.cell _ _ h.2.2.2.2⟩
/-- Block b holds the value v. -/
def VB (w:World) (b:Nat) (v:OV):Prop:=
 w.cell? ⟨b,0,none⟩=some (.int .i64 v.kind)∧w.cell? ⟨b,1,none⟩=some (.string v.space)∧w.cell? ⟨b,2,none⟩=some (.string v.name)∧w.cell? ⟨b,3,none⟩=some (.int .i64 v.ver)∧w.cell? ⟨b,4,none⟩=some (.slice v.A v.n v.c)
theorem VB.keep {w w':World} {b:Nat} {v:OV} (hk:BK w w') (h:VB w b v):VB w' b v:=
 ⟨hk.cell _ _ h.1,hk.cell _ _ h.2.1,hk.cell _ _ h.2.2.1,hk.cell _ _ h.2.2.2.1,hk.cell _ _ h.2.2.2.2⟩
/-- Block b is a node. -/
def NP (w:World) (b:Nat) (k:ByteArray) (v:OV) (pl pr:Option Addr) (h s:Nat):Prop:=
 w.heap[b]?=some (.cells #[(.string k),.int .i64 v.kind,.string v.space,.string v.name,.int .i64 v.ver,.slice v.A v.n v.c,.pointer pl,.pointer pr,.int .i64 (h:Int),.int .i64 (s:Int)] 164 (0,0))
theorem NP.cells {w:World} {b:Nat} {k:ByteArray} {v:OV} {pl pr:Option Addr} {h s:Nat} (x:NP w b k v pl pr h s):
  w.cell? ⟨b,0,none⟩=some (.string k)∧VC w b v∧w.cell? ⟨b,6,none⟩=some (.pointer pl)∧w.cell? ⟨b,7,none⟩=some (.pointer pr)∧
  w.cell? ⟨b,8,none⟩=some (.int .i64 (h:Int))∧w.cell? ⟨b,9,none⟩=some (.int .i64 (s:Int)):=
 ⟨bT w b 0 _ _ _ x,⟨bT w b 1 _ _ _ x,bT w b 2 _ _ _ x,bT w b 3 _ _ _ x,bT w b 4 _ _ _ x,bT w b 5 _ _ _ x⟩,bT w b 6 _ _ _ x,bT w b 7 _ _ _ x,bT w b 8 _ _ _ x,bT w b 9 _ _ _ x⟩
/-- The nodes stay. -/
def KN (w w':World):Prop:=∀(b:Nat) (cs:Array Value),w.heap[b]?=some (.cells cs 164 (0,0))→w'.heap[b]?=some (.cells cs 164 (0,0))
theorem NP.LK {w w':World} (hk:KN w w') (b:Nat) (k:ByteArray) (v:OV) (pl pr:Option Addr) (h s:Nat) (x:NP w b k v pl pr h s):NP w' b k v pl pr h s:=hk _ _ x
theorem NP.keep {w w':World} (hk:BK w w') (b:Nat) (k:ByteArray) (v:OV) (pl pr:Option Addr) (h s:Nat) (x:NP w b k v pl pr h s):NP w' b k v pl pr h s:=
 (hk b (Cq x)).trans x
theorem NP.new {w:World} {b:Nat} {k:ByteArray} {v:OV} {pl pr:Option Addr} {h s:Nat} {h' s':Int} (hb:w.heap[b]?=some (.cells #[(.string k),.int .i64 v.kind,.string v.space,.string v.name,.int .i64 v.ver,.slice v.A v.n v.c,.pointer pl,.pointer pr,.int .i64 h',.int .i64 s'] 164 (0,0))) (e1:h'=(h:Int)) (e2:s'=(s:Int)):NP w b k v pl pr h s:=by
 subst e1 e2
 exact hb
abbrev T (w:World) (s:Code) (p:Option Addr) (l:List (ByteArray×OV)):Prop:=Tr NP w s p l
theorem T.keep {w w':World} {s:Code} {p:Option Addr} {l:List (ByteArray×OV)} (a:T w s p l) (hk:BK w w'):T w' s p l:=Tr.keep a (NP.keep hk)
theorem T.LK {w w':World} {s:Code} {p:Option Addr} {l:List (ByteArray×OV)} (a:T w s p l) (hk:KN w w'):T w' s p l:=Tr.keep a (NP.LK hk)
theorem sK (s:Code) (p:Option Addr) (l:List (ByteArray×OV)) (w:World) (a:T w s p l):
  Cl 244 #[.pointer p] w fun e w'=>e=.returned (.int .i64 (ht s:Int))∧w=w':=by
 rcases a.open with ⟨rfl,rfl,rfl⟩ | ⟨b,k,v,pl,pr,ll,lr,sl,sr,rfl,hn,-,rfl,-,-⟩
 ·clear a
  go_enter Tryz.func244,Tryz.ntmps244
  go_wp2
  go_ret
  exact⟨rfl,rfl⟩
 ·obtain ⟨-,-,-,-,c4,-⟩:=NP.cells hn
  clear a
  go_enter Tryz.func244,Tryz.ntmps244
  go_wp2
  go_ret
  exact⟨tK (by rw[Y4];omega),rfl⟩
theorem uP (s:Code) (p:Option Addr) (l:List (ByteArray×OV)) (w:World) (a:T w s p l):
  Cl 92 #[.pointer p] w fun e w'=>e=.returned (.int .i64 (l.length:Int))∧w=w':=by
 rcases a.open with ⟨rfl,rfl,rfl⟩ | ⟨b,k,v,pl,pr,ll,lr,sl,sr,rfl,hn,hll,rfl,-,-⟩
 ·clear a
  go_enter Tryz.func92,Tryz.ntmps92
  go_wp2
  go_ret
  exact⟨rfl,rfl⟩
 ·obtain ⟨-,-,-,-,-,c5⟩:=NP.cells hn
  clear a
  have HL:=Hj hll
  clear hll
  go_enter Tryz.func92,Tryz.ntmps92
  go_wp2
  go_ret
  exact⟨tK (by rw[HL.out,bP,qV];omega),rfl⟩
theorem nK {s:Code} {p:Option Addr} {l:List (ByteArray×OV)} {w:World} (a:T w s p l) (w2:World) (hk:BK w w2):
  Cl 244 #[.pointer p] w2 fun e w'=>e=.returned (.int .i64 (ht s:Int))∧w'=w2:=(sK s p l w2 (T.keep a hk)).mono fun _ _ x=>⟨x.1,x.2.symm⟩
theorem Q5 {s:Code} {p:Option Addr} {l:List (ByteArray×OV)} {w:World} (a:T w s p l) (w2:World) (hk:BK w w2):
  Cl 92 #[.pointer p] w2 fun e w'=>e=.returned (.int .i64 (l.length:Int))∧w'=w2:=(uP s p l w2 (T.keep a hk)).mono fun _ _ x=>⟨x.1,x.2.symm⟩
/-- with: a node of the same key and value over two trees. -/
theorem vG (b:Nat) (k:ByteArray) (v:OV) (sl sr:Code) (pl pr:Option Addr) (ll lr:List (ByteArray×OV)) (w:World)
  (c0:w.cell? ⟨b,0,none⟩=some (.string k)) (c1:VC w b v) (al:T w sl pl ll) (ar:T w sr pr lr) (hs:ll.length+lr.length≤1099511627776):
  Cl 247 #[pt b,.pointer pl,.pointer pr] w fun e w'=>∃p,e=.returned (.pointer p)∧T w' (.seq sl sr) p (ll++(k,v)::lr)∧Bw w w':=by
 obtain⟨v1,v2,v3,v4,v5⟩:=c1
 have Al:=Hj al
 have Ar:=Hj ar
 have hlb:=al.le
 have hrb:=ar.le
 have nl:ll.length≤1099511627776:=by omega
 have nr:lr.length≤1099511627776:=by omega
 have hlb2:ht sl≤1099511627776:=by omega
 have hrb2:ht sr≤1099511627776:=by omega
 clear al ar hlb hrb
 go_enter Tryz.func247,Tryz.ntmps247
 go_wp2_with fail
 refine wp_region_still_tail 22 (by kernel_rfl) (by kernel_rfl) ?_
 simp only[List.take_succ_cons,List.take_zero,List.drop_succ_cons,List.drop_zero]
 iterate 11 still_step
 still_call (nK Al.out _ (BK.drew _))
 still_step
 still_call (nK Ar.out _ (BK.drew _))
 iterate 3 still_step
 still_call (Q5 Al.out _ (BK.drew _))
 iterate 2 still_step
 still_call (Q5 Ar.out _ (BK.drew _))
 still_step
 refine wpStill_nil ?_
 change wpList _ _ _ _ _ w.drew
 go_wp2
 all_goals
  go_ret
  refine⟨_,rfl,Tr.node (b:=w.heap.size) (NP.new (aA w.drew _) (by omega) (by omega)) (T.keep Al.out ((BK.drew w).trans (BK.of_below ((aj _ _).alloc Kv _)))) (T.keep Ar.out ((BK.drew w).trans (BK.of_below ((aj _ _).alloc Kv _)))),?_⟩
  exact(bK (aj _ w)).alloc Kv _
theorem vH (b:Nat) (k:ByteArray) (v:OV) (sl sr:Code) (pl pr:Option Addr) (ll lr:List (ByteArray×OV)) (w:World)
  (c:w.cell? ⟨b,0,none⟩=some (.string k)∧VC w b v) (al:T w sl pl ll) (ar:T w sr pr lr) (hs:ll.length+lr.length≤1099511627776) (w2:World) (hk:BK w w2):
  Cl 247 #[pt b,.pointer pl,.pointer pr] w2 fun e w'=>∃p,e=.returned (.pointer p)∧T w' (.seq sl sr) p (ll++(k,v)::lr)∧Bw w2 w'∧BK w w':=
 (vG b k v sl sr pl pr ll lr w2 (hk.cell _ _ c.1) ((VC.keep hk c.2)) (T.keep al hk) (T.keep ar hk) hs).mono fun _ _ ⟨p,e,t,hb⟩=>⟨p,e,t,hb,hk.trans (BK.of_below hb)⟩
/-- lower: one side is too high. -/
theorem Vr (b:Nat) (k:ByteArray) (v:OV) (sl sr:Code) (pl pr:Option Addr) (ll lr:List (ByteArray×OV)) (w:World)
  (c0:w.cell? ⟨b,0,none⟩=some (.string k)) (c1:VC w b v) (al:T w sl pl ll) (ar:T w sr pr lr) (h1:0<ht sl) (hs:ll.length+lr.length≤1099511627776):
  Cl 245 #[pt b,.pointer pl,.pointer pr] w fun e w'=>∃p,e=.returned (.pointer p)∧T w' (Ju sl sr) p (ll++(k,v)::lr)∧Bw w w':=by
 obtain⟨bl,kl,vl,p1,p2,l1,l2,s1,s2,rfl,hnl,rfl,rfl,t1,t2⟩:=al.pos h1
 simp only[List.length_append,List.length_cons] at hs
 have H1:=Hj t1
 have H2:=Hj t2
 have HR:=Hj ar
 have HK:=Hj (aB c0 c1)
 obtain⟨d0,d1,d2,d3,-,-⟩:=NP.cells hnl
 have HL:=Hj (aB d0 d1)
 clear c0 c1 al ar t1 t2 d0 d1 h1 hnl
 by_cases hlt:ht s1<ht s2
 ·have hd:decide ((ht s1:Int)<(ht s2:Int))=true:=aZ (by omega)
  obtain⟨bm,km,vm,p3,p4,l3,l4,s3,s4,rfl,hnm,rfl,rfl,t3,t4⟩:=H2.out.pos (by omega)
  simp only[List.length_append,List.length_cons] at hs
  have H3:=Hj t3
  have H4:=Hj t4
  obtain⟨e0,e1,e2,e3,-,-⟩:=NP.cells hnm
  have HM:=Hj (aB e0 e1)
  have HS:Hid (Ju (.seq s1 (.seq s3 s4)) sr=.seq (.seq s1 s3) (.seq s4 sr)):=by
   show _=_
   simp only[Ju]
   rw[aF hlt]
  clear t3 t4 e0 e1 hnm
  go_enter Tryz.func245,Tryz.ntmps245
  go_wp2_with fail
  refine wp_region_still_lit (by kernel_rfl) (by kernel_rfl) ?_
  iterate 4 still_step
  still_call (nK H1.out _ (BK.drew _))
  iterate 4 still_step
  still_call (nK H2.out _ (BK.drew _))
  still_step
  refine wpStill_nil ?_
  change Exit.then _ _ _ _ w.drew
  go_wp2_with fail
  have Hk1:Hid (BK w w.drew.drew):=(BK.drew w).trans (BK.drew _)
  have Hb1:Hid (Bw w w.drew.drew):=bK (bK (aj _ w))
  go_region_held3 (fun w'=>w'.cell? ⟨bl,6,none⟩=some (.pointer p1)∧w'.cell? ⟨bm,6,none⟩=some (.pointer p3)∧w'.cell? ⟨bm,7,none⟩=some (.pointer p4)) (go_keep)
   (first
    | (go_at_call 247;(with_reducible refine(vH bl kl vl s1 s3 p1 p3 l1 l3 w HL.out H1.out H3.out (by omega) _ Hk1.out).mono ?_);rintro e w5 ⟨q5,rfl,t5,hb5,hk5⟩;have Hb5:=Hj (Hb1.out.trans (hb5.mono Hb1.out.size));have xE:=Hj t5;have uy:=Hj hk5;have r1:=hk5.cell _ _ d2;have r2:=hk5.cell _ _ e2;have r3:=hk5.cell _ _ e3;clear t5 hb5 hk5)
    | (go_at_call 247;(with_reducible refine(vH b k v s4 sr p4 pr l4 lr w HK.out H4.out HR.out (by omega) _ uy.out).mono ?_);rintro e w6 ⟨q6,rfl,t6,hb6,hk6⟩;have Y6:=Hj (T.keep xE.out (BK.of_below hb6));have Hb6:=Hj (Hb5.out.trans (hb6.mono Hb5.out.size));have Ht6:=Hj t6;have Y7:=Hj hk6;have r1:=hk6.cell _ _ d2;have r2:=hk6.cell _ _ e2;have r3:=hk6.cell _ _ e3;have m0:=hk6.cell _ _ HM.out.1;have m1:=(VC.keep hk6 HM.out.2);clear t6 hb6 hk6)
    | (go_at_call 247;(with_reducible refine(vG bm km vm _ _ q5 q6 _ _ w6 m0 m1 Y6.out Ht6.out (by simp only[List.length_append,List.length_cons];omega)).mono ?_);rintro e w7 ⟨q7,rfl,t7,hb7⟩;have zY:=Hj (Hb6.out.trans (hb7.mono Hb6.out.size));have Ec:=Hj t7;have r1:=(BK.of_below hb7).cell _ _ (Y7.out.cell _ _ d2);have r2:=(BK.of_below hb7).cell _ _ (Y7.out.cell _ _ e2);have r3:=(BK.of_below hb7).cell _ _ (Y7.out.cell _ _ e3);clear t7 hb7))
  go_wp2
  go_ret
  refine⟨q7,rfl,?_,zY.out⟩
  rw[HS.out]
  have:=Ec.out
  simpa using this
 ·have hd:decide ((ht s1:Int)<(ht s2:Int))=false:=aQ (by omega)
  have HS:Hid (Ju (.seq s1 s2) sr=.seq s1 (.seq s2 sr)):=by
   show _=_
   simp only[Ju]
   rw[aG hlt]
  go_enter Tryz.func245,Tryz.ntmps245
  go_wp2_with fail
  refine wp_region_still_lit (by kernel_rfl) (by kernel_rfl) ?_
  iterate 4 still_step
  still_call (nK H1.out _ (BK.drew _))
  iterate 4 still_step
  still_call (nK H2.out _ (BK.drew _))
  still_step
  refine wpStill_nil ?_
  change Exit.then _ _ _ _ w.drew
  go_wp2_with fail
  have Hk1:Hid (BK w w.drew.drew):=(BK.drew w).trans (BK.drew _)
  have Hb1:Hid (Bw w w.drew.drew):=bK (bK (aj _ w))
  go_region_held3 (fun w'=>w'.cell? ⟨bl,6,none⟩=some (.pointer p1)∧w'.cell? ⟨bl,7,none⟩=some (.pointer p2)) (go_keep)
   (first
    | (go_at_call 247;(with_reducible refine(vH b k v s2 sr p2 pr l2 lr w HK.out H2.out HR.out (by omega) _ Hk1.out).mono ?_);rintro e w5 ⟨q5,rfl,t5,hb5,hk5⟩;have Hb5:=Hj (Hb1.out.trans (hb5.mono Hb1.out.size));have xE:=Hj t5;have uy:=Hj hk5;have r1:=hk5.cell _ _ d2;have r2:=hk5.cell _ _ d3;have m0:=hk5.cell _ _ HL.out.1;have m1:=(VC.keep hk5 HL.out.2);clear t5 hb5 hk5)
    | (go_at_call 247;(with_reducible refine(vG bl kl vl _ _ p1 q5 l1 _ w5 m0 m1 (T.keep H1.out uy.out) xE.out (by simp only[List.length_append,List.length_cons];omega)).mono ?_);rintro e w7 ⟨q7,rfl,t7,hb7⟩;have zY:=Hj (Hb5.out.trans (hb7.mono Hb5.out.size));have Ec:=Hj t7;have r1:=(BK.of_below hb7).cell _ _ (uy.out.cell _ _ d2);have r2:=(BK.of_below hb7).cell _ _ (uy.out.cell _ _ d3);clear t7 hb7))
  go_wp2
  go_ret
  refine⟨q7,rfl,?_,zY.out⟩
  rw[HS.out]
  have:=Ec.out
  simpa using this
/-- raise: one side is too high. -/
theorem Vs (b:Nat) (k:ByteArray) (v:OV) (sl sr:Code) (pl pr:Option Addr) (ll lr:List (ByteArray×OV)) (w:World)
  (c0:w.cell? ⟨b,0,none⟩=some (.string k)) (c1:VC w b v) (al:T w sl pl ll) (ar:T w sr pr lr) (h1:0<ht sr) (hs:ll.length+lr.length≤1099511627776):
  Cl 246 #[pt b,.pointer pl,.pointer pr] w fun e w'=>∃p,e=.returned (.pointer p)∧T w' (Jv sl sr) p (ll++(k,v)::lr)∧Bw w w':=by
 obtain⟨bl,kl,vl,p1,p2,l1,l2,s1,s2,rfl,hnl,rfl,rfl,t1,t2⟩:=ar.pos h1
 simp only[List.length_append,List.length_cons] at hs
 have H1:=Hj t1
 have H2:=Hj t2
 have HR:=Hj al
 have HK:=Hj (aB c0 c1)
 obtain⟨d0,d1,d2,d3,-,-⟩:=NP.cells hnl
 have HL:=Hj (aB d0 d1)
 clear c0 c1 al ar t1 t2 d0 d1 h1 hnl
 by_cases hlt:ht s2<ht s1
 ·have hd:decide ((ht s2:Int)<(ht s1:Int))=true:=aZ (by omega)
  obtain⟨bm,km,vm,p3,p4,l3,l4,s3,s4,rfl,hnm,rfl,rfl,t3,t4⟩:=H1.out.pos (by omega)
  simp only[List.length_append,List.length_cons] at hs
  have H3:=Hj t3
  have H4:=Hj t4
  obtain⟨e0,e1,e2,e3,-,-⟩:=NP.cells hnm
  have HM:=Hj (aB e0 e1)
  have HS:Hid (Jv sl (.seq (.seq s3 s4) s2)=.seq (.seq sl s3) (.seq s4 s2)):=by
   show _=_
   simp only[Jv]
   rw[aF hlt]
  clear t3 t4 e0 e1 hnm
  go_enter Tryz.func246,Tryz.ntmps246
  go_wp2_with fail
  refine wp_region_still_lit (by kernel_rfl) (by kernel_rfl) ?_
  iterate 4 still_step
  still_call (nK H2.out _ (BK.drew _))
  iterate 4 still_step
  still_call (nK H1.out _ (BK.drew _))
  still_step
  refine wpStill_nil ?_
  change Exit.then _ _ _ _ w.drew
  go_wp2_with fail
  have Hk1:Hid (BK w w.drew.drew):=(BK.drew w).trans (BK.drew _)
  have Hb1:Hid (Bw w w.drew.drew):=bK (bK (aj _ w))
  go_region_held3 (fun w'=>w'.cell? ⟨bm,6,none⟩=some (.pointer p3)∧w'.cell? ⟨bm,7,none⟩=some (.pointer p4)∧w'.cell? ⟨bl,7,none⟩=some (.pointer p2)) (go_keep)
   (first
    | (go_at_call 247;(with_reducible refine(vH b k v sl s3 pl p3 ll l3 w HK.out HR.out H3.out (by omega) _ Hk1.out).mono ?_);rintro e w5 ⟨q5,rfl,t5,hb5,hk5⟩;have Hb5:=Hj (Hb1.out.trans (hb5.mono Hb1.out.size));have xE:=Hj t5;have uy:=Hj hk5;have r1:=hk5.cell _ _ e2;have r2:=hk5.cell _ _ e3;have r3:=hk5.cell _ _ d3;clear t5 hb5 hk5)
    | (go_at_call 247;(with_reducible refine(vH bl kl vl s4 s2 p4 p2 l4 l2 w HL.out H4.out H2.out (by omega) _ uy.out).mono ?_);rintro e w6 ⟨q6,rfl,t6,hb6,hk6⟩;have Y6:=Hj (T.keep xE.out (BK.of_below hb6));have Hb6:=Hj (Hb5.out.trans (hb6.mono Hb5.out.size));have Ht6:=Hj t6;have Y7:=Hj hk6;have r1:=hk6.cell _ _ e2;have r2:=hk6.cell _ _ e3;have r3:=hk6.cell _ _ d3;have m0:=hk6.cell _ _ HM.out.1;have m1:=(VC.keep hk6 HM.out.2);clear t6 hb6 hk6)
    | (go_at_call 247;(with_reducible refine(vG bm km vm _ _ q5 q6 _ _ w6 m0 m1 Y6.out Ht6.out (by simp only[List.length_append,List.length_cons];omega)).mono ?_);rintro e w7 ⟨q7,rfl,t7,hb7⟩;have zY:=Hj (Hb6.out.trans (hb7.mono Hb6.out.size));have Ec:=Hj t7;have r1:=(BK.of_below hb7).cell _ _ (Y7.out.cell _ _ e2);have r2:=(BK.of_below hb7).cell _ _ (Y7.out.cell _ _ e3);have r3:=(BK.of_below hb7).cell _ _ (Y7.out.cell _ _ d3);clear t7 hb7))
  go_wp2
  go_ret
  refine⟨q7,rfl,?_,zY.out⟩
  rw[HS.out]
  have:=Ec.out
  simpa using this
 ·have hd:decide ((ht s2:Int)<(ht s1:Int))=false:=aQ (by omega)
  have HS:Hid (Jv sl (.seq s1 s2)=.seq (.seq sl s1) s2):=by
   show _=_
   simp only[Jv]
   rw[aG hlt]
  go_enter Tryz.func246,Tryz.ntmps246
  go_wp2_with fail
  refine wp_region_still_lit (by kernel_rfl) (by kernel_rfl) ?_
  iterate 4 still_step
  still_call (nK H2.out _ (BK.drew _))
  iterate 4 still_step
  still_call (nK H1.out _ (BK.drew _))
  still_step
  refine wpStill_nil ?_
  change Exit.then _ _ _ _ w.drew
  go_wp2_with fail
  have Hk1:Hid (BK w w.drew.drew):=(BK.drew w).trans (BK.drew _)
  have Hb1:Hid (Bw w w.drew.drew):=bK (bK (aj _ w))
  go_region_held3 (fun w'=>w'.cell? ⟨bl,6,none⟩=some (.pointer p1)∧w'.cell? ⟨bl,7,none⟩=some (.pointer p2)) (go_keep)
   (first
    | (go_at_call 247;(with_reducible refine(vH b k v sl s1 pl p1 ll l1 w HK.out HR.out H1.out (by omega) _ Hk1.out).mono ?_);rintro e w5 ⟨q5,rfl,t5,hb5,hk5⟩;have Hb5:=Hj (Hb1.out.trans (hb5.mono Hb1.out.size));have xE:=Hj t5;have uy:=Hj hk5;have r1:=hk5.cell _ _ d2;have r2:=hk5.cell _ _ d3;have m0:=hk5.cell _ _ HL.out.1;have m1:=(VC.keep hk5 HL.out.2);clear t5 hb5 hk5)
    | (go_at_call 247;(with_reducible refine(vG bl kl vl _ _ q5 p2 _ l2 w5 m0 m1 xE.out (T.keep H2.out uy.out) (by simp only[List.length_append,List.length_cons];omega)).mono ?_);rintro e w7 ⟨q7,rfl,t7,hb7⟩;have zY:=Hj (Hb5.out.trans (hb7.mono Hb5.out.size));have Ec:=Hj t7;have r1:=(BK.of_below hb7).cell _ _ (uy.out.cell _ _ d2);have r2:=(BK.of_below hb7).cell _ _ (uy.out.cell _ _ d3);clear t7 hb7))
  go_wp2
  go_ret
  refine⟨q7,rfl,?_,zY.out⟩
  rw[HS.out]
  have:=Ec.out
  simpa using this
open Go.RowKit
theorem nV (b:Nat) (k:ByteArray) (v:OV) (sl sr:Code) (pl pr:Option Addr) (ll lr:List (ByteArray×OV)) (w:World)
  (c:w.cell? ⟨b,0,none⟩=some (.string k)∧VC w b v) (al:T w sl pl ll) (ar:T w sr pr lr) (hs:ll.length+lr.length≤1099511627776):
  Cl 204 #[pt b,.pointer pl,.pointer pr] w fun e w'=>∃p,e=.returned (.pointer p)∧T w' (iI sl sr) p (ll++(k,v)::lr)∧Bw w w':=by
 have b1:=al.le
 have b2:=ar.le
 have b3:ht sl≤1099511627776:=by omega
 have b4:ht sr≤1099511627776:=by omega
 have H1:=Hj al
 have H2:=Hj ar
 have HK:=Hj c
 clear al ar c
 by_cases g1:ht sr+1<ht sl
 ·have d1:decide (1<(ht sl:Int)-(ht sr:Int))=true:=aZ (by omega)
  have HJ:Hid (iI sl sr=Ju sl sr):=by
   show _=_
   simp only[iI]
   rw[aF g1]
  have G:Hid (0<ht sl):=show 0<ht sl by omega
  clear g1
  go_enter Tryz.func204,Tryz.ntmps204
  go_wp2_with (first
   | (go_at_call 244;(with_reducible refine(sK sl pl ll _ H1.out).mono ?_);rintro e w' ⟨rfl,rfl⟩)
   | (go_at_call 244;(with_reducible refine(sK sr pr lr _ H2.out).mono ?_);rintro e w' ⟨rfl,rfl⟩)
   | (go_at_call 245;refine(Vr b k v sl sr pl pr ll lr _ HK.out.1 HK.out.2 H1.out H2.out G.out hs).mono ?_;rintro e w1 ⟨p,rfl,ht,hb⟩;have Ht:=Hj ht;clear ht))
  go_ret
  exact⟨p,rfl,by rw[HJ.out];exact Ht.out,hb⟩
 ·have d1:decide (1<(ht sl:Int)-(ht sr:Int))=false:=aQ (by omega)
  by_cases g2:ht sl+1<ht sr
  ·have d2:decide ((ht sl:Int)-(ht sr:Int)< -1)=true:=aZ (by omega)
   have HJ:Hid (iI sl sr=Jv sl sr):=by
    show _=_
    simp only[iI]
    rw[aG g1,aF g2]
   have G:Hid (0<ht sr):=show 0<ht sr by omega
   clear g1 g2
   go_enter Tryz.func204,Tryz.ntmps204
   go_wp2_with (first
    | (go_at_call 244;(with_reducible refine(sK sl pl ll _ H1.out).mono ?_);rintro e w' ⟨rfl,rfl⟩)
    | (go_at_call 244;(with_reducible refine(sK sr pr lr _ H2.out).mono ?_);rintro e w' ⟨rfl,rfl⟩)
    | (go_at_call 246;refine(Vs b k v sl sr pl pr ll lr _ HK.out.1 HK.out.2 H1.out H2.out G.out hs).mono ?_;rintro e w1 ⟨p,rfl,ht,hb⟩;have Ht:=Hj ht;clear ht))
   go_ret
   exact⟨p,rfl,by rw[HJ.out];exact Ht.out,hb⟩
  ·have d2:decide ((ht sl:Int)-(ht sr:Int)< -1)=false:=aQ (by omega)
   have HJ:Hid (iI sl sr=.seq sl sr):=by
    show _=_
    simp only[iI]
    rw[aG g1,aG g2]
   clear g1 g2
   go_enter Tryz.func204,Tryz.ntmps204
   go_wp2_with (first
    | (go_at_call 244;(with_reducible refine(sK sl pl ll _ H1.out).mono ?_);rintro e w' ⟨rfl,rfl⟩)
    | (go_at_call 244;(with_reducible refine(sK sr pr lr _ H2.out).mono ?_);rintro e w' ⟨rfl,rfl⟩)
    | (go_at_call 247;refine(vG b k v sl sr pl pr ll lr _ HK.out.1 HK.out.2 H1.out H2.out hs).mono ?_;rintro e w1 ⟨p,rfl,ht,hb⟩;have Ht:=Hj ht;clear ht))
   go_ret
   exact⟨p,rfl,by rw[HJ.out];exact Ht.out,hb⟩
def aS (a b:ByteArray):Bool:=Op.bytesLess a.toList b.toList
theorem Jz:∀l:List UInt8,Op.bytesLess l l=false:=by
 intro l
 induction l with
 | nil=>rfl
 | cons a l ih=>simp[Op.bytesLess,ih]
theorem bl_tr:∀x y z:List UInt8,Op.bytesLess x y=true→Op.bytesLess y z=true→Op.bytesLess x z=true:=by
 intro x
 induction x with
 | nil=>
  intro y z h1 h2
  cases y with
  | nil=>simp[Op.bytesLess] at h1
  | cons b y=>
   cases z with
   | nil=>simp[Op.bytesLess] at h2
   | cons c z=>rfl
 | cons a x ih=>
  intro y z h1 h2
  cases y with
  | nil=>simp[Op.bytesLess] at h1
  | cons b y=>
   cases z with
   | nil=>simp[Op.bytesLess] at h2
   | cons c z=>
    simp only[Op.bytesLess,Bool.or_eq_true,decide_eq_true_eq,Bool.and_eq_true,beq_iff_eq] at*
    rcases h1 with h1 | ⟨rfl,h1⟩
    ·rcases h2 with h2 | ⟨rfl,h2⟩
     ·exact .inl (UInt8.lt_trans h1 h2)
     ·exact .inl h1
    ·rcases h2 with h2 | ⟨rfl,h2⟩
     ·exact .inl h2
     ·exact .inr ⟨rfl,ih y z h1 h2⟩
theorem Y8:∀x y:List UInt8,Op.bytesLess x y=false→Op.bytesLess y x=false→x=y:=by
 intro x
 induction x with
 | nil=>
  intro y h1 h2
  cases y with
  | nil=>rfl
  | cons b y=>simp[Op.bytesLess] at h1
 | cons a x ih=>
  intro y h1 h2
  cases y with
  | nil=>simp[Op.bytesLess] at h2
  | cons b y=>
   simp only[Op.bytesLess,Bool.or_eq_false_iff,decide_eq_false_iff_not,Bool.and_eq_false_iff,beq_eq_false_iff_ne] at*
   have e:a=b:=by
    refine UInt8.toNat_inj.1 ?_
    have g1:=h1.1
    have g2:=h2.1
    rw[UInt8.lt_iff_toNat_lt] at g1 g2
    omega
   subst e
   rw[ih y (by simpa using h1.2) (by simpa using h2.2)]
theorem dh:vZ aS:=⟨fun a=>Jz _,fun a b c h1 h2=>bl_tr _ _ _ h1 h2,fun a b h1 h2=>by
 have:=Y8 _ _ h1 h2
 rw[qh,qh] at this
 exact kG (Array.toList_inj.1 this)⟩
theorem ne_of_lt {a b:ByteArray} (h:aS a b=true):(a.toList==b.toList)=false:=by
 rw[gQ]
 intro e
 unfold aS at h
 rw[e,Jz] at h
 cases h
theorem Ed (a:ByteArray) (w:World):Cl 243 #[.string a] w fun e w'=>e=.returned (.bool false)∧w=w':=by
 go_enter Tryz.func243,Tryz.ntmps243
 go_wp2
 go_ret
 exact⟨rfl,rfl⟩
theorem Q7 (a b:ByteArray) (w:World) (h:aS a b=true):Cl 203 #[.string a,.string b] w fun e w'=>e=.returned (.int .i64 (-1))∧w=w':=by
 unfold aS at h
 go_enter Tryz.func203,Tryz.ntmps203
 go_wp2_with (go_at_call 243;refine(Ed _ _).mono ?_;rintro e w' ⟨rfl,rfl⟩)
 go_ret
 exact⟨rfl,rfl⟩
theorem Q8 (a b:ByteArray) (w:World) (h:aS b a=true):Cl 203 #[.string a,.string b] w fun e w'=>e=.returned (.int .i64 1)∧w=w':=by
 have h2:Op.bytesLess a.toList b.toList=false:=dh.Vq h
 have h3:(a.toList==b.toList)=false:=by have:=ne_of_lt h;rwa [Bool.beq_comm] at this
 unfold aS at h
 go_enter Tryz.func203,Tryz.ntmps203
 go_wp2_with (go_at_call 243;refine(Ed _ _).mono ?_;rintro e w' ⟨rfl,rfl⟩)
 go_ret
 exact⟨rfl,rfl⟩
theorem cmp_eq (a:ByteArray) (w:World):Cl 203 #[.string a,.string a] w fun e w'=>e=.returned (.int .i64 0)∧w=w':=by
 have h2:Op.bytesLess a.toList a.toList=false:=Jz _
 go_enter Tryz.func203,Tryz.ntmps203
 go_wp2_with (go_at_call 243;refine(Ed _ _).mono ?_;rintro e w' ⟨rfl,rfl⟩)
 go_ret
 exact⟨rfl,rfl⟩
theorem put_T (k:ByteArray) (v:OV):∀(n:Nat) (s:Code) (p:Option Addr) (l:List (ByteArray×OV)) (w:World),sz s≤n→T w s p l→aT aS l→l.length≤1000000000→
  Cl 146 #[.pointer p,(.string k),(.agg (ov v))] w fun e w'=>∃p',e=.returned (.pointer p')∧T w' (lN aS k s l) p' (ins aS k v l)∧Bw w w':=by
 have hnil:∀w:World,Cl 146 #[.pointer none,(.string k),(.agg (ov v))] w fun e w'=>∃p',e=.returned (.pointer p')∧T w' (lN aS k .skip ([]:List (ByteArray×OV))) p' (ins aS k v [])∧Bw w w':=by
  intro w
  go_enter Tryz.func146,Tryz.ntmps146
  go_wp2
  go_ret
  have h:=aA (w.alloc (.cells (ov v) 37)) (.cells #[.string k,.int .i64 v.kind,.string v.space,.string v.name,.int .i64 v.ver,.slice v.A v.n v.c,.pointer none,.pointer none,.int .i64 1,.int .i64 1] 164)
  rw[show (w.alloc (.cells (ov v) 37)).heap.size=w.heap.size+1 by simp] at h
  exact⟨_,rfl,Tr.node (b:=w.heap.size+1) (sl:=.skip) (sr:=.skip) (pl:=none) (pr:=none) (ll:=[]) (lr:=[]) (k:=k) (v:=v) (NP.new h rfl rfl) (Tr.nil _) (Tr.nil _),((aj _ w).alloc Kv _).alloc (by simp) _⟩
 intro n
 induction n with
 | zero=>
  intro s p l w hn a _ _
  rcases a.open with ⟨rfl,rfl,rfl⟩ | ⟨b,k,v,pl,pr,ll,lr,sl,sr,_,_,_,rfl,_,_⟩
  ·exact hnil w
  ·simp [sz] at hn
 | succ n ih=>
  intro s p l wz hn ttz sW hlen
  have XA:=hnil wz
  obtain⟨w,hw⟩:∃W,W=wz.alloc (.cells (ov v) 37):=⟨_,rfl⟩
  have hbz:=(aj wz.heap.size wz).alloc Kv (.cells (ov v) 37)
  have hrz:=aA wz (.cells (ov v) 37)
  rw[←hw] at hbz hrz
  have tt:T w s p l:=T.keep ttz (BK.of_below hbz)
  have Un:=Hj hbz
  have Y9:Hid (VB w wz.heap.size v):=⟨Kq 0 hrz,Kq 1 hrz,Kq 2 hrz,Kq 3 hrz,Kq 4 hrz⟩
  obtain⟨vb0,vb1,zX,Ah,Aj⟩:=Y9.out
  clear ttz hbz hrz
  rcases tt.open with ⟨rfl,rfl,rfl⟩ | ⟨b,a,x,pl,pr,ll,lr,sl,sr,rfl,hnd,rfl,rfl,al,ar⟩
  ·exact XA
  have hll:=al.len
  have IH:=Hj ih
  clear ih hnil XA
  obtain⟨c0,c1,c2,c3,c4,c5⟩:=NP.cells hnd
  have c0w:=c0
  rw[hw] at c0w
  simp only[List.length_append,List.length_cons] at hlen
  simp only[sz] at hn
  have HK:=Hj (aB c0 c1)
  have H1:=Hj al
  have H2:=Hj ar
  have HR:=Hj sW
  have hn1:sz sl≤n:=by omega
  have hn2:sz sr≤n:=by omega
  clear al ar sW hn hnd
  have Hk1:Hid (BK w w.drew):=BK.drew w
  have Hb1:Hid (Bw w w.drew):=bK (aj _ w)
  cases hlt:aS k a with
  | true=>
   have HI:Hid (ins aS k v (ll++(a,x)::lr)=ins aS k v ll++(a,x)::lr):=QV hlt
   have HS:Hid (lN aS k (.seq sl sr) (ll++(a,x)::lr)=iI (lN aS k sl ll) sr):=Vj hll hlt
   have HL:Hid ((ins aS k v ll).length≤ll.length+1):=by
    show _≤_
    rw[kC]
    split<;>omega
   have HC:=Hj hlt
   clear hlt hll
   go_enter Tryz.func146,Tryz.ntmps146
   go_wp2_with (go_at_call 203;refine(Q7 k a _ HC.out).mono ?_;rintro e w' ⟨rfl,rfl⟩)
   rw[←hw]
   clear hw c0w
   go_region_held3 (fun w'=>w'.cell? ⟨b,6,none⟩=some (.pointer pl)∧w'.cell? ⟨b,7,none⟩=some (.pointer pr)∧w'.cell? ⟨wz.heap.size,0,none⟩=some (.int .i64 v.kind)∧w'.cell? ⟨wz.heap.size,1,none⟩=some (.string v.space)∧w'.cell? ⟨wz.heap.size,2,none⟩=some (.string v.name)∧w'.cell? ⟨wz.heap.size,3,none⟩=some (.int .i64 v.ver)∧w'.cell? ⟨wz.heap.size,4,none⟩=some (.slice v.A v.n v.c)) (go_keep)
    (first
     | (go_at_call 146;(refine(IH.out sl pl ll _ hn1 (T.keep H1.out Hk1.out) HR.out.left (by omega)).mono ?_);rintro e w5 ⟨q5,rfl,t5,hb5⟩;have Hb5:=Hj (Hb1.out.trans (hb5.mono Hb1.out.size));have xE:=Hj t5;have uy:=Hj (Hk1.out.trans (BK.of_below hb5));have s1:=(Hk1.out.trans (BK.of_below hb5)).cell _ _ c2;have s2:=(Hk1.out.trans (BK.of_below hb5)).cell _ _ c3;have m0:=(Hk1.out.trans (BK.of_below hb5)).cell _ _ HK.out.1;have m1:=(VC.keep (Hk1.out.trans (BK.of_below hb5)) HK.out.2);obtain⟨u0,u1,u2,u3,u4⟩:=VB.keep (Hk1.out.trans (BK.of_below hb5)) Y9.out;clear t5 hb5)
     | (go_at_call 204;(refine(nV b a x (lN aS k sl ll) sr q5 pr _ lr w5 (aB m0 m1) xE.out (T.keep H2.out uy.out) (by have:=HL.out;omega)).mono ?_);rintro e w7 ⟨q7,rfl,t7,hb7⟩;have zY:=Hj (Hb5.out.trans (hb7.mono Hb5.out.size));have Ec:=Hj t7;have s1:=(BK.of_below hb7).cell _ _ (uy.out.cell _ _ c2);have s2:=(BK.of_below hb7).cell _ _ (uy.out.cell _ _ c3);obtain⟨o0,o1,o2,o3,o4⟩:=VB.keep (uy.out.trans (BK.of_below hb7)) Y9.out;clear t7 hb7))
   go_wp2
   go_ret
   exact⟨q7,rfl,by rw[HI.out,HS.out];exact Ec.out,Un.out.trans (zY.out.mono Un.out.size)⟩
  | false=>
   cases hgt:aS a k with
   | true=>
    have HI:Hid (ins aS k v (ll++(a,x)::lr)=ll++(a,x)::ins aS k v lr):=ND dh HR.out hgt
    have HS:Hid (lN aS k (.seq sl sr) (ll++(a,x)::lr)=iI sl (lN aS k sr lr)):=Vk hll hlt hgt
    have HL:Hid ((ins aS k v lr).length≤lr.length+1):=by
     show _≤_
     rw[kC]
     split<;>omega
    have HC:=Hj hgt
    clear hlt hgt hll
    go_enter Tryz.func146,Tryz.ntmps146
    go_wp2_with (go_at_call 203;refine(Q8 k a _ HC.out).mono ?_;rintro e w' ⟨rfl,rfl⟩)
    rw[←hw]
    clear hw c0w
    go_region_held3 (fun w'=>w'.cell? ⟨b,6,none⟩=some (.pointer pl)∧w'.cell? ⟨b,7,none⟩=some (.pointer pr)∧w'.cell? ⟨wz.heap.size,0,none⟩=some (.int .i64 v.kind)∧w'.cell? ⟨wz.heap.size,1,none⟩=some (.string v.space)∧w'.cell? ⟨wz.heap.size,2,none⟩=some (.string v.name)∧w'.cell? ⟨wz.heap.size,3,none⟩=some (.int .i64 v.ver)∧w'.cell? ⟨wz.heap.size,4,none⟩=some (.slice v.A v.n v.c)) (go_keep)
     (first
      | (go_at_call 146;(refine(IH.out sr pr lr _ hn2 (T.keep H2.out Hk1.out) HR.out.right.tail (by omega)).mono ?_);rintro e w5 ⟨q5,rfl,t5,hb5⟩;have Hb5:=Hj (Hb1.out.trans (hb5.mono Hb1.out.size));have xE:=Hj t5;have uy:=Hj (Hk1.out.trans (BK.of_below hb5));have s1:=(Hk1.out.trans (BK.of_below hb5)).cell _ _ c2;have s2:=(Hk1.out.trans (BK.of_below hb5)).cell _ _ c3;have m0:=(Hk1.out.trans (BK.of_below hb5)).cell _ _ HK.out.1;have m1:=(VC.keep (Hk1.out.trans (BK.of_below hb5)) HK.out.2);obtain⟨u0,u1,u2,u3,u4⟩:=VB.keep (Hk1.out.trans (BK.of_below hb5)) Y9.out;clear t5 hb5)
      | (go_at_call 204;(refine(nV b a x sl (lN aS k sr lr) pl q5 ll _ w5 (aB m0 m1) (T.keep H1.out uy.out) xE.out (by have:=HL.out;omega)).mono ?_);rintro e w7 ⟨q7,rfl,t7,hb7⟩;have zY:=Hj (Hb5.out.trans (hb7.mono Hb5.out.size));have Ec:=Hj t7;have s1:=(BK.of_below hb7).cell _ _ (uy.out.cell _ _ c2);have s2:=(BK.of_below hb7).cell _ _ (uy.out.cell _ _ c3);obtain⟨o0,o1,o2,o3,o4⟩:=VB.keep (uy.out.trans (BK.of_below hb7)) Y9.out;clear t7 hb7))
    go_wp2
    go_ret
    exact⟨q7,rfl,by rw[HI.out,HS.out];exact Ec.out,Un.out.trans (zY.out.mono Un.out.size)⟩
   | false=>
    have HS:Hid (lN aS k (.seq sl sr) (ll++(a,x)::lr)=.seq sl sr):=Vl hll hlt hgt
    obtain rfl:=dh.tri k a hlt hgt
    have HI:Hid (ins aS k v (ll++(k,x)::lr)=ll++(k,v)::lr):=QW dh HR.out
    clear hlt hgt hll
    go_enter Tryz.func146,Tryz.ntmps146
    go_wp2_with (go_at_call 203;refine(cmp_eq k _).mono ?_;rintro e w' ⟨rfl,rfl⟩)
    rw[←hw]
    clear hw c0w
    refine wp_region_still_tail 18 (by kernel_rfl) (by kernel_rfl) ?_
    simp only[List.take_succ_cons,List.take_zero,List.drop_succ_cons,List.drop_zero]
    iterate 18 still_step
    refine wpStill_nil ?_
    change wpList _ _ _ _ _ w.drew
    go_wp2
    go_ret
    refine⟨_,rfl,?_,Un.out.trans (((bK (aj _ w)).alloc Kv _).mono Un.out.size)⟩
    rw[HI.out,HS.out]
    exact Tr.node (b:=w.heap.size) (NP.new (aA w.drew _) (by omega) (by omega)) (T.keep H1.out ((BK.drew w).trans (BK.of_below ((aj _ _).alloc Kv _)))) (T.keep H2.out ((BK.drew w).trans (BK.of_below ((aj _ _).alloc Kv _))))
open Go.RowKit
theorem T.none {w:World} {s:Code} {l:List (ByteArray×OV)} (a:T w s none l):s=.skip∧l=[]:=by
 rcases Tr.open a with ⟨h0,_,h1⟩ | ⟨b,k,v,pl,pr,ll,lr,sl,sr,h1,_⟩
 ·exact ⟨h0,h1⟩
 ·cases h1
theorem T.some {w:World} {s:Code} {q:Addr} {l:List (ByteArray×OV)} (a:T w s (some q) l):∃e r x y,l=e::r∧s=.seq x y:=by
 rcases Tr.open a with ⟨_,h0,_⟩ | ⟨b,k,v,pl,pr,ll,lr,sl,sr,h1,_,rfl,rfl,_⟩
 ·cases h0
 ·cases ll with
  | nil=>exact⟨_,_,_,_,rfl,rfl⟩
  | cons e ll=>exact⟨_,_,_,_,rfl,rfl⟩
theorem Vt:∀(n:Nat) (s:Code) (p:Option Addr) (e:ByteArray×OV) (l:List (ByteArray×OV)) (w:World),sz s≤n→T w s p (e::l)→l.length≤1000000000→
  Cl 205 #[.pointer p] w fun en w'=>∃bf q,en=.returned (.tuple #[pt bf,.pointer q])∧(w.cell? ⟨bf,0,none⟩=some (.string e.1)∧VC w bf e.2)∧T w' (vC s) q l∧Bw w w':=by
 intro n
 induction n with
 | zero=>
  intro s p e l w hn a _
  rcases a.open with ⟨_,_,h0⟩ | ⟨b,k,v,pl,pr,ll,lr,sl,sr,_,_,_,rfl,_,_⟩
  ·cases h0
  ·simp [sz] at hn
 | succ n ih=>
  intro s p e l w hn tt hlen
  rcases tt.open with ⟨_,_,h0⟩ | ⟨b,a,x,pl,pr,ll,lr,sl,sr,rfl,hnd,hl0,rfl,al,ar⟩
  ·cases h0
  have IH:=Hj ih
  clear ih
  obtain⟨c0,c1,c2,c3,-,-⟩:=NP.cells hnd
  have HK:=Hj (aB c0 c1)
  have H2:=Hj ar
  simp only[sz] at hn
  have hn1:sz sl≤n:=by omega
  clear ar c0 c1 hnd hn
  cases pl with
  | none=>
   obtain⟨g0,g1⟩:=T.none al
   subst g0 g1
   injection hl0 with e1 e2
   subst e1 e2
   clear al
   go_enter Tryz.func205,Tryz.ntmps205
   go_wp2_with fail
   go_quiet (fail)
   go_wp2
   go_ret2
   exact⟨b,pr,rfl,HK.out,T.keep H2.out (BK.drewN w _),below_drewN (aj _ w) _⟩
  | some q0=>
   obtain⟨e',r,sx,sy,rfl,rfl⟩:=T.some al
   rw[KD] at hl0
   injection hl0 with e1 e2
   subst e1 e2
   simp only[List.length_append,List.length_cons] at hlen
   have H1:=Hj al
   clear al
   have hne:∀W,(binOp .eql 144 (.pointer (some q0)) (.pointer none)).run Tryz.prog W=.ok (.bool false) W:=fun W=>by go_simp
   go_enter Tryz.func205,Tryz.ntmps205
   go_wp2_with (first
    | (go_at_call 205;refine(IH.out (.seq sx sy) (some q0) e r _ hn1 H1.out (by omega)).mono ?_;rintro en w5 ⟨bf,q5,rfl,hc5,t5,hb5⟩;have Hb5:=Hj hb5;have xE:=Hj t5;have Hc5:=Hj hc5;have s2:=(BK.of_below hb5).cell _ _ c3;have m0:=(BK.of_below hb5).cell _ _ HK.out.1;have m1:=(VC.keep (BK.of_below hb5) HK.out.2);clear t5 hb5 hc5)
    | (go_at_call 204;refine(nV b a x (vC (.seq sx sy)) sr q5 pr r lr w5 (aB m0 m1) xE.out (T.keep H2.out (BK.of_below Hb5.out)) (by omega)).mono ?_;rintro e w7 ⟨q7,rfl,t7,hb7⟩;have zY:=Hj (Hb5.out.trans (hb7.mono Hb5.out.size));have Ec:=Hj t7;clear t7 hb7))
   go_ret2
   exact⟨bf,q7,rfl,Hc5.out,Ec.out,zY.out⟩
theorem del_T (k:ByteArray):∀(n:Nat) (s:Code) (p:Option Addr) (l:List (ByteArray×OV)) (w:World),sz s≤n→T w s p l→aT aS l→l.length≤1000000000→
  Cl 147 #[.pointer p,(.string k)] w fun e w'=>∃p',e=.returned (.pointer p')∧T w' (delS aS k s l) p' (rem aS k l)∧Bw w w':=by
 have hnil:∀w:World,Cl 147 #[.pointer none,(.string k)] w fun e w'=>∃p',e=.returned (.pointer p')∧T w' (delS aS k .skip ([]:List (ByteArray×OV))) p' (rem aS k [])∧Bw w w':=by
  intro w
  go_enter Tryz.func147,Tryz.ntmps147
  go_wp2
  go_ret
  exact⟨none,rfl,Tr.nil _,aj _ w⟩
 intro n
 induction n with
 | zero=>
  intro s p l w hn a _ _
  rcases a.open with ⟨rfl,rfl,rfl⟩ | ⟨b,k,v,pl,pr,ll,lr,sl,sr,_,_,_,rfl,_,_⟩
  ·exact hnil w
  ·simp [sz] at hn
 | succ n ih=>
  intro s p l w hn tt sW hlen
  rcases tt.open with ⟨rfl,rfl,rfl⟩ | ⟨b,a,x,pl,pr,ll,lr,sl,sr,rfl,hnd,rfl,rfl,al,ar⟩
  ·exact hnil w
  have hll:=al.len
  have IH:=Hj ih
  clear ih hnil
  obtain⟨c0,c1,c2,c3,c4,c5⟩:=NP.cells hnd
  simp only[List.length_append,List.length_cons] at hlen
  simp only[sz] at hn
  have HK:=Hj (aB c0 c1)
  have H1:=Hj al
  have H2:=Hj ar
  have HR:=Hj sW
  have hn1:sz sl≤n:=by omega
  have hn2:sz sr≤n:=by omega
  clear al ar sW hn hnd
  have Hk1:Hid (BK w w.drew):=BK.drew w
  have Hb1:Hid (Bw w w.drew):=bK (aj _ w)
  cases hlt:aS k a with
  | true=>
   have HI:Hid (rem aS k (ll++(a,x)::lr)=rem aS k ll++(a,x)::lr):=QX hlt
   have HS:Hid (delS aS k (.seq sl sr) (ll++(a,x)::lr)=iI (delS aS k sl ll) sr):=Vm hll hlt
   have HL:Hid ((rem aS k ll).length≤ll.length):=by
    show _≤_
    exact mM.length_le
   have HC:=Hj hlt
   clear hlt hll
   go_enter Tryz.func147,Tryz.ntmps147
   go_wp2_with (go_at_call 203;refine(Q7 k a _ HC.out).mono ?_;rintro e w' ⟨rfl,rfl⟩)
   go_region_held3 (fun w'=>w'.cell? ⟨b,6,none⟩=some (.pointer pl)∧w'.cell? ⟨b,7,none⟩=some (.pointer pr)) (go_keep)
    (first
     | (go_at_call 147;(refine(IH.out sl pl ll _ hn1 (T.keep H1.out Hk1.out) HR.out.left (by omega)).mono ?_);rintro e w5 ⟨q5,rfl,t5,hb5⟩;have Hb5:=Hj (Hb1.out.trans (hb5.mono Hb1.out.size));have xE:=Hj t5;have uy:=Hj (Hk1.out.trans (BK.of_below hb5));have s1:=(Hk1.out.trans (BK.of_below hb5)).cell _ _ c2;have s2:=(Hk1.out.trans (BK.of_below hb5)).cell _ _ c3;have m0:=(Hk1.out.trans (BK.of_below hb5)).cell _ _ HK.out.1;have m1:=(VC.keep (Hk1.out.trans (BK.of_below hb5)) HK.out.2);clear t5 hb5)
     | (go_at_call 204;(refine(nV b a x (delS aS k sl ll) sr q5 pr _ lr w5 (aB m0 m1) xE.out (T.keep H2.out uy.out) (by have:=HL.out;omega)).mono ?_);rintro e w7 ⟨q7,rfl,t7,hb7⟩;have zY:=Hj (Hb5.out.trans (hb7.mono Hb5.out.size));have Ec:=Hj t7;have s1:=(BK.of_below hb7).cell _ _ (uy.out.cell _ _ c2);have s2:=(BK.of_below hb7).cell _ _ (uy.out.cell _ _ c3);clear t7 hb7))
   go_wp2
   go_ret
   exact⟨q7,rfl,by rw[HI.out,HS.out];exact Ec.out,zY.out⟩
  | false=>
   cases hgt:aS a k with
   | true=>
    have HI:Hid (rem aS k (ll++(a,x)::lr)=ll++(a,x)::rem aS k lr):=NG dh HR.out hgt
    have HS:Hid (delS aS k (.seq sl sr) (ll++(a,x)::lr)=iI sl (delS aS k sr lr)):=Vo hll hlt hgt
    have HL:Hid ((rem aS k lr).length≤lr.length):=by
     show _≤_
     exact mM.length_le
    have HC:=Hj hgt
    clear hlt hgt hll
    go_enter Tryz.func147,Tryz.ntmps147
    go_wp2_with (go_at_call 203;refine(Q8 k a _ HC.out).mono ?_;rintro e w' ⟨rfl,rfl⟩)
    go_region_held3 (fun w'=>w'.cell? ⟨b,6,none⟩=some (.pointer pl)∧w'.cell? ⟨b,7,none⟩=some (.pointer pr)) (go_keep)
     (first
      | (go_at_call 147;(refine(IH.out sr pr lr _ hn2 (T.keep H2.out Hk1.out) HR.out.right.tail (by omega)).mono ?_);rintro e w5 ⟨q5,rfl,t5,hb5⟩;have Hb5:=Hj (Hb1.out.trans (hb5.mono Hb1.out.size));have xE:=Hj t5;have uy:=Hj (Hk1.out.trans (BK.of_below hb5));have s1:=(Hk1.out.trans (BK.of_below hb5)).cell _ _ c2;have s2:=(Hk1.out.trans (BK.of_below hb5)).cell _ _ c3;have m0:=(Hk1.out.trans (BK.of_below hb5)).cell _ _ HK.out.1;have m1:=(VC.keep (Hk1.out.trans (BK.of_below hb5)) HK.out.2);clear t5 hb5)
      | (go_at_call 204;(refine(nV b a x sl (delS aS k sr lr) pl q5 ll _ w5 (aB m0 m1) (T.keep H1.out uy.out) xE.out (by have:=HL.out;omega)).mono ?_);rintro e w7 ⟨q7,rfl,t7,hb7⟩;have zY:=Hj (Hb5.out.trans (hb7.mono Hb5.out.size));have Ec:=Hj t7;have s1:=(BK.of_below hb7).cell _ _ (uy.out.cell _ _ c2);have s2:=(BK.of_below hb7).cell _ _ (uy.out.cell _ _ c3);clear t7 hb7))
    go_wp2
    go_ret
    exact⟨q7,rfl,by rw[HI.out,HS.out];exact Ec.out,zY.out⟩
   | false=>
    have HS:=Hj (Vp (a:=sl) (b:=sr) (lr:=lr) (e:=(a,x)) hll hlt hgt)
    obtain rfl:=dh.tri k a hlt hgt
    have HI:Hid (rem aS k (ll++(k,x)::lr)=ll++lr):=QY dh HR.out
    clear hlt hgt hll
    cases pr with
    | none=>
     obtain⟨g0,g1⟩:=T.none H2.out
     subst g0 g1
     clear H2
     go_enter Tryz.func147,Tryz.ntmps147
     go_wp2_with (go_at_call 203;refine(cmp_eq k _).mono ?_;rintro e w' ⟨rfl,rfl⟩)
     go_ret
     exact⟨pl,rfl,by rw[HI.out,List.append_nil,HS.out];exact H1.out,aj _ w⟩
    | some q0=>
     obtain⟨e',r,sx,sy,rfl,rfl⟩:=T.some H2.out
     simp only[List.length_cons] at hlen
     go_enter Tryz.func147,Tryz.ntmps147
     go_wp2_with (first
      | (go_at_call 203;refine(cmp_eq k _).mono ?_;rintro e w' ⟨rfl,rfl⟩)
      | (go_at_call 205;refine(Vt n (.seq sx sy) (some q0) e' r _ hn2 H2.out (by omega)).mono ?_;rintro en w5 ⟨bf,q5,rfl,hc5,t5,hb5⟩;have Hb5:=Hj hb5;have xE:=Hj t5;have s1:=(BK.of_below hb5).cell _ _ c2;have s2:=(BK.of_below hb5).cell _ _ c3;have m0:=(BK.of_below hb5).cell _ _ hc5.1;have m1:=(VC.keep (BK.of_below hb5) hc5.2);clear t5 hb5 hc5)
      | (go_at_call 204;refine(nV bf e'.1 e'.2 sl (vC (.seq sx sy)) pl q5 ll r w5 (aB m0 m1) (T.keep H1.out (BK.of_below Hb5.out)) xE.out (by omega)).mono ?_;rintro e w7 ⟨q7,rfl,t7,hb7⟩;have zY:=Hj (Hb5.out.trans (hb7.mono Hb5.out.size));have Ec:=Hj t7;clear t7 hb7))
     go_ret
     exact⟨q7,rfl,by rw[HI.out,HS.out];exact Ec.out,zY.out⟩
/-- What find hands back for an entry's value. -/
def Found (w:World) (k:ByteArray) (r:Option OV) (q:Option Addr):Prop:=
 match r with
 | none=>q=none
 | some v=>∃b,q=some ⟨b,0,none⟩∧w.cell? ⟨b,0,none⟩=some (.string k)∧VC w b v
theorem Q9 (k:ByteArray) (s:Code) (p:Option Addr) (l:List (ByteArray×OV)) (w:World) (a:T w s p l) (sW:aT aS l):
  Cl 93 #[.pointer p,(.string k)] w fun e w'=>∃q,e=.returned (.pointer q)∧Found w k (look aS k l) q∧w=w':=by
 have HA:=Hj a
 have HR:=Hj sW
 clear a sW
 go_enter Tryz.func93,Tryz.ntmps93
 go_wp2_with fail
 go_loopg [0] (sz s) (fun g s0 wr=>∃(q:Option Addr) (l':List (ByteArray×OV)) (s':Code),s0=.pointer q∧T w s' q l'∧aT aS l'∧look aS k l'=look aS k l∧sz s'≤g∧wr=w)
 case atStart=>exact⟨p,l,s,rfl,HA.out,HR.out,rfl,bZ _,rfl⟩
 case round=>
  obtain⟨q,l',s',rfl,ht,hr',hlk,hg,rfl⟩:=hrel
  rcases Tr.open ht with ⟨rfl,rfl,rfl⟩ | ⟨b,a,x,pl,pr,ll,lr,sl,sr,rfl,hn,rfl,rfl,al,ar⟩
  ·have Hlk:=Hj hlk
   clear hlk ht hr' hg
   go_wp2
   go_ret
   exact⟨none,rfl,by rw[←Hlk.out];rfl,rfl⟩
  obtain⟨c0,c1,c2,c3,-,-⟩:=NP.cells hn
  have H1:=Hj al
  have H2:=Hj ar
  have Hlk:=Hj hlk
  have Vu:=Hj hr'
  simp only[sz] at hg
  clear hlk ht hr' al ar hn
  cases hlt:aS k a with
  | true=>
   have HC:=Hj hlt
   have q1:(a.toList==k.toList)=false:=by have:=ne_of_lt hlt;rwa [Bool.beq_comm] at this
   have q2:Op.bytesLess k.toList a.toList=true:=hlt
   clear hlt
   go_wp2
   go_roundg (gk-1)
   case measure=>omega
   case rel=>exact⟨pl,ll,sl,rfl,H1.out,Vu.out.left,by rw[←Hlk.out,NH HC.out],by omega,rfl⟩
  | false=>
   cases hgt:aS a k with
   | true=>
    have HC:=Hj hgt
    have q1:(a.toList==k.toList)=false:=ne_of_lt hgt
    have q2:Op.bytesLess k.toList a.toList=false:=dh.Vq hgt
    clear hlt hgt
    go_wp2
    go_roundg (gk-1)
    case measure=>omega
    case rel=>exact⟨pr,lr,sr,rfl,H2.out,Vu.out.right.tail,by rw[←Hlk.out,Jw dh Vu.out HC.out],by omega,rfl⟩
   | false=>
    obtain rfl:=dh.tri k a hlt hgt
    clear hlt hgt
    go_wp2
    go_ret
    exact⟨_,rfl,by rw[←Hlk.out,uV dh Vu.out];exact⟨b,rfl,c0,c1⟩,rfl⟩
end Go.Proofs.YtdhbpajamlfacaaGreatDoor.SO
