/- Trees in memory, whose nodes are never turned: each with its shape; what the balanced trees' functions make of shapes. No program in sight. -/
import Derived.Test.YtdhbpajamlfacaaGreatDoorBase
import Derived.Test.YtdhbpajamlfacaaGreatDoorRows
import Derived.Deep.RegionHeld3
import Derived.StillTailTactics
import Derived.Deep.LoopGhost
set_option maxRecDepth 100000
namespace Go.Proofs.YtdhbpajamlfacaaGreatDoor
open Go.RowKit
theorem aV {B:Nat} {a w:World} (h:Below B a w):Below B a w.drew:=⟨h.os,h.tape,h.output,h.size,h.block⟩
/-- All blocks that were stay as they are. -/
def BK (w w':World):Prop:=∀b,b<w.heap.size→w'.heap[b]?=w.heap[b]?
theorem BK.trans {a b c:World} (h:BK a b) (k:BK b c):BK a c:=fun i hi=>by
 have h1:=h i hi
 have h2:i<b.heap.size:=by
  rw[Array.getElem?_eq_getElem hi] at h1
  exact(Cq h1)
 exact(k i h2).trans h1
theorem BK.of_below {w w':World} (h:Below w.heap.size w w'):BK w w':=fun i hi=>h.block i hi
theorem BK.drew (w:World):BK w w.drew:=fun _ _=>rfl
theorem BK.drewN (w:World) (n:Nat):BK w (w.drewN n):=fun _ _=>rfl
theorem BK.cell {w w':World} (h:BK w w'):Keeps w w':=fun p v hp=>by
 have hb:=World.block_lt_of_cell? w p hp
 rw[World.cell?_of_block (h p.block hb)]
 exact hp
def ht:Code→Nat
 | .seq a b=>1+max (ht a) (ht b)
 | _=>0
def sz:Code→Nat
 | .seq a b=>sz a+sz b+1
 | _=>0
def Gy:Code→Code→Code
 | .seq a b,r=>if ht a<ht b then (match b with | .seq m1 m2=>.seq (.seq a m1) (.seq m2 r) | _=>.skip) else .seq a (.seq b r)
 | _,_=>.skip
def Gz (l:Code):Code→Code
 | .seq a b=>if ht b<ht a then (match a with | .seq m1 m2=>.seq (.seq l m1) (.seq m2 b) | _=>.skip) else .seq (.seq l a) b
 | _=>.skip
def fZ (l r:Code):Code:=if ht r+1<ht l then Gy l r else if ht l+1<ht r then Gz l r else .seq l r
def sK:Code→Code
 | .seq a b=>match a with | .skip=>b | _=>fZ (sK a) b
 | _=>.skip
section Tree
variable {κ ν:Type}
def jK (lt:κ→κ→Bool) (k:κ):Code→List (κ×ν)→Code
 | .seq a b,l=>match l.drop (sz a) with
  | []=>.skip
  | e::lr=>if lt k e.1 then fZ (jK lt k a (l.take (sz a))) b else if lt e.1 k then fZ a (jK lt k b lr) else .seq a b
 | _,_=>.seq .skip .skip
def delS (lt:κ→κ→Bool) (k:κ):Code→List (κ×ν)→Code
 | .seq a b,l=>match l.drop (sz a) with
  | []=>.skip
  | e::lr=>if lt k e.1 then fZ (delS lt k a (l.take (sz a))) b else if lt e.1 k then fZ a (delS lt k b lr) else (match b with | .skip=>a | _=>fZ a (sK b))
 | _,_=>.skip
/-- NP w b k v l r h s: block b is a node. A tree of shape s at p, with the entries l from left to right. -/
def Tr (NP:World→Nat→κ→ν→Option Addr→Option Addr→Nat→Nat→Prop) (w:World):Code→Option Addr→List (κ×ν)→Prop
 | .seq a b,p,l=>∃(g:Nat) (k:κ) (v:ν) (pl pr:Option Addr) (ll lr:List (κ×ν)),p=some ⟨g,0,none⟩∧NP w g k v pl pr (1+max (ht a) (ht b)) (ll.length+lr.length+1)∧l=ll++(k,v)::lr∧Tr NP w a pl ll∧Tr NP w b pr lr
 | .skip,p,l=>p=none∧l=[]
 | _,_,_=>False
variable {NP:World→Nat→κ→ν→Option Addr→Option Addr→Nat→Nat→Prop}
theorem Tr.nil (w:World):Tr NP w .skip none []:=⟨rfl,rfl⟩
/-- What a tree at an address is. -/
theorem Tr.open {w:World} {s p l} (a:Tr NP w s p l):(s=.skip∧p=none∧l=[])∨∃(b:Nat) (k:κ) (v:ν) (pl pr:Option Addr) (ll lr:List (κ×ν)) (sl sr:Code),p=some ⟨b,0,none⟩∧NP w b k v pl pr (1+max (ht sl) (ht sr)) (ll.length+lr.length+1)∧l=ll++(k,v)::lr∧
   s=.seq sl sr∧Tr NP w sl pl ll∧Tr NP w sr pr lr:=by
 cases s with
 | seq x y=>
  obtain⟨b,k,v,pl,pr,ll,lr,h1,h2,h3,h4,h5⟩:=a
  exact .inr ⟨b,k,v,pl,pr,ll,lr,x,y,h1,h2,h3,rfl,h4,h5⟩
 | skip=>exact .inl ⟨rfl,a.1,a.2⟩
 | _=>exact a.elim
theorem Tr.SI {w w':World} (hk:∀b k v pl pr h s,NP w b k v pl pr h s→NP w' b k v pl pr h s):∀(n:Nat) (s:Code) (p:Option Addr) (l:List (κ×ν)),sz s≤n→Tr NP w s p l→Tr NP w' s p l:=by
 intro n
 induction n with
 | zero=>
  intro s p l hn a
  rcases a.open with ⟨rfl,rfl,rfl⟩ | ⟨b,k,v,pl,pr,ll,lr,sl,sr,_,_,_,rfl,_,_⟩
  ·exact Tr.nil w'
  ·simp [sz] at hn
 | succ n ih=>
  intro s p l hn a
  rcases a.open with ⟨rfl,rfl,rfl⟩ | ⟨b,k,v,pl,pr,ll,lr,sl,sr,h1,h2,h3,rfl,h4,h5⟩
  ·exact Tr.nil w'
  ·simp only[sz] at hn
   exact⟨b,k,v,pl,pr,ll,lr,h1,hk _ _ _ _ _ _ _ h2,h3,ih sl pl ll (by omega) h4,ih sr pr lr (by omega) h5⟩
theorem Tr.keep {w w':World} {s p l} (a:Tr NP w s p l) (hk:∀b k v pl pr h s,NP w b k v pl pr h s→NP w' b k v pl pr h s):Tr NP w' s p l:=Tr.SI hk _ s p l Kv a
theorem Tr.node {w:World} {b k v pl pr ll lr sl sr} (hn:NP w b k v pl pr (1+max (ht sl) (ht sr)) (ll.length+lr.length+1)) (a:Tr NP w sl pl ll) (c:Tr NP w sr pr lr):
  Tr NP w (.seq sl sr) (some ⟨b,0,none⟩) (ll++(k,v)::lr):=⟨b,k,v,pl,pr,ll,lr,rfl,hn,rfl,a,c⟩
theorem WV (a b:Code):ht (.seq a b)=1+max (ht a) (ht b):=rfl
theorem Tr.pos {w:World} {s p l} (a:Tr NP w s p l) (hp:0<ht s):∃(b:Nat) (k:κ) (v:ν) (pl pr:Option Addr) (ll lr:List (κ×ν)) (sl sr:Code),p=some ⟨b,0,none⟩∧NP w b k v pl pr (1+max (ht sl) (ht sr)) (ll.length+lr.length+1)∧l=ll++(k,v)::lr∧
   s=.seq sl sr∧Tr NP w sl pl ll∧Tr NP w sr pr lr:=by
 rcases a.open with ⟨rfl,_⟩ | x
 ·simp [ht] at hp
 ·exact x
theorem Tr.WW {w:World}:∀(n:Nat) (s:Code) (p:Option Addr) (l:List (κ×ν)),sz s≤n→Tr NP w s p l→l.length=sz s:=by
 intro n
 induction n with
 | zero=>
  intro s p l hn a
  rcases a.open with ⟨rfl,rfl,rfl⟩ | ⟨b,k,v,pl,pr,ll,lr,sl,sr,_,_,_,rfl,_,_⟩
  ·rfl
  ·simp [sz] at hn
 | succ n ih=>
  intro s p l hn a
  rcases a.open with ⟨rfl,rfl,rfl⟩ | ⟨b,k,v,pl,pr,ll,lr,sl,sr,h1,h2,rfl,rfl,h4,h5⟩
  ·rfl
  ·simp only[sz] at hn ⊢
   have e1:=ih sl pl ll (by omega) h4
   have e2:=ih sr pr lr (by omega) h5
   simp only[List.length_append,List.length_cons]
   omega
theorem Tr.len {w:World} {s p l} (a:Tr NP w s p l):l.length=sz s:=Tr.WW _ s p l Kv a
theorem Zg:∀(n:Nat) (s:Code),sz s≤n→ht s≤sz s:=by
 intro n
 induction n with
 | zero=>
  intro s hn
  cases s with
  | seq a b=>simp[sz] at hn
  | _=>exact Nat.le_refl _
 | succ n ih=>
  intro s hn
  cases s with
  | seq a b=>
   simp only[sz,ht] at*
   have:=ih a (by omega)
   have:=ih b (by omega)
   omega
  | _=>exact Nat.le_refl _
theorem Tr.le {w:World} {s p l} (a:Tr NP w s p l):ht s≤l.length:=by rw[a.len];exact Zg _ s Kv
theorem SK {lt:κ→κ→Bool} {k:κ} {a b:Code} {ll lr:List (κ×ν)} {e:κ×ν} (h:ll.length=sz a) (h1:lt k e.1=true):jK lt k (.seq a b) (ll++e::lr)=fZ (jK lt k a ll) b:=by
 simp only[jK,←h,List.drop_left,List.take_left,h1,if_true]
theorem SL {lt:κ→κ→Bool} {k:κ} {a b:Code} {ll lr:List (κ×ν)} {e:κ×ν} (h:ll.length=sz a) (h1:lt k e.1=false) (h2:lt e.1 k=true):jK lt k (.seq a b) (ll++e::lr)=fZ a (jK lt k b lr):=by
 simp only[jK,←h,List.drop_left,h1,h2,if_true]
 simp
theorem SN {lt:κ→κ→Bool} {k:κ} {a b:Code} {ll lr:List (κ×ν)} {e:κ×ν} (h:ll.length=sz a) (h1:lt k e.1=false) (h2:lt e.1 k=false):jK lt k (.seq a b) (ll++e::lr)=.seq a b:=by
 simp only[jK,←h,List.drop_left,h1,h2]
 simp
theorem SQ {lt:κ→κ→Bool} {k:κ} {a b:Code} {ll lr:List (κ×ν)} {e:κ×ν} (h:ll.length=sz a) (h1:lt k e.1=true):delS lt k (.seq a b) (ll++e::lr)=fZ (delS lt k a ll) b:=by
 simp only[delS,←h,List.drop_left,List.take_left,h1,if_true]
theorem SS {lt:κ→κ→Bool} {k:κ} {a b:Code} {ll lr:List (κ×ν)} {e:κ×ν} (h:ll.length=sz a) (h1:lt k e.1=false) (h2:lt e.1 k=true):delS lt k (.seq a b) (ll++e::lr)=fZ a (delS lt k b lr):=by
 simp only[delS,←h,List.drop_left,h1,h2,if_true]
 simp
theorem SX {lt:κ→κ→Bool} {k:κ} {a b:Code} {ll lr:List (κ×ν)} {e:κ×ν} (h:ll.length=sz a) (h1:lt k e.1=false) (h2:lt e.1 k=false):delS lt k (.seq a b) (ll++e::lr)=(match b with | .skip=>a | _=>fZ a (sK b)):=by
 simp only[delS,←h,List.drop_left,h1,h2]
 simp
end Tree
section
variable {κ ν:Type}
end
/-- An order of keys. -/
structure rY {κ:Type} (lt:κ→κ→Bool):Prop where
 X5:∀a,lt a a=false
 tr:∀a b c,lt a b=true→lt b c=true→lt a c=true
 tri:∀a b,lt a b=false→lt b a=false→a=b
section Rows
variable {κ ν:Type} (lt:κ→κ→Bool)
def aO (l:List (κ×ν)):Prop:=l.Pairwise fun a b=>lt a.1 b.1=true
def ins (k:κ) (v:ν):List (κ×ν)→List (κ×ν)
 | []=>[(k,v)]
 | e::l=>if lt k e.1 then (k,v)::e::l else if lt e.1 k then e::ins k v l else (k,v)::l
def rem (k:κ):List (κ×ν)→List (κ×ν)
 | []=>[]
 | e::l=>if lt k e.1 then e::l else if lt e.1 k then e::rem k l else l
/-- The value of a key. -/
def look (k:κ):List (κ×ν)→Option ν
 | []=>none
 | e::l=>if lt k e.1 then none else if lt e.1 k then look k l else some e.2
/-- How many keys are below one. -/
def rank (k:κ) (l:List (κ×ν)):Nat:=(l.filter fun e=>lt e.1 k).length
variable {lt}
theorem rY.SY (L:rY lt) {a b:κ} (h:lt a b=true):lt b a=false:=by
 cases h':lt b a with
 | false=>rfl
 | true=>have:=L.tr a b a h h';rw[L.X5] at this;cases this
theorem aO.left {l r:List (κ×ν)} (h:aO lt (l++r)):aO lt l:=(List.pairwise_append.1 h).1
theorem aO.right {l r:List (κ×ν)} (h:aO lt (l++r)):aO lt r:=(List.pairwise_append.1 h).2.1
theorem aO.tail {e:κ×ν} {l:List (κ×ν)} (h:aO lt (e::l)):aO lt l:=(List.pairwise_cons.1 h).2
theorem aO.below {l r:List (κ×ν)} {k v} (h:aO lt (l++(k,v)::r)):∀e∈l,lt e.1 k=true:=fun e he=>(List.pairwise_append.1 h).2.2 e he (k,v) (by simp)
theorem aO.above {l r:List (κ×ν)} {k v} (h:aO lt (l++(k,v)::r)):∀e∈r,lt k e.1=true:=fun e he=>(List.pairwise_cons.1 h.right).1 e he
theorem OH {k a:κ} {v b:ν} {l r:List (κ×ν)} (h:lt k a=true):ins lt k v (l++(a,b)::r)=ins lt k v l++(a,b)::r:=by
 induction l with
 | nil=>simp[ins,h]
 | cons e l ih=>
  simp only[List.cons_append,ins]
  rw[ih]
  split
  ·rfl
  ·split<;>rfl
theorem qQ (L:rY lt) {k:κ} {v:ν} {l r:List (κ×ν)} (h:∀e∈l,lt e.1 k=true):ins lt k v (l++r)=l++ins lt k v r:=by
 induction l with
 | nil=>rfl
 | cons e l ih=>
  have he:=h e (by simp)
  simp only[List.cons_append,ins]
  rw[if_neg (by rw[L.SY he];simp),if_pos he,ih fun x hx=>h x (by simp[hx])]
theorem J6 (L:rY lt) {k a:κ} {v b:ν} {l r:List (κ×ν)} (hr:aO lt (l++(a,b)::r)) (h:lt a k=true):ins lt k v (l++(a,b)::r)=l++(a,b)::ins lt k v r:=by
 rw[qQ L fun e he=>L.tr _ _ _ (hr.below e he) h]
 simp[ins,L.SY h,h]
theorem OI (L:rY lt) {k:κ} {v b:ν} {l r:List (κ×ν)} (hr:aO lt (l++(k,b)::r)):ins lt k v (l++(k,b)::r)=l++(k,v)::r:=by
 rw[qQ L fun e he=>hr.below e he]
 simp[ins,L.X5]
theorem OJ {k a:κ} {b:ν} {l r:List (κ×ν)} (h:lt k a=true):rem lt k (l++(a,b)::r)=rem lt k l++(a,b)::r:=by
 induction l with
 | nil=>simp[rem,h]
 | cons e l ih=>
  simp only[List.cons_append,rem]
  rw[ih]
  split
  ·rfl
  ·split<;>rfl
theorem wM (L:rY lt) {k:κ} {l r:List (κ×ν)} (h:∀e∈l,lt e.1 k=true):rem lt k (l++r)=l++rem lt k r:=by
 induction l with
 | nil=>rfl
 | cons e l ih=>
  have he:=h e (by simp)
  simp only[List.cons_append,rem]
  rw[if_neg (by rw[L.SY he];simp),if_pos he,ih fun x hx=>h x (by simp[hx])]
theorem J7 (L:rY lt) {k a:κ} {b:ν} {l r:List (κ×ν)} (hr:aO lt (l++(a,b)::r)) (h:lt a k=true):rem lt k (l++(a,b)::r)=l++(a,b)::rem lt k r:=by
 rw[wM L fun e he=>L.tr _ _ _ (hr.below e he) h]
 simp[rem,L.SY h,h]
theorem OM (L:rY lt) {k:κ} {b:ν} {l r:List (κ×ν)} (hr:aO lt (l++(k,b)::r)):rem lt k (l++(k,b)::r)=l++r:=by
 rw[wM L fun e he=>hr.below e he]
 simp[rem,L.X5]
theorem J8 {k a:κ} {b:ν} {l r:List (κ×ν)} (h:lt k a=true):look lt k (l++(a,b)::r)=look lt k l:=by
 induction l with
 | nil=>simp[look,h]
 | cons e l ih=>simp only[List.cons_append,look,ih]
theorem zl (L:rY lt) {k:κ} {l r:List (κ×ν)} (h:∀e∈l,lt e.1 k=true):look lt k (l++r)=look lt k r:=by
 induction l with
 | nil=>rfl
 | cons e l ih=>
  have he:=h e (by simp)
  simp only[List.cons_append,look]
  rw[if_neg (by rw[L.SY he];simp),if_pos he,ih fun x hx=>h x (by simp[hx])]
theorem GH (L:rY lt) {k a:κ} {b:ν} {l r:List (κ×ν)} (hr:aO lt (l++(a,b)::r)) (h:lt a k=true):look lt k (l++(a,b)::r)=look lt k r:=by
 rw[zl L fun e he=>L.tr _ _ _ (hr.below e he) h]
 simp[look,L.SY h,h]
theorem rZ (L:rY lt) {k:κ} {b:ν} {l r:List (κ×ν)} (hr:aO lt (l++(k,b)::r)):look lt k (l++(k,b)::r)=some b:=by
 rw[zl L fun e he=>hr.below e he]
 simp[look,L.X5]
theorem qp {k:κ} {v:ν} {l:List (κ×ν)} {e:κ×ν} (h:e∈ins lt k v l):e=(k,v)∨e∈l:=by
 induction l with
 | nil=>simpa [ins] using h
 | cons a l ih=>
  simp only[ins] at h
  split at h
  ·simpa using h
  ·split at h
   ·rcases List.mem_cons.1 h with rfl | h
    ·simp
    ·rcases ih h with h | h
     ·exact .inl h
     ·exact .inr (by simp[h])
   ·rcases List.mem_cons.1 h with rfl | h
    ·simp
    ·exact .inr (by simp[h])
theorem zn (L:rY lt) {k:κ} {v:ν} {l:List (κ×ν)} (h:aO lt l):aO lt (ins lt k v l):=by
 induction l with
 | nil=>simp[ins,aO]
 | cons a l ih=>
  have h1:=List.pairwise_cons.1 h
  simp only[ins]
  split
  ·rename_i hk
   refine List.pairwise_cons.2 ⟨fun e he=> ?_,h⟩
   rcases List.mem_cons.1 he with rfl | he
   ·exact hk
   ·exact L.tr _ _ _ hk (h1.1 e he)
  ·split
   ·rename_i hk
    refine List.pairwise_cons.2 ⟨fun e he=> ?_,ih h.tail⟩
    rcases qp he with rfl | he
    ·exact hk
    ·exact h1.1 e he
   ·rename_i h2 h3
    obtain rfl:=L.tri k a.1 (by simpa using h2) (by simpa using h3)
    exact List.pairwise_cons.2 ⟨fun e he=>h1.1 e he,h.tail⟩
theorem lH {k:κ} {l:List (κ×ν)}:(rem lt k l).Sublist l:=by
 induction l with
 | nil=>exact List.Sublist.refl _
 | cons a l ih=>
  simp only[rem]
  split
  ·exact List.Sublist.refl _
  ·split
   ·exact ih.cons_cons a
   ·exact List.sublist_cons_self a l
theorem zo {k:κ} {l:List (κ×ν)} (h:aO lt l):aO lt (rem lt k l):=h.sublist lH
theorem je {k:κ} {v:ν} {l:List (κ×ν)}:(ins lt k v l).length=if (look lt k l).isSome then l.length else l.length+1:=by
 induction l with
 | nil=>simp[ins,look]
 | cons a l ih=>
  simp only[ins,look]
  split
  ·simp
  ·split
   ·simp only[List.length_cons,ih]
    split<;>rfl
   ·simp
theorem wO {k:κ} {l:List (κ×ν)}:(rem lt k l).length=if (look lt k l).isSome then l.length-1 else l.length:=by
 induction l with
 | nil=>simp[rem,look]
 | cons a l ih=>
  simp only[rem,look]
  split
  ·simp
  ·split
   ·simp only[List.length_cons,ih]
    split
    ·rename_i h
     have:l≠[]:=by rintro rfl;simp[look] at h
     have:=List.length_pos_iff.2 this
     omega
    ·rfl
   ·simp
theorem J9 (L:rY lt) {k a:κ} {b:ν} {l r:List (κ×ν)} (hr:aO lt (l++(a,b)::r)) (h:lt a k=false):rank lt k (l++(a,b)::r)=rank lt k l:=by
 unfold rank
 rw[List.filter_append,List.filter_cons,h,List.length_append]
 have:(r.filter fun e=>lt e.1 k)=[]:=by
  rw[List.filter_eq_nil_iff]
  intro e he h'
  have h1:=hr.above e he
  have h2:=L.tr _ _ _ h1 h'
  rw[h] at h2
  cases h2
 rw[this]
 simp
theorem GI (L:rY lt) {k a:κ} {b:ν} {l r:List (κ×ν)} (hr:aO lt (l++(a,b)::r)) (h:lt a k=true):rank lt k (l++(a,b)::r)=l.length+1+rank lt k r:=by
 unfold rank
 rw[List.filter_append,List.filter_cons,if_pos h,List.length_append]
 have:(l.filter fun e=>lt e.1 k)=l:=by
  rw[List.filter_eq_self]
  exact fun e he=>L.tr _ _ _ (hr.below e he) h
 rw[this]
 simp
 omega
end Rows
end Go.Proofs.YtdhbpajamlfacaaGreatDoor
namespace Go.Proofs.YtdhbpajamlfacaaGreatDoor.SO
open Go.RowKit
/-- An object, as a value. -/
structure OV where
 kind:Int
 space:ByteArray
 name:ByteArray
 ver:Int
 A:Option Addr
 n:Nat
 c:Nat
/-- Block b holds the value v from cell 1 on. -/
def VC (w:World) (b:Nat) (v:OV):Prop:=
 w.cell? ⟨b,1,none⟩=some (.int .i64 v.kind)∧w.cell? ⟨b,2,none⟩=some (.string v.space)∧w.cell? ⟨b,3,none⟩=some (.string v.name)∧w.cell? ⟨b,4,none⟩=some (.int .i64 v.ver)∧w.cell? ⟨b,5,none⟩=some (.slice v.A v.n v.c)
theorem VC.keep {w w':World} {b:Nat} {v:OV} (hk:BK w w') (h:VC w b v):VC w' b v:=
 ⟨hk.cell _ _ h.1,hk.cell _ _ h.2.1,hk.cell _ _ h.2.2.1,hk.cell _ _ h.2.2.2.1,hk.cell _ _ h.2.2.2.2⟩
/-- Block b holds the value v. -/
def VB (w:World) (b:Nat) (v:OV):Prop:=
 w.cell? ⟨b,0,none⟩=some (.int .i64 v.kind)∧w.cell? ⟨b,1,none⟩=some (.string v.space)∧w.cell? ⟨b,2,none⟩=some (.string v.name)∧w.cell? ⟨b,3,none⟩=some (.int .i64 v.ver)∧w.cell? ⟨b,4,none⟩=some (.slice v.A v.n v.c)
theorem VB.keep {w w':World} {b:Nat} {v:OV} (hk:BK w w') (h:VB w b v):VB w' b v:=
 ⟨hk.cell _ _ h.1,hk.cell _ _ h.2.1,hk.cell _ _ h.2.2.1,hk.cell _ _ h.2.2.2.1,hk.cell _ _ h.2.2.2.2⟩
/-- Block b is a node. -/
def NP (w:World) (b:Nat) (k:ByteArray) (v:OV) (pl pr:Option Addr) (h s:Nat):Prop:=
 w.heap[b]?=some (.cells #[(.string k),.int .i64 v.kind,.string v.space,.string v.name,.int .i64 v.ver,.slice v.A v.n v.c,.pointer pl,.pointer pr,.int .i64 (h:Int),.int .i64 (s:Int)] 164 (0,0))
theorem NP.cells {w:World} {b:Nat} {k:ByteArray} {v:OV} {pl pr:Option Addr} {h s:Nat} (x:NP w b k v pl pr h s):
  w.cell? ⟨b,0,none⟩=some (.string k)∧VC w b v∧w.cell? ⟨b,6,none⟩=some (.pointer pl)∧w.cell? ⟨b,7,none⟩=some (.pointer pr)∧
  w.cell? ⟨b,8,none⟩=some (.int .i64 (h:Int))∧w.cell? ⟨b,9,none⟩=some (.int .i64 (s:Int)):=
 ⟨cell_of_row w b 0 _ _ _ x,⟨cell_of_row w b 1 _ _ _ x,cell_of_row w b 2 _ _ _ x,cell_of_row w b 3 _ _ _ x,cell_of_row w b 4 _ _ _ x,cell_of_row w b 5 _ _ _ x⟩,cell_of_row w b 6 _ _ _ x,cell_of_row w b 7 _ _ _ x,cell_of_row w b 8 _ _ _ x,cell_of_row w b 9 _ _ _ x⟩
/-- The nodes stay. -/
def KN (w w':World):Prop:=∀(b:Nat) (cs:Array Value),w.heap[b]?=some (.cells cs 164 (0,0))→w'.heap[b]?=some (.cells cs 164 (0,0))
theorem NP.I8 {w w':World} (hk:KN w w') (b:Nat) (k:ByteArray) (v:OV) (pl pr:Option Addr) (h s:Nat) (x:NP w b k v pl pr h s):NP w' b k v pl pr h s:=hk _ _ x
theorem NP.keep {w w':World} (hk:BK w w') (b:Nat) (k:ByteArray) (v:OV) (pl pr:Option Addr) (h s:Nat) (x:NP w b k v pl pr h s):NP w' b k v pl pr h s:=
 (hk b (Cq x)).trans x
theorem NP.new {w:World} {b:Nat} {k:ByteArray} {v:OV} {pl pr:Option Addr} {h s:Nat} {h' s':Int} (hb:w.heap[b]?=some (.cells #[(.string k),.int .i64 v.kind,.string v.space,.string v.name,.int .i64 v.ver,.slice v.A v.n v.c,.pointer pl,.pointer pr,.int .i64 h',.int .i64 s'] 164 (0,0))) (e1:h'=(h:Int)) (e2:s'=(s:Int)):NP w b k v pl pr h s:=by
 subst e1 e2
 exact hb
abbrev T (w:World) (s:Code) (p:Option Addr) (l:List (ByteArray×OV)):Prop:=Tr NP w s p l
theorem T.keep {w w':World} {s:Code} {p:Option Addr} {l:List (ByteArray×OV)} (a:T w s p l) (hk:BK w w'):T w' s p l:=Tr.keep a (NP.keep hk)
theorem T.I8 {w w':World} {s:Code} {p:Option Addr} {l:List (ByteArray×OV)} (a:T w s p l) (hk:KN w w'):T w' s p l:=Tr.keep a (NP.I8 hk)
theorem pR (s:Code) (p:Option Addr) (l:List (ByteArray×OV)) (w:World) (a:T w s p l):
  Calls Tryz.prog 244 #[.pointer p] w fun e w'=>e=.returned (.int .i64 (ht s:Int))∧w=w':=by
 rcases a.open with ⟨rfl,rfl,rfl⟩ | ⟨b,k,v,pl,pr,ll,lr,sl,sr,rfl,hn,-,rfl,-,-⟩
 ·clear a
  go_enter Tryz.func244,Tryz.ntmps244
  go_wp2
  go_ret
  exact⟨rfl,rfl⟩
 ·obtain ⟨-,-,-,-,c4,-⟩:=NP.cells hn
  clear a
  go_enter Tryz.func244,Tryz.ntmps244
  go_wp2
  go_ret
  exact⟨qA (by rw[WV];omega),rfl⟩
theorem rO (s:Code) (p:Option Addr) (l:List (ByteArray×OV)) (w:World) (a:T w s p l):
  Calls Tryz.prog 92 #[.pointer p] w fun e w'=>e=.returned (.int .i64 (l.length:Int))∧w=w':=by
 rcases a.open with ⟨rfl,rfl,rfl⟩ | ⟨b,k,v,pl,pr,ll,lr,sl,sr,rfl,hn,hll,rfl,-,-⟩
 ·clear a
  go_enter Tryz.func92,Tryz.ntmps92
  go_wp2
  go_ret
  exact⟨rfl,rfl⟩
 ·obtain ⟨-,-,-,-,-,c5⟩:=NP.cells hn
  clear a
  have HL:=Hj hll
  clear hll
  go_enter Tryz.func92,Tryz.ntmps92
  go_wp2
  go_ret
  exact⟨qA (by rw[HL.out,List.length_append,List.length_cons];omega),rfl⟩
theorem kQ {s:Code} {p:Option Addr} {l:List (ByteArray×OV)} {w:World} (a:T w s p l) (w2:World) (hk:BK w w2):
  Calls Tryz.prog 244 #[.pointer p] w2 fun e w'=>e=.returned (.int .i64 (ht s:Int))∧w'=w2:=(pR s p l w2 (T.keep a hk)).mono fun _ _ x=>⟨x.1,x.2.symm⟩
theorem OO {s:Code} {p:Option Addr} {l:List (ByteArray×OV)} {w:World} (a:T w s p l) (w2:World) (hk:BK w w2):
  Calls Tryz.prog 92 #[.pointer p] w2 fun e w'=>e=.returned (.int .i64 (l.length:Int))∧w'=w2:=(rO s p l w2 (T.keep a hk)).mono fun _ _ x=>⟨x.1,x.2.symm⟩
set_option maxHeartbeats 1000000 in
/-- with: a node of the same key and value over two trees. -/
theorem sN (b:Nat) (k:ByteArray) (v:OV) (sl sr:Code) (pl pr:Option Addr) (ll lr:List (ByteArray×OV)) (w:World)
  (c0:w.cell? ⟨b,0,none⟩=some (.string k)) (c1:VC w b v) (al:T w sl pl ll) (ar:T w sr pr lr) (hs:ll.length+lr.length≤1099511627776):
  Calls Tryz.prog 247 #[.pointer (some ⟨b,0,none⟩),.pointer pl,.pointer pr] w fun e w'=>∃p,e=.returned (.pointer p)∧T w' (.seq sl sr) p (ll++(k,v)::lr)∧Below w.heap.size w w':=by
 obtain⟨v1,v2,v3,v4,v5⟩:=c1
 have Al:=Hj al
 have Ar:=Hj ar
 have hlb:=al.le
 have hrb:=ar.le
 have nl:ll.length≤1099511627776:=by omega
 have nr:lr.length≤1099511627776:=by omega
 have hlb2:ht sl≤1099511627776:=by omega
 have hrb2:ht sr≤1099511627776:=by omega
 clear al ar hlb hrb
 go_enter Tryz.func247,Tryz.ntmps247
 go_wp2_with fail
 refine wp_region_still_tail 22 (by kernel_rfl) (by kernel_rfl) ?_
 simp only[List.take_succ_cons,List.take_zero,List.drop_succ_cons,List.drop_zero]
 iterate 11 still_step
 still_call (kQ Al.out _ (BK.drew _))
 still_step
 still_call (kQ Ar.out _ (BK.drew _))
 iterate 3 still_step
 still_call (OO Al.out _ (BK.drew _))
 iterate 2 still_step
 still_call (OO Ar.out _ (BK.drew _))
 still_step
 refine wpStill_nil ?_
 change wpList _ _ _ _ _ w.drew
 go_wp2
 all_goals
  go_ret
  refine⟨_,rfl,Tr.node (b:=w.heap.size) (NP.new (heap_alloc_new w.drew _) (by omega) (by omega)) (T.keep Al.out ((BK.drew w).trans (BK.of_below ((Below.refl _ _).alloc Kv _)))) (T.keep Ar.out ((BK.drew w).trans (BK.of_below ((Below.refl _ _).alloc Kv _)))),?_⟩
  exact(aV (Below.refl _ w)).alloc Kv _
theorem sO (b:Nat) (k:ByteArray) (v:OV) (sl sr:Code) (pl pr:Option Addr) (ll lr:List (ByteArray×OV)) (w:World)
  (c:w.cell? ⟨b,0,none⟩=some (.string k)∧VC w b v) (al:T w sl pl ll) (ar:T w sr pr lr) (hs:ll.length+lr.length≤1099511627776) (w2:World) (hk:BK w w2):
  Calls Tryz.prog 247 #[.pointer (some ⟨b,0,none⟩),.pointer pl,.pointer pr] w2 fun e w'=>∃p,e=.returned (.pointer p)∧T w' (.seq sl sr) p (ll++(k,v)::lr)∧Below w2.heap.size w2 w'∧BK w w':=
 (sN b k v sl sr pl pr ll lr w2 (hk.cell _ _ c.1) ((VC.keep hk c.2)) (T.keep al hk) (T.keep ar hk) hs).mono fun _ _ ⟨p,e,t,hb⟩=>⟨p,e,t,hb,hk.trans (BK.of_below hb)⟩
set_option maxHeartbeats 4000000 in
/-- lower: one side is too high. -/
theorem Tc (b:Nat) (k:ByteArray) (v:OV) (sl sr:Code) (pl pr:Option Addr) (ll lr:List (ByteArray×OV)) (w:World)
  (c0:w.cell? ⟨b,0,none⟩=some (.string k)) (c1:VC w b v) (al:T w sl pl ll) (ar:T w sr pr lr) (h1:0<ht sl) (hs:ll.length+lr.length≤1099511627776):
  Calls Tryz.prog 245 #[.pointer (some ⟨b,0,none⟩),.pointer pl,.pointer pr] w fun e w'=>∃p,e=.returned (.pointer p)∧T w' (Gy sl sr) p (ll++(k,v)::lr)∧Below w.heap.size w w':=by
 obtain⟨bl,kl,vl,p1,p2,l1,l2,s1,s2,rfl,hnl,rfl,rfl,t1,t2⟩:=al.pos h1
 simp only[List.length_append,List.length_cons] at hs
 have H1:=Hj t1
 have H2:=Hj t2
 have HR:=Hj ar
 have HK:=Hj (And.intro c0 c1)
 obtain⟨d0,d1,d2,d3,-,-⟩:=NP.cells hnl
 have HL:=Hj (And.intro d0 d1)
 clear c0 c1 al ar t1 t2 d0 d1 h1 hnl
 by_cases hlt:ht s1<ht s2
 ·have hd:decide ((ht s1:Int)<(ht s2:Int))=true:=decide_eq_true (by omega)
  obtain⟨bm,km,vm,p3,p4,l3,l4,s3,s4,rfl,hnm,rfl,rfl,t3,t4⟩:=H2.out.pos (by omega)
  simp only[List.length_append,List.length_cons] at hs
  have H3:=Hj t3
  have H4:=Hj t4
  obtain⟨e0,e1,e2,e3,-,-⟩:=NP.cells hnm
  have HM:=Hj (And.intro e0 e1)
  have HS:Hid (Gy (.seq s1 (.seq s3 s4)) sr=.seq (.seq s1 s3) (.seq s4 sr)):=by
   show _=_
   simp only[Gy]
   rw[if_pos hlt]
  clear t3 t4 e0 e1 hnm
  go_enter Tryz.func245,Tryz.ntmps245
  go_wp2_with fail
  refine wp_region_still_lit (by kernel_rfl) (by kernel_rfl) ?_
  iterate 4 still_step
  still_call (kQ H1.out _ (BK.drew _))
  iterate 4 still_step
  still_call (kQ H2.out _ (BK.drew _))
  still_step
  refine wpStill_nil ?_
  change Exit.then _ _ _ _ w.drew
  go_wp2_with fail
  have Hk1:Hid (BK w w.drew.drew):=(BK.drew w).trans (BK.drew _)
  have Hb1:Hid (Below w.heap.size w w.drew.drew):=aV (aV (Below.refl _ w))
  go_region_held3 (fun w'=>w'.cell? ⟨bl,6,none⟩=some (.pointer p1)∧w'.cell? ⟨bm,6,none⟩=some (.pointer p3)∧w'.cell? ⟨bm,7,none⟩=some (.pointer p4)) (go_keep)
   (first
    | (go_at_call 247;(with_reducible refine(sO bl kl vl s1 s3 p1 p3 l1 l3 w HL.out H1.out H3.out (by omega) _ Hk1.out).mono ?_);rintro e w5 ⟨q5,rfl,t5,hb5,hk5⟩;have Hb5:=Hj (Hb1.out.trans (hb5.mono Hb1.out.size));have uX:=Hj t5;have qR:=Hj hk5;have r1:=hk5.cell _ _ d2;have r2:=hk5.cell _ _ e2;have r3:=hk5.cell _ _ e3;clear t5 hb5 hk5)
    | (go_at_call 247;(with_reducible refine(sO b k v s4 sr p4 pr l4 lr w HK.out H4.out HR.out (by omega) _ qR.out).mono ?_);rintro e w6 ⟨q6,rfl,t6,hb6,hk6⟩;have WX:=Hj (T.keep uX.out (BK.of_below hb6));have Zh:=Hj (Hb5.out.trans (hb6.mono Hb5.out.size));have Ht6:=Hj t6;have WY:=Hj hk6;have r1:=hk6.cell _ _ d2;have r2:=hk6.cell _ _ e2;have r3:=hk6.cell _ _ e3;have m0:=hk6.cell _ _ HM.out.1;have m1:=(VC.keep hk6 HM.out.2);clear t6 hb6 hk6)
    | (go_at_call 247;(with_reducible refine(sN bm km vm _ _ q5 q6 _ _ w6 m0 m1 WX.out Ht6.out (by simp only[List.length_append,List.length_cons];omega)).mono ?_);rintro e w7 ⟨q7,rfl,t7,hb7⟩;have xO:=Hj (Zh.out.trans (hb7.mono Zh.out.size));have AQ:=Hj t7;have r1:=(BK.of_below hb7).cell _ _ (WY.out.cell _ _ d2);have r2:=(BK.of_below hb7).cell _ _ (WY.out.cell _ _ e2);have r3:=(BK.of_below hb7).cell _ _ (WY.out.cell _ _ e3);clear t7 hb7))
  go_wp2
  go_ret
  refine⟨q7,rfl,?_,xO.out⟩
  rw[HS.out]
  have:=AQ.out
  simpa using this
 ·have hd:decide ((ht s1:Int)<(ht s2:Int))=false:=decide_eq_false (by omega)
  have HS:Hid (Gy (.seq s1 s2) sr=.seq s1 (.seq s2 sr)):=by
   show _=_
   simp only[Gy]
   rw[if_neg hlt]
  go_enter Tryz.func245,Tryz.ntmps245
  go_wp2_with fail
  refine wp_region_still_lit (by kernel_rfl) (by kernel_rfl) ?_
  iterate 4 still_step
  still_call (kQ H1.out _ (BK.drew _))
  iterate 4 still_step
  still_call (kQ H2.out _ (BK.drew _))
  still_step
  refine wpStill_nil ?_
  change Exit.then _ _ _ _ w.drew
  go_wp2_with fail
  have Hk1:Hid (BK w w.drew.drew):=(BK.drew w).trans (BK.drew _)
  have Hb1:Hid (Below w.heap.size w w.drew.drew):=aV (aV (Below.refl _ w))
  go_region_held3 (fun w'=>w'.cell? ⟨bl,6,none⟩=some (.pointer p1)∧w'.cell? ⟨bl,7,none⟩=some (.pointer p2)) (go_keep)
   (first
    | (go_at_call 247;(with_reducible refine(sO b k v s2 sr p2 pr l2 lr w HK.out H2.out HR.out (by omega) _ Hk1.out).mono ?_);rintro e w5 ⟨q5,rfl,t5,hb5,hk5⟩;have Hb5:=Hj (Hb1.out.trans (hb5.mono Hb1.out.size));have uX:=Hj t5;have qR:=Hj hk5;have r1:=hk5.cell _ _ d2;have r2:=hk5.cell _ _ d3;have m0:=hk5.cell _ _ HL.out.1;have m1:=(VC.keep hk5 HL.out.2);clear t5 hb5 hk5)
    | (go_at_call 247;(with_reducible refine(sN bl kl vl _ _ p1 q5 l1 _ w5 m0 m1 (T.keep H1.out qR.out) uX.out (by simp only[List.length_append,List.length_cons];omega)).mono ?_);rintro e w7 ⟨q7,rfl,t7,hb7⟩;have xO:=Hj (Hb5.out.trans (hb7.mono Hb5.out.size));have AQ:=Hj t7;have r1:=(BK.of_below hb7).cell _ _ (qR.out.cell _ _ d2);have r2:=(BK.of_below hb7).cell _ _ (qR.out.cell _ _ d3);clear t7 hb7))
  go_wp2
  go_ret
  refine⟨q7,rfl,?_,xO.out⟩
  rw[HS.out]
  have:=AQ.out
  simpa using this
set_option maxHeartbeats 4000000 in
/-- raise: one side is too high. -/
theorem Td (b:Nat) (k:ByteArray) (v:OV) (sl sr:Code) (pl pr:Option Addr) (ll lr:List (ByteArray×OV)) (w:World)
  (c0:w.cell? ⟨b,0,none⟩=some (.string k)) (c1:VC w b v) (al:T w sl pl ll) (ar:T w sr pr lr) (h1:0<ht sr) (hs:ll.length+lr.length≤1099511627776):
  Calls Tryz.prog 246 #[.pointer (some ⟨b,0,none⟩),.pointer pl,.pointer pr] w fun e w'=>∃p,e=.returned (.pointer p)∧T w' (Gz sl sr) p (ll++(k,v)::lr)∧Below w.heap.size w w':=by
 obtain⟨bl,kl,vl,p1,p2,l1,l2,s1,s2,rfl,hnl,rfl,rfl,t1,t2⟩:=ar.pos h1
 simp only[List.length_append,List.length_cons] at hs
 have H1:=Hj t1
 have H2:=Hj t2
 have HR:=Hj al
 have HK:=Hj (And.intro c0 c1)
 obtain⟨d0,d1,d2,d3,-,-⟩:=NP.cells hnl
 have HL:=Hj (And.intro d0 d1)
 clear c0 c1 al ar t1 t2 d0 d1 h1 hnl
 by_cases hlt:ht s2<ht s1
 ·have hd:decide ((ht s2:Int)<(ht s1:Int))=true:=decide_eq_true (by omega)
  obtain⟨bm,km,vm,p3,p4,l3,l4,s3,s4,rfl,hnm,rfl,rfl,t3,t4⟩:=H1.out.pos (by omega)
  simp only[List.length_append,List.length_cons] at hs
  have H3:=Hj t3
  have H4:=Hj t4
  obtain⟨e0,e1,e2,e3,-,-⟩:=NP.cells hnm
  have HM:=Hj (And.intro e0 e1)
  have HS:Hid (Gz sl (.seq (.seq s3 s4) s2)=.seq (.seq sl s3) (.seq s4 s2)):=by
   show _=_
   simp only[Gz]
   rw[if_pos hlt]
  clear t3 t4 e0 e1 hnm
  go_enter Tryz.func246,Tryz.ntmps246
  go_wp2_with fail
  refine wp_region_still_lit (by kernel_rfl) (by kernel_rfl) ?_
  iterate 4 still_step
  still_call (kQ H2.out _ (BK.drew _))
  iterate 4 still_step
  still_call (kQ H1.out _ (BK.drew _))
  still_step
  refine wpStill_nil ?_
  change Exit.then _ _ _ _ w.drew
  go_wp2_with fail
  have Hk1:Hid (BK w w.drew.drew):=(BK.drew w).trans (BK.drew _)
  have Hb1:Hid (Below w.heap.size w w.drew.drew):=aV (aV (Below.refl _ w))
  go_region_held3 (fun w'=>w'.cell? ⟨bm,6,none⟩=some (.pointer p3)∧w'.cell? ⟨bm,7,none⟩=some (.pointer p4)∧w'.cell? ⟨bl,7,none⟩=some (.pointer p2)) (go_keep)
   (first
    | (go_at_call 247;(with_reducible refine(sO b k v sl s3 pl p3 ll l3 w HK.out HR.out H3.out (by omega) _ Hk1.out).mono ?_);rintro e w5 ⟨q5,rfl,t5,hb5,hk5⟩;have Hb5:=Hj (Hb1.out.trans (hb5.mono Hb1.out.size));have uX:=Hj t5;have qR:=Hj hk5;have r1:=hk5.cell _ _ e2;have r2:=hk5.cell _ _ e3;have r3:=hk5.cell _ _ d3;clear t5 hb5 hk5)
    | (go_at_call 247;(with_reducible refine(sO bl kl vl s4 s2 p4 p2 l4 l2 w HL.out H4.out H2.out (by omega) _ qR.out).mono ?_);rintro e w6 ⟨q6,rfl,t6,hb6,hk6⟩;have WX:=Hj (T.keep uX.out (BK.of_below hb6));have Zh:=Hj (Hb5.out.trans (hb6.mono Hb5.out.size));have Ht6:=Hj t6;have WY:=Hj hk6;have r1:=hk6.cell _ _ e2;have r2:=hk6.cell _ _ e3;have r3:=hk6.cell _ _ d3;have m0:=hk6.cell _ _ HM.out.1;have m1:=(VC.keep hk6 HM.out.2);clear t6 hb6 hk6)
    | (go_at_call 247;(with_reducible refine(sN bm km vm _ _ q5 q6 _ _ w6 m0 m1 WX.out Ht6.out (by simp only[List.length_append,List.length_cons];omega)).mono ?_);rintro e w7 ⟨q7,rfl,t7,hb7⟩;have xO:=Hj (Zh.out.trans (hb7.mono Zh.out.size));have AQ:=Hj t7;have r1:=(BK.of_below hb7).cell _ _ (WY.out.cell _ _ e2);have r2:=(BK.of_below hb7).cell _ _ (WY.out.cell _ _ e3);have r3:=(BK.of_below hb7).cell _ _ (WY.out.cell _ _ d3);clear t7 hb7))
  go_wp2
  go_ret
  refine⟨q7,rfl,?_,xO.out⟩
  rw[HS.out]
  have:=AQ.out
  simpa using this
 ·have hd:decide ((ht s2:Int)<(ht s1:Int))=false:=decide_eq_false (by omega)
  have HS:Hid (Gz sl (.seq s1 s2)=.seq (.seq sl s1) s2):=by
   show _=_
   simp only[Gz]
   rw[if_neg hlt]
  go_enter Tryz.func246,Tryz.ntmps246
  go_wp2_with fail
  refine wp_region_still_lit (by kernel_rfl) (by kernel_rfl) ?_
  iterate 4 still_step
  still_call (kQ H2.out _ (BK.drew _))
  iterate 4 still_step
  still_call (kQ H1.out _ (BK.drew _))
  still_step
  refine wpStill_nil ?_
  change Exit.then _ _ _ _ w.drew
  go_wp2_with fail
  have Hk1:Hid (BK w w.drew.drew):=(BK.drew w).trans (BK.drew _)
  have Hb1:Hid (Below w.heap.size w w.drew.drew):=aV (aV (Below.refl _ w))
  go_region_held3 (fun w'=>w'.cell? ⟨bl,6,none⟩=some (.pointer p1)∧w'.cell? ⟨bl,7,none⟩=some (.pointer p2)) (go_keep)
   (first
    | (go_at_call 247;(with_reducible refine(sO b k v sl s1 pl p1 ll l1 w HK.out HR.out H1.out (by omega) _ Hk1.out).mono ?_);rintro e w5 ⟨q5,rfl,t5,hb5,hk5⟩;have Hb5:=Hj (Hb1.out.trans (hb5.mono Hb1.out.size));have uX:=Hj t5;have qR:=Hj hk5;have r1:=hk5.cell _ _ d2;have r2:=hk5.cell _ _ d3;have m0:=hk5.cell _ _ HL.out.1;have m1:=(VC.keep hk5 HL.out.2);clear t5 hb5 hk5)
    | (go_at_call 247;(with_reducible refine(sN bl kl vl _ _ q5 p2 _ l2 w5 m0 m1 uX.out (T.keep H2.out qR.out) (by simp only[List.length_append,List.length_cons];omega)).mono ?_);rintro e w7 ⟨q7,rfl,t7,hb7⟩;have xO:=Hj (Hb5.out.trans (hb7.mono Hb5.out.size));have AQ:=Hj t7;have r1:=(BK.of_below hb7).cell _ _ (qR.out.cell _ _ d2);have r2:=(BK.of_below hb7).cell _ _ (qR.out.cell _ _ d3);clear t7 hb7))
  go_wp2
  go_ret
  refine⟨q7,rfl,?_,xO.out⟩
  rw[HS.out]
  have:=AQ.out
  simpa using this
open Go.RowKit
set_option maxHeartbeats 1000000 in
theorem kZ (b:Nat) (k:ByteArray) (v:OV) (sl sr:Code) (pl pr:Option Addr) (ll lr:List (ByteArray×OV)) (w:World)
  (c:w.cell? ⟨b,0,none⟩=some (.string k)∧VC w b v) (al:T w sl pl ll) (ar:T w sr pr lr) (hs:ll.length+lr.length≤1099511627776):
  Calls Tryz.prog 204 #[.pointer (some ⟨b,0,none⟩),.pointer pl,.pointer pr] w fun e w'=>∃p,e=.returned (.pointer p)∧T w' (fZ sl sr) p (ll++(k,v)::lr)∧Below w.heap.size w w':=by
 have b1:=al.le
 have b2:=ar.le
 have b3:ht sl≤1099511627776:=by omega
 have b4:ht sr≤1099511627776:=by omega
 have H1:=Hj al
 have H2:=Hj ar
 have HK:=Hj c
 clear al ar c
 by_cases g1:ht sr+1<ht sl
 ·have d1:decide (1<(ht sl:Int)-(ht sr:Int))=true:=decide_eq_true (by omega)
  have HJ:Hid (fZ sl sr=Gy sl sr):=by
   show _=_
   simp only[fZ]
   rw[if_pos g1]
  have G:Hid (0<ht sl):=show 0<ht sl by omega
  clear g1
  go_enter Tryz.func204,Tryz.ntmps204
  go_wp2_with (first
   | (go_at_call 244;(with_reducible refine(pR sl pl ll _ H1.out).mono ?_);rintro e w' ⟨rfl,rfl⟩)
   | (go_at_call 244;(with_reducible refine(pR sr pr lr _ H2.out).mono ?_);rintro e w' ⟨rfl,rfl⟩)
   | (go_at_call 245;refine(Tc b k v sl sr pl pr ll lr _ HK.out.1 HK.out.2 H1.out H2.out G.out hs).mono ?_;rintro e w1 ⟨p,rfl,ht,hb⟩;have Ht:=Hj ht;clear ht))
  go_ret
  exact⟨p,rfl,by rw[HJ.out];exact Ht.out,hb⟩
 ·have d1:decide (1<(ht sl:Int)-(ht sr:Int))=false:=decide_eq_false (by omega)
  by_cases g2:ht sl+1<ht sr
  ·have d2:decide ((ht sl:Int)-(ht sr:Int)< -1)=true:=decide_eq_true (by omega)
   have HJ:Hid (fZ sl sr=Gz sl sr):=by
    show _=_
    simp only[fZ]
    rw[if_neg g1,if_pos g2]
   have G:Hid (0<ht sr):=show 0<ht sr by omega
   clear g1 g2
   go_enter Tryz.func204,Tryz.ntmps204
   go_wp2_with (first
    | (go_at_call 244;(with_reducible refine(pR sl pl ll _ H1.out).mono ?_);rintro e w' ⟨rfl,rfl⟩)
    | (go_at_call 244;(with_reducible refine(pR sr pr lr _ H2.out).mono ?_);rintro e w' ⟨rfl,rfl⟩)
    | (go_at_call 246;refine(Td b k v sl sr pl pr ll lr _ HK.out.1 HK.out.2 H1.out H2.out G.out hs).mono ?_;rintro e w1 ⟨p,rfl,ht,hb⟩;have Ht:=Hj ht;clear ht))
   go_ret
   exact⟨p,rfl,by rw[HJ.out];exact Ht.out,hb⟩
  ·have d2:decide ((ht sl:Int)-(ht sr:Int)< -1)=false:=decide_eq_false (by omega)
   have HJ:Hid (fZ sl sr=.seq sl sr):=by
    show _=_
    simp only[fZ]
    rw[if_neg g1,if_neg g2]
   clear g1 g2
   go_enter Tryz.func204,Tryz.ntmps204
   go_wp2_with (first
    | (go_at_call 244;(with_reducible refine(pR sl pl ll _ H1.out).mono ?_);rintro e w' ⟨rfl,rfl⟩)
    | (go_at_call 244;(with_reducible refine(pR sr pr lr _ H2.out).mono ?_);rintro e w' ⟨rfl,rfl⟩)
    | (go_at_call 247;refine(sN b k v sl sr pl pr ll lr _ HK.out.1 HK.out.2 H1.out H2.out hs).mono ?_;rintro e w1 ⟨p,rfl,ht,hb⟩;have Ht:=Hj ht;clear ht))
   go_ret
   exact⟨p,rfl,by rw[HJ.out];exact Ht.out,hb⟩
def aJ (a b:ByteArray):Bool:=Op.bytesLess a.toList b.toList
theorem GK:∀l:List UInt8,Op.bytesLess l l=false:=by
 intro l
 induction l with
 | nil=>rfl
 | cons a l ih=>simp[Op.bytesLess,ih]
theorem Zi:∀x y z:List UInt8,Op.bytesLess x y=true→Op.bytesLess y z=true→Op.bytesLess x z=true:=by
 intro x
 induction x with
 | nil=>
  intro y z h1 h2
  cases y with
  | nil=>simp[Op.bytesLess] at h1
  | cons b y=>
   cases z with
   | nil=>simp[Op.bytesLess] at h2
   | cons c z=>rfl
 | cons a x ih=>
  intro y z h1 h2
  cases y with
  | nil=>simp[Op.bytesLess] at h1
  | cons b y=>
   cases z with
   | nil=>simp[Op.bytesLess] at h2
   | cons c z=>
    simp only[Op.bytesLess,Bool.or_eq_true,decide_eq_true_eq,Bool.and_eq_true,beq_iff_eq] at*
    rcases h1 with h1 | ⟨rfl,h1⟩
    ·rcases h2 with h2 | ⟨rfl,h2⟩
     ·exact .inl (UInt8.lt_trans h1 h2)
     ·exact .inl h1
    ·rcases h2 with h2 | ⟨rfl,h2⟩
     ·exact .inl h2
     ·exact .inr ⟨rfl,ih y z h1 h2⟩
theorem WZ:∀x y:List UInt8,Op.bytesLess x y=false→Op.bytesLess y x=false→x=y:=by
 intro x
 induction x with
 | nil=>
  intro y h1 h2
  cases y with
  | nil=>rfl
  | cons b y=>simp[Op.bytesLess] at h1
 | cons a x ih=>
  intro y h1 h2
  cases y with
  | nil=>simp[Op.bytesLess] at h2
  | cons b y=>
   simp only[Op.bytesLess,Bool.or_eq_false_iff,decide_eq_false_iff_not,Bool.and_eq_false_iff,beq_eq_false_iff_ne] at*
   have e:a=b:=by
    refine UInt8.toNat_inj.1 ?_
    have g1:=h1.1
    have g2:=h2.1
    rw[UInt8.lt_iff_toNat_lt] at g1 g2
    omega
   subst e
   rw[ih y (by simpa using h1.2) (by simpa using h2.2)]
theorem gB:rY aJ:=⟨fun a=>GK _,fun a b c h1 h2=>Zi _ _ _ h1 h2,fun a b h1 h2=>by
 have:=WZ _ _ h1 h2
 rw[ByteArray.toList_eq,ByteArray.toList_eq] at this
 exact ByteArray.ext (Array.toList_inj.1 this)⟩
theorem ne_of_lt {a b:ByteArray} (h:aJ a b=true):(a.toList==b.toList)=false:=by
 rw[beq_eq_false_iff_ne]
 intro e
 unfold aJ at h
 rw[e,GK] at h
 cases h
theorem AU (a:ByteArray) (w:World):Calls Tryz.prog 243 #[.string a] w fun e w'=>e=.returned (.bool false)∧w=w':=by
 go_enter Tryz.func243,Tryz.ntmps243
 go_wp2
 go_ret
 exact⟨rfl,rfl⟩
theorem OU (a b:ByteArray) (w:World) (h:aJ a b=true):Calls Tryz.prog 203 #[.string a,.string b] w fun e w'=>e=.returned (.int .i64 (-1))∧w=w':=by
 unfold aJ at h
 go_enter Tryz.func203,Tryz.ntmps203
 go_wp2_with (go_at_call 243;refine(AU _ _).mono ?_;rintro e w' ⟨rfl,rfl⟩)
 go_ret
 exact⟨rfl,rfl⟩
theorem OW (a b:ByteArray) (w:World) (h:aJ b a=true):Calls Tryz.prog 203 #[.string a,.string b] w fun e w'=>e=.returned (.int .i64 1)∧w=w':=by
 have h2:Op.bytesLess a.toList b.toList=false:=gB.SY h
 have h3:(a.toList==b.toList)=false:=by have:=ne_of_lt h;rwa [Bool.beq_comm] at this
 unfold aJ at h
 go_enter Tryz.func203,Tryz.ntmps203
 go_wp2_with (go_at_call 243;refine(AU _ _).mono ?_;rintro e w' ⟨rfl,rfl⟩)
 go_ret
 exact⟨rfl,rfl⟩
theorem cmp_eq (a:ByteArray) (w:World):Calls Tryz.prog 203 #[.string a,.string a] w fun e w'=>e=.returned (.int .i64 0)∧w=w':=by
 have h2:Op.bytesLess a.toList a.toList=false:=GK _
 go_enter Tryz.func203,Tryz.ntmps203
 go_wp2_with (go_at_call 243;refine(AU _ _).mono ?_;rintro e w' ⟨rfl,rfl⟩)
 go_ret
 exact⟨rfl,rfl⟩
set_option maxHeartbeats 4000000 in
theorem Zj (k:ByteArray) (v:OV):∀(n:Nat) (s:Code) (p:Option Addr) (l:List (ByteArray×OV)) (w:World),sz s≤n→T w s p l→aO aJ l→l.length≤1000000000→
  Calls Tryz.prog 146 #[.pointer p,(.string k),(.agg #[.int .i64 v.kind,.string v.space,.string v.name,.int .i64 v.ver,.slice v.A v.n v.c])] w fun e w'=>∃p',e=.returned (.pointer p')∧T w' (jK aJ k s l) p' (ins aJ k v l)∧Below w.heap.size w w':=by
 have hnil:∀w:World,Calls Tryz.prog 146 #[.pointer none,(.string k),(.agg #[.int .i64 v.kind,.string v.space,.string v.name,.int .i64 v.ver,.slice v.A v.n v.c])] w fun e w'=>∃p',e=.returned (.pointer p')∧T w' (jK aJ k .skip ([]:List (ByteArray×OV))) p' (ins aJ k v [])∧Below w.heap.size w w':=by
  intro w
  go_enter Tryz.func146,Tryz.ntmps146
  go_wp2
  go_ret
  have h:=heap_alloc_new (w.alloc (.cells #[.int .i64 v.kind,.string v.space,.string v.name,.int .i64 v.ver,.slice v.A v.n v.c] 37)) (.cells #[.string k,.int .i64 v.kind,.string v.space,.string v.name,.int .i64 v.ver,.slice v.A v.n v.c,.pointer none,.pointer none,.int .i64 1,.int .i64 1] 164)
  rw[show (w.alloc (.cells #[.int .i64 v.kind,.string v.space,.string v.name,.int .i64 v.ver,.slice v.A v.n v.c] 37)).heap.size=w.heap.size+1 by simp] at h
  exact⟨_,rfl,Tr.node (b:=w.heap.size+1) (sl:=.skip) (sr:=.skip) (pl:=none) (pr:=none) (ll:=[]) (lr:=[]) (k:=k) (v:=v) (NP.new h rfl rfl) (Tr.nil _) (Tr.nil _),((Below.refl _ w).alloc Kv _).alloc (by simp) _⟩
 intro n
 induction n with
 | zero=>
  intro s p l w hn a _ _
  rcases a.open with ⟨rfl,rfl,rfl⟩ | ⟨b,k,v,pl,pr,ll,lr,sl,sr,_,_,_,rfl,_,_⟩
  ·exact hnil w
  ·simp [sz] at hn
 | succ n ih=>
  intro s p l wz hn ttz qh hlen
  have Vb:=hnil wz
  obtain⟨w,hw⟩:∃W,W=wz.alloc (.cells #[.int .i64 v.kind,.string v.space,.string v.name,.int .i64 v.ver,.slice v.A v.n v.c] 37):=⟨_,rfl⟩
  have hbz:=(Below.refl wz.heap.size wz).alloc Kv (.cells #[.int .i64 v.kind,.string v.space,.string v.name,.int .i64 v.ver,.slice v.A v.n v.c] 37)
  have hrz:=heap_alloc_new wz (.cells #[.int .i64 v.kind,.string v.space,.string v.name,.int .i64 v.ver,.slice v.A v.n v.c] 37)
  rw[←hw] at hbz hrz
  have tt:T w s p l:=T.keep ttz (BK.of_below hbz)
  have QX:=Hj hbz
  have W9:Hid (VB w wz.heap.size v):=⟨Kq 0 hrz,Kq 1 hrz,Kq 2 hrz,Kq 3 hrz,Kq 4 hrz⟩
  obtain⟨vb0,vb1,xK,x9,yc⟩:=W9.out
  clear ttz hbz hrz
  rcases tt.open with ⟨rfl,rfl,rfl⟩ | ⟨b,a,x,pl,pr,ll,lr,sl,sr,rfl,hnd,rfl,rfl,al,ar⟩
  ·exact Vb
  have hll:=al.len
  have IH:=Hj ih
  clear ih hnil Vb
  obtain⟨c0,c1,c2,c3,c4,c5⟩:=NP.cells hnd
  have c0w:=c0
  rw[hw] at c0w
  simp only[List.length_append,List.length_cons] at hlen
  simp only[sz] at hn
  have HK:=Hj (And.intro c0 c1)
  have H1:=Hj al
  have H2:=Hj ar
  have HR:=Hj qh
  have hn1:sz sl≤n:=by omega
  have hn2:sz sr≤n:=by omega
  clear al ar qh hn hnd
  have Hk1:Hid (BK w w.drew):=BK.drew w
  have Hb1:Hid (Below w.heap.size w w.drew):=aV (Below.refl _ w)
  cases hlt:aJ k a with
  | true=>
   have HI:Hid (ins aJ k v (ll++(a,x)::lr)=ins aJ k v ll++(a,x)::lr):=OH hlt
   have HS:Hid (jK aJ k (.seq sl sr) (ll++(a,x)::lr)=fZ (jK aJ k sl ll) sr):=SK hll hlt
   have HL:Hid ((ins aJ k v ll).length≤ll.length+1):=by
    show _≤_
    rw[je]
    split<;>omega
   have HC:=Hj hlt
   clear hlt hll
   go_enter Tryz.func146,Tryz.ntmps146
   go_wp2_with (go_at_call 203;refine(OU k a _ HC.out).mono ?_;rintro e w' ⟨rfl,rfl⟩)
   rw[←hw]
   clear hw c0w
   go_region_held3 (fun w'=>w'.cell? ⟨b,6,none⟩=some (.pointer pl)∧w'.cell? ⟨b,7,none⟩=some (.pointer pr)∧w'.cell? ⟨wz.heap.size,0,none⟩=some (.int .i64 v.kind)∧w'.cell? ⟨wz.heap.size,1,none⟩=some (.string v.space)∧w'.cell? ⟨wz.heap.size,2,none⟩=some (.string v.name)∧w'.cell? ⟨wz.heap.size,3,none⟩=some (.int .i64 v.ver)∧w'.cell? ⟨wz.heap.size,4,none⟩=some (.slice v.A v.n v.c)) (go_keep)
    (first
     | (go_at_call 146;(with_reducible refine(IH.out sl pl ll _ hn1 (T.keep H1.out Hk1.out) HR.out.left (by omega)).mono ?_);rintro e w5 ⟨q5,rfl,t5,hb5⟩;have Hb5:=Hj (Hb1.out.trans (hb5.mono Hb1.out.size));have uX:=Hj t5;have qR:=Hj (Hk1.out.trans (BK.of_below hb5));have s1:=(Hk1.out.trans (BK.of_below hb5)).cell _ _ c2;have s2:=(Hk1.out.trans (BK.of_below hb5)).cell _ _ c3;have m0:=(Hk1.out.trans (BK.of_below hb5)).cell _ _ HK.out.1;have m1:=(VC.keep (Hk1.out.trans (BK.of_below hb5)) HK.out.2);obtain⟨u0,u1,u2,u3,u4⟩:=VB.keep (Hk1.out.trans (BK.of_below hb5)) W9.out;clear t5 hb5)
     | (go_at_call 204;(with_reducible refine(kZ b a x (jK aJ k sl ll) sr q5 pr _ lr w5 (And.intro m0 m1) uX.out (T.keep H2.out qR.out) (by have:=HL.out;omega)).mono ?_);rintro e w7 ⟨q7,rfl,t7,hb7⟩;have xO:=Hj (Hb5.out.trans (hb7.mono Hb5.out.size));have AQ:=Hj t7;have s1:=(BK.of_below hb7).cell _ _ (qR.out.cell _ _ c2);have s2:=(BK.of_below hb7).cell _ _ (qR.out.cell _ _ c3);obtain⟨o0,o1,o2,o3,o4⟩:=VB.keep (qR.out.trans (BK.of_below hb7)) W9.out;clear t7 hb7))
   go_wp2
   go_ret
   exact⟨q7,rfl,by rw[HI.out,HS.out];exact AQ.out,QX.out.trans (xO.out.mono QX.out.size)⟩
  | false=>
   cases hgt:aJ a k with
   | true=>
    have HI:Hid (ins aJ k v (ll++(a,x)::lr)=ll++(a,x)::ins aJ k v lr):=J6 gB HR.out hgt
    have HS:Hid (jK aJ k (.seq sl sr) (ll++(a,x)::lr)=fZ sl (jK aJ k sr lr)):=SL hll hlt hgt
    have HL:Hid ((ins aJ k v lr).length≤lr.length+1):=by
     show _≤_
     rw[je]
     split<;>omega
    have HC:=Hj hgt
    clear hlt hgt hll
    go_enter Tryz.func146,Tryz.ntmps146
    go_wp2_with (go_at_call 203;refine(OW k a _ HC.out).mono ?_;rintro e w' ⟨rfl,rfl⟩)
    rw[←hw]
    clear hw c0w
    go_region_held3 (fun w'=>w'.cell? ⟨b,6,none⟩=some (.pointer pl)∧w'.cell? ⟨b,7,none⟩=some (.pointer pr)∧w'.cell? ⟨wz.heap.size,0,none⟩=some (.int .i64 v.kind)∧w'.cell? ⟨wz.heap.size,1,none⟩=some (.string v.space)∧w'.cell? ⟨wz.heap.size,2,none⟩=some (.string v.name)∧w'.cell? ⟨wz.heap.size,3,none⟩=some (.int .i64 v.ver)∧w'.cell? ⟨wz.heap.size,4,none⟩=some (.slice v.A v.n v.c)) (go_keep)
     (first
      | (go_at_call 146;(with_reducible refine(IH.out sr pr lr _ hn2 (T.keep H2.out Hk1.out) HR.out.right.tail (by omega)).mono ?_);rintro e w5 ⟨q5,rfl,t5,hb5⟩;have Hb5:=Hj (Hb1.out.trans (hb5.mono Hb1.out.size));have uX:=Hj t5;have qR:=Hj (Hk1.out.trans (BK.of_below hb5));have s1:=(Hk1.out.trans (BK.of_below hb5)).cell _ _ c2;have s2:=(Hk1.out.trans (BK.of_below hb5)).cell _ _ c3;have m0:=(Hk1.out.trans (BK.of_below hb5)).cell _ _ HK.out.1;have m1:=(VC.keep (Hk1.out.trans (BK.of_below hb5)) HK.out.2);obtain⟨u0,u1,u2,u3,u4⟩:=VB.keep (Hk1.out.trans (BK.of_below hb5)) W9.out;clear t5 hb5)
      | (go_at_call 204;(with_reducible refine(kZ b a x sl (jK aJ k sr lr) pl q5 ll _ w5 (And.intro m0 m1) (T.keep H1.out qR.out) uX.out (by have:=HL.out;omega)).mono ?_);rintro e w7 ⟨q7,rfl,t7,hb7⟩;have xO:=Hj (Hb5.out.trans (hb7.mono Hb5.out.size));have AQ:=Hj t7;have s1:=(BK.of_below hb7).cell _ _ (qR.out.cell _ _ c2);have s2:=(BK.of_below hb7).cell _ _ (qR.out.cell _ _ c3);obtain⟨o0,o1,o2,o3,o4⟩:=VB.keep (qR.out.trans (BK.of_below hb7)) W9.out;clear t7 hb7))
    go_wp2
    go_ret
    exact⟨q7,rfl,by rw[HI.out,HS.out];exact AQ.out,QX.out.trans (xO.out.mono QX.out.size)⟩
   | false=>
    have HS:Hid (jK aJ k (.seq sl sr) (ll++(a,x)::lr)=.seq sl sr):=SN hll hlt hgt
    obtain rfl:=gB.tri k a hlt hgt
    have HI:Hid (ins aJ k v (ll++(k,x)::lr)=ll++(k,v)::lr):=OI gB HR.out
    clear hlt hgt hll
    go_enter Tryz.func146,Tryz.ntmps146
    go_wp2_with (go_at_call 203;refine(cmp_eq k _).mono ?_;rintro e w' ⟨rfl,rfl⟩)
    rw[←hw]
    clear hw c0w
    refine wp_region_still_tail 18 (by kernel_rfl) (by kernel_rfl) ?_
    simp only[List.take_succ_cons,List.take_zero,List.drop_succ_cons,List.drop_zero]
    iterate 18 still_step
    refine wpStill_nil ?_
    change wpList _ _ _ _ _ w.drew
    go_wp2
    go_ret
    refine⟨_,rfl,?_,QX.out.trans (((aV (Below.refl _ w)).alloc Kv _).mono QX.out.size)⟩
    rw[HI.out,HS.out]
    exact Tr.node (b:=w.heap.size) (NP.new (heap_alloc_new w.drew _) (by omega) (by omega)) (T.keep H1.out ((BK.drew w).trans (BK.of_below ((Below.refl _ _).alloc Kv _)))) (T.keep H2.out ((BK.drew w).trans (BK.of_below ((Below.refl _ _).alloc Kv _))))
open Go.RowKit
theorem T.none {w:World} {s:Code} {l:List (ByteArray×OV)} (a:T w s none l):s=.skip∧l=[]:=by
 rcases Tr.open a with ⟨h0,_,h1⟩ | ⟨b,k,v,pl,pr,ll,lr,sl,sr,h1,_⟩
 ·exact ⟨h0,h1⟩
 ·cases h1
theorem T.some {w:World} {s:Code} {q:Addr} {l:List (ByteArray×OV)} (a:T w s (some q) l):∃e r x y,l=e::r∧s=.seq x y:=by
 rcases Tr.open a with ⟨_,h0,_⟩ | ⟨b,k,v,pl,pr,ll,lr,sl,sr,h1,_,rfl,rfl,_⟩
 ·cases h0
 ·cases ll with
  | nil=>exact⟨_,_,_,_,rfl,rfl⟩
  | cons e ll=>exact⟨_,_,_,_,rfl,rfl⟩
set_option maxHeartbeats 4000000 in
theorem Tf:∀(n:Nat) (s:Code) (p:Option Addr) (e:ByteArray×OV) (l:List (ByteArray×OV)) (w:World),sz s≤n→T w s p (e::l)→l.length≤1000000000→
  Calls Tryz.prog 205 #[.pointer p] w fun en w'=>∃bf q,en=.returned (.tuple #[.pointer (some ⟨bf,0,none⟩),.pointer q])∧(w.cell? ⟨bf,0,none⟩=some (.string e.1)∧VC w bf e.2)∧T w' (sK s) q l∧Below w.heap.size w w':=by
 intro n
 induction n with
 | zero=>
  intro s p e l w hn a _
  rcases a.open with ⟨_,_,h0⟩ | ⟨b,k,v,pl,pr,ll,lr,sl,sr,_,_,_,rfl,_,_⟩
  ·cases h0
  ·simp [sz] at hn
 | succ n ih=>
  intro s p e l w hn tt hlen
  rcases tt.open with ⟨_,_,h0⟩ | ⟨b,a,x,pl,pr,ll,lr,sl,sr,rfl,hnd,hl0,rfl,al,ar⟩
  ·cases h0
  have IH:=Hj ih
  clear ih
  obtain⟨c0,c1,c2,c3,-,-⟩:=NP.cells hnd
  have HK:=Hj (And.intro c0 c1)
  have H2:=Hj ar
  simp only[sz] at hn
  have hn1:sz sl≤n:=by omega
  clear ar c0 c1 hnd hn
  cases pl with
  | none=>
   obtain⟨g0,g1⟩:=T.none al
   subst g0 g1
   injection hl0 with e1 e2
   subst e1 e2
   clear al
   go_enter Tryz.func205,Tryz.ntmps205
   go_wp2_with fail
   go_quiet (fail)
   go_wp2
   go_ret2
   exact⟨b,pr,rfl,HK.out,T.keep H2.out (BK.drewN w _),below_drewN (Below.refl _ w) _⟩
  | some q0=>
   obtain⟨e',r,sx,sy,rfl,rfl⟩:=T.some al
   rw[List.cons_append] at hl0
   injection hl0 with e1 e2
   subst e1 e2
   simp only[List.length_append,List.length_cons] at hlen
   have H1:=Hj al
   clear al
   have hne:∀W,(binOp .eql 144 (.pointer (some q0)) (.pointer none)).run Tryz.prog W=.ok (.bool false) W:=fun W=>by go_simp
   go_enter Tryz.func205,Tryz.ntmps205
   go_wp2_with (first
    | (go_at_call 205;refine(IH.out (.seq sx sy) (some q0) e r _ hn1 H1.out (by omega)).mono ?_;rintro en w5 ⟨bf,q5,rfl,hc5,t5,hb5⟩;have Hb5:=Hj hb5;have uX:=Hj t5;have Zk:=Hj hc5;have s2:=(BK.of_below hb5).cell _ _ c3;have m0:=(BK.of_below hb5).cell _ _ HK.out.1;have m1:=(VC.keep (BK.of_below hb5) HK.out.2);clear t5 hb5 hc5)
    | (go_at_call 204;refine(kZ b a x (sK (.seq sx sy)) sr q5 pr r lr w5 (And.intro m0 m1) uX.out (T.keep H2.out (BK.of_below Hb5.out)) (by omega)).mono ?_;rintro e w7 ⟨q7,rfl,t7,hb7⟩;have xO:=Hj (Hb5.out.trans (hb7.mono Hb5.out.size));have AQ:=Hj t7;clear t7 hb7))
   go_ret2
   exact⟨bf,q7,rfl,Zk.out,AQ.out,xO.out⟩
set_option maxHeartbeats 4000000 in
theorem Zl (k:ByteArray):∀(n:Nat) (s:Code) (p:Option Addr) (l:List (ByteArray×OV)) (w:World),sz s≤n→T w s p l→aO aJ l→l.length≤1000000000→
  Calls Tryz.prog 147 #[.pointer p,(.string k)] w fun e w'=>∃p',e=.returned (.pointer p')∧T w' (delS aJ k s l) p' (rem aJ k l)∧Below w.heap.size w w':=by
 have hnil:∀w:World,Calls Tryz.prog 147 #[.pointer none,(.string k)] w fun e w'=>∃p',e=.returned (.pointer p')∧T w' (delS aJ k .skip ([]:List (ByteArray×OV))) p' (rem aJ k [])∧Below w.heap.size w w':=by
  intro w
  go_enter Tryz.func147,Tryz.ntmps147
  go_wp2
  go_ret
  exact⟨none,rfl,Tr.nil _,Below.refl _ w⟩
 intro n
 induction n with
 | zero=>
  intro s p l w hn a _ _
  rcases a.open with ⟨rfl,rfl,rfl⟩ | ⟨b,k,v,pl,pr,ll,lr,sl,sr,_,_,_,rfl,_,_⟩
  ·exact hnil w
  ·simp [sz] at hn
 | succ n ih=>
  intro s p l w hn tt qh hlen
  rcases tt.open with ⟨rfl,rfl,rfl⟩ | ⟨b,a,x,pl,pr,ll,lr,sl,sr,rfl,hnd,rfl,rfl,al,ar⟩
  ·exact hnil w
  have hll:=al.len
  have IH:=Hj ih
  clear ih hnil
  obtain⟨c0,c1,c2,c3,c4,c5⟩:=NP.cells hnd
  simp only[List.length_append,List.length_cons] at hlen
  simp only[sz] at hn
  have HK:=Hj (And.intro c0 c1)
  have H1:=Hj al
  have H2:=Hj ar
  have HR:=Hj qh
  have hn1:sz sl≤n:=by omega
  have hn2:sz sr≤n:=by omega
  clear al ar qh hn hnd
  have Hk1:Hid (BK w w.drew):=BK.drew w
  have Hb1:Hid (Below w.heap.size w w.drew):=aV (Below.refl _ w)
  cases hlt:aJ k a with
  | true=>
   have HI:Hid (rem aJ k (ll++(a,x)::lr)=rem aJ k ll++(a,x)::lr):=OJ hlt
   have HS:Hid (delS aJ k (.seq sl sr) (ll++(a,x)::lr)=fZ (delS aJ k sl ll) sr):=SQ hll hlt
   have HL:Hid ((rem aJ k ll).length≤ll.length):=by
    show _≤_
    exact lH.length_le
   have HC:=Hj hlt
   clear hlt hll
   go_enter Tryz.func147,Tryz.ntmps147
   go_wp2_with (go_at_call 203;refine(OU k a _ HC.out).mono ?_;rintro e w' ⟨rfl,rfl⟩)
   go_region_held3 (fun w'=>w'.cell? ⟨b,6,none⟩=some (.pointer pl)∧w'.cell? ⟨b,7,none⟩=some (.pointer pr)) (go_keep)
    (first
     | (go_at_call 147;(with_reducible refine(IH.out sl pl ll _ hn1 (T.keep H1.out Hk1.out) HR.out.left (by omega)).mono ?_);rintro e w5 ⟨q5,rfl,t5,hb5⟩;have Hb5:=Hj (Hb1.out.trans (hb5.mono Hb1.out.size));have uX:=Hj t5;have qR:=Hj (Hk1.out.trans (BK.of_below hb5));have s1:=(Hk1.out.trans (BK.of_below hb5)).cell _ _ c2;have s2:=(Hk1.out.trans (BK.of_below hb5)).cell _ _ c3;have m0:=(Hk1.out.trans (BK.of_below hb5)).cell _ _ HK.out.1;have m1:=(VC.keep (Hk1.out.trans (BK.of_below hb5)) HK.out.2);clear t5 hb5)
     | (go_at_call 204;(with_reducible refine(kZ b a x (delS aJ k sl ll) sr q5 pr _ lr w5 (And.intro m0 m1) uX.out (T.keep H2.out qR.out) (by have:=HL.out;omega)).mono ?_);rintro e w7 ⟨q7,rfl,t7,hb7⟩;have xO:=Hj (Hb5.out.trans (hb7.mono Hb5.out.size));have AQ:=Hj t7;have s1:=(BK.of_below hb7).cell _ _ (qR.out.cell _ _ c2);have s2:=(BK.of_below hb7).cell _ _ (qR.out.cell _ _ c3);clear t7 hb7))
   go_wp2
   go_ret
   exact⟨q7,rfl,by rw[HI.out,HS.out];exact AQ.out,xO.out⟩
  | false=>
   cases hgt:aJ a k with
   | true=>
    have HI:Hid (rem aJ k (ll++(a,x)::lr)=ll++(a,x)::rem aJ k lr):=J7 gB HR.out hgt
    have HS:Hid (delS aJ k (.seq sl sr) (ll++(a,x)::lr)=fZ sl (delS aJ k sr lr)):=SS hll hlt hgt
    have HL:Hid ((rem aJ k lr).length≤lr.length):=by
     show _≤_
     exact lH.length_le
    have HC:=Hj hgt
    clear hlt hgt hll
    go_enter Tryz.func147,Tryz.ntmps147
    go_wp2_with (go_at_call 203;refine(OW k a _ HC.out).mono ?_;rintro e w' ⟨rfl,rfl⟩)
    go_region_held3 (fun w'=>w'.cell? ⟨b,6,none⟩=some (.pointer pl)∧w'.cell? ⟨b,7,none⟩=some (.pointer pr)) (go_keep)
     (first
      | (go_at_call 147;(with_reducible refine(IH.out sr pr lr _ hn2 (T.keep H2.out Hk1.out) HR.out.right.tail (by omega)).mono ?_);rintro e w5 ⟨q5,rfl,t5,hb5⟩;have Hb5:=Hj (Hb1.out.trans (hb5.mono Hb1.out.size));have uX:=Hj t5;have qR:=Hj (Hk1.out.trans (BK.of_below hb5));have s1:=(Hk1.out.trans (BK.of_below hb5)).cell _ _ c2;have s2:=(Hk1.out.trans (BK.of_below hb5)).cell _ _ c3;have m0:=(Hk1.out.trans (BK.of_below hb5)).cell _ _ HK.out.1;have m1:=(VC.keep (Hk1.out.trans (BK.of_below hb5)) HK.out.2);clear t5 hb5)
      | (go_at_call 204;(with_reducible refine(kZ b a x sl (delS aJ k sr lr) pl q5 ll _ w5 (And.intro m0 m1) (T.keep H1.out qR.out) uX.out (by have:=HL.out;omega)).mono ?_);rintro e w7 ⟨q7,rfl,t7,hb7⟩;have xO:=Hj (Hb5.out.trans (hb7.mono Hb5.out.size));have AQ:=Hj t7;have s1:=(BK.of_below hb7).cell _ _ (qR.out.cell _ _ c2);have s2:=(BK.of_below hb7).cell _ _ (qR.out.cell _ _ c3);clear t7 hb7))
    go_wp2
    go_ret
    exact⟨q7,rfl,by rw[HI.out,HS.out];exact AQ.out,xO.out⟩
   | false=>
    have HS:=Hj (SX (a:=sl) (b:=sr) (lr:=lr) (e:=(a,x)) hll hlt hgt)
    obtain rfl:=gB.tri k a hlt hgt
    have HI:Hid (rem aJ k (ll++(k,x)::lr)=ll++lr):=OM gB HR.out
    clear hlt hgt hll
    cases pr with
    | none=>
     obtain⟨g0,g1⟩:=T.none H2.out
     subst g0 g1
     clear H2
     go_enter Tryz.func147,Tryz.ntmps147
     go_wp2_with (go_at_call 203;refine(cmp_eq k _).mono ?_;rintro e w' ⟨rfl,rfl⟩)
     go_ret
     exact⟨pl,rfl,by rw[HI.out,List.append_nil,HS.out];exact H1.out,Below.refl _ w⟩
    | some q0=>
     obtain⟨e',r,sx,sy,rfl,rfl⟩:=T.some H2.out
     simp only[List.length_cons] at hlen
     go_enter Tryz.func147,Tryz.ntmps147
     go_wp2_with (first
      | (go_at_call 203;refine(cmp_eq k _).mono ?_;rintro e w' ⟨rfl,rfl⟩)
      | (go_at_call 205;refine(Tf n (.seq sx sy) (some q0) e' r _ hn2 H2.out (by omega)).mono ?_;rintro en w5 ⟨bf,q5,rfl,hc5,t5,hb5⟩;have Hb5:=Hj hb5;have uX:=Hj t5;have s1:=(BK.of_below hb5).cell _ _ c2;have s2:=(BK.of_below hb5).cell _ _ c3;have m0:=(BK.of_below hb5).cell _ _ hc5.1;have m1:=(VC.keep (BK.of_below hb5) hc5.2);clear t5 hb5 hc5)
      | (go_at_call 204;refine(kZ bf e'.1 e'.2 sl (sK (.seq sx sy)) pl q5 ll r w5 (And.intro m0 m1) (T.keep H1.out (BK.of_below Hb5.out)) uX.out (by omega)).mono ?_;rintro e w7 ⟨q7,rfl,t7,hb7⟩;have xO:=Hj (Hb5.out.trans (hb7.mono Hb5.out.size));have AQ:=Hj t7;clear t7 hb7))
     go_ret
     exact⟨q7,rfl,by rw[HI.out,HS.out];exact AQ.out,xO.out⟩
/-- What find hands back for an entry's value. -/
def Found (w:World) (k:ByteArray) (r:Option OV) (q:Option Addr):Prop:=
 match r with
 | none=>q=none
 | some v=>∃b,q=some ⟨b,0,none⟩∧w.cell? ⟨b,0,none⟩=some (.string k)∧VC w b v
set_option maxHeartbeats 4000000 in
theorem OY (k:ByteArray) (s:Code) (p:Option Addr) (l:List (ByteArray×OV)) (w:World) (a:T w s p l) (qh:aO aJ l):
  Calls Tryz.prog 93 #[.pointer p,(.string k)] w fun e w'=>∃q,e=.returned (.pointer q)∧Found w k (look aJ k l) q∧w=w':=by
 have HA:=Hj a
 have HR:=Hj qh
 clear a qh
 go_enter Tryz.func93,Tryz.ntmps93
 go_wp2_with fail
 go_loopg [0] (sz s) (fun g s0 wr=>∃(q:Option Addr) (l':List (ByteArray×OV)) (s':Code),s0=.pointer q∧T w s' q l'∧aO aJ l'∧look aJ k l'=look aJ k l∧sz s'≤g∧wr=w)
 case atStart=>exact⟨p,l,s,rfl,HA.out,HR.out,rfl,Nat.le_refl _,rfl⟩
 case round=>
  obtain⟨q,l',s',rfl,ht,hr',hlk,hg,rfl⟩:=hrel
  rcases Tr.open ht with ⟨rfl,rfl,rfl⟩ | ⟨b,a,x,pl,pr,ll,lr,sl,sr,rfl,hn,rfl,rfl,al,ar⟩
  ·have Zm:=Hj hlk
   clear hlk ht hr' hg
   go_wp2
   go_ret
   exact⟨none,rfl,by rw[←Zm.out];rfl,rfl⟩
  obtain⟨c0,c1,c2,c3,-,-⟩:=NP.cells hn
  have H1:=Hj al
  have H2:=Hj ar
  have Zm:=Hj hlk
  have Ti:=Hj hr'
  simp only[sz] at hg
  clear hlk ht hr' al ar hn
  cases hlt:aJ k a with
  | true=>
   have HC:=Hj hlt
   have q1:(a.toList==k.toList)=false:=by have:=ne_of_lt hlt;rwa [Bool.beq_comm] at this
   have q2:Op.bytesLess k.toList a.toList=true:=hlt
   clear hlt
   go_wp2
   go_roundg (gk-1)
   case measure=>omega
   case rel=>exact⟨pl,ll,sl,rfl,H1.out,Ti.out.left,by rw[←Zm.out,J8 HC.out],by omega,rfl⟩
  | false=>
   cases hgt:aJ a k with
   | true=>
    have HC:=Hj hgt
    have q1:(a.toList==k.toList)=false:=ne_of_lt hgt
    have q2:Op.bytesLess k.toList a.toList=false:=gB.SY hgt
    clear hlt hgt
    go_wp2
    go_roundg (gk-1)
    case measure=>omega
    case rel=>exact⟨pr,lr,sr,rfl,H2.out,Ti.out.right.tail,by rw[←Zm.out,GH gB Ti.out HC.out],by omega,rfl⟩
   | false=>
    obtain rfl:=gB.tri k a hlt hgt
    clear hlt hgt
    go_wp2
    go_ret
    exact⟨_,rfl,by rw[←Zm.out,rZ gB Ti.out];exact⟨b,rfl,c0,c1⟩,rfl⟩
end Go.Proofs.YtdhbpajamlfacaaGreatDoor.SO
