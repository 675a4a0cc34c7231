/- StoreLists, in plain words: what lies in the row of a kind and a namespace; what calls leave of it. No program in sight. -/
import Derived.Test.YtdhbpajamlfacaaGreatDoorRX
import Derived.Test.YtdhbpajamlfacaaGreatDoorLst
import Derived.WideMake
import Derived.MapKept
import Derived.Test.YtdhbpajamlfacaaGreatDoorDiskOps
import Derived.Test.YtdhbpajamlfacaaGreatDoorZeros
import Derived.Deep.LoopGhost
import Derived.Deep.RegionHeld3
import Derived.Deep.RegionLaw
import Derived.StillTailTactics
set_option maxHeartbeats 8000000
set_option maxRecDepth 100000
namespace Go.Proofs.YtdhbpajamlfacaaGreatDoor
open Go.RowKit SO
theorem QS:∀(p x:List UInt8),Op.bytesLess x (p++[47])=false→Op.bytesLess x (p++[48])=true→∃r,x=p++47::r
 | [],[],h,_=>by simp[Op.bytesLess] at h
 | [],c::t,h1,h2=>by
  simp only[List.nil_append,Op.bytesLess,Bool.and_false,Bool.or_false,decide_eq_false_iff_not,decide_eq_true_eq] at h1 h2
  have hc:c=47:=by
   rw[UInt8.lt_iff_toNat_lt] at h1 h2
   have e1:(47:UInt8).toNat=47:=rfl
   have e2:(48:UInt8).toNat=48:=rfl
   exact UInt8.toNat_inj.1 (by omega)
  exact⟨t,by rw[hc];rfl⟩
 | b::p,[],h,_=>by simp[Op.bytesLess] at h
 | b::p,c::t,h1,h2=>by
  simp only[List.cons_append,Op.bytesLess,Bool.or_eq_false_iff,Bool.or_eq_true,Bool.and_eq_true,Bool.and_eq_false_iff] at h1 h2
  obtain⟨h3,h4⟩:=h1
  rcases h2 with h2 | ⟨h2,h5⟩
  ·rw [h3] at h2;cases h2
  ·rcases h4 with h4 | h4
   ·rw [h2] at h4;cases h4
   ·obtain ⟨r,hr⟩:=QS p t h4 h5
    exact⟨r,by rw[hr,eq_of_beq h2];rfl⟩
theorem yU:∀(p a b:List UInt8),Op.bytesLess (p++a) (p++b)=Op.bytesLess a b
 | [],_,_=>rfl
 | c::p,a,b=>by
  simp only[List.cons_append,Op.bytesLess,beq_self_eq_true,Bool.true_and,yU p a b]
  have:decide (c<c)=false:=by simp
  rw[this,Bool.false_or]
theorem Gl {k:Nat} (h:k≤7):jh (k:Int)=[UInt8.ofNat (48+k)]:=by
 unfold jh
 rw[aG (by omega),show ((k:Int)).toNat=k from rfl,lW (by omega)]
 rfl
theorem Gm {l:List UInt8} (h:eF l=true):∀c∈l,c≠47:=by
 unfold eF at h
 simp only[Bool.and_eq_true,List.all_eq_true] at h
 intro c hc e
 have:=h.2.2.2.2 c hc
 rw[e] at this
 exact absurd this (by decide)
def sJ (s:ByteArray):Prop:=∀c∈s.data.toList,c≠47
theorem oO {kind:Int} {space name:ByteArray} (h:dJ kind space name=true):sJ space:=by
 unfold dJ at h
 rw[jA] at h
 have h1:=h.1
 split at h1
 ·exact Gm h1
 ·have h2:=rG h1
  intro c hc
  have h3:space.data.toList.length=0:=by rw[size_data];exact h2
  rw[List.length_eq_zero_iff.1 h3] at hc
  cases hc
theorem Xz:∀{s t n r:List UInt8},(∀c∈s,c≠47)→(∀c∈t,c≠47)→t++47::n=s++47::r→t=s∧n=r
 | [],[],_,_,_,_,h=>⟨rfl,by simpa using h⟩
 | [],b::t,_,_,_,h2,h=>by
  simp only[List.cons_append,List.nil_append,List.cons.injEq] at h
  exact absurd h.1 (h2 b (by simp))
 | a::s,[],_,_,h1,_,h=>by
  simp only[List.cons_append,List.nil_append,List.cons.injEq] at h
  exact absurd h.1.symm (h1 a (by simp))
 | a::s,b::t,_,_,h1,h2,h=>by
  simp only[List.cons_append,List.cons.injEq] at h
  obtain⟨e1,e2⟩:=Xz (fun c hc=>h1 c (by simp[hc])) (fun c hc=>h2 c (by simp[hc])) h.2
  exact⟨by rw[h.1,e1],e2⟩
theorem U9 {a b:Nat} (ha:a≤7) (hb:b≤7) (h:UInt8.ofNat (48+a)=UInt8.ofNat (48+b)):a=b:=by
 have:=bJ UInt8.toNat h
 simp only[UInt8.toNat_ofNat'] at this
 omega
theorem Jr {o:aC} (ho:o.Ok) {K:Nat} {S:ByteArray} (hK:K≤7) (hS:sJ S) (h1:aS (aW o) (dG (gU (K:Int) S))=false) (h2:aS (aW o) (dG (IG (K:Int) S))=true):o.kind=K∧o.space=S:=by
 obtain⟨p1,p2,p3,p4,p5⟩:=ho.parts
 unfold aS at h1 h2
 have e1:gU (K:Int) S=(jh (K:Int)++[47]++S.data.toList)++[47]:=rfl
 have e2:IG (K:Int) S=(jh (K:Int)++[47]++S.data.toList)++[48]:=rfl
 rw[aO,e1] at h1
 rw[aO,e2] at h2
 obtain⟨r,hr⟩:=QS _ _ h1 h2
 unfold aW jr at hr
 rw[aO] at hr
 unfold gU at hr
 rw[Gl p2,Gl hK] at hr
 simp only[List.append_assoc,List.cons_append,List.nil_append,List.cons.injEq,true_and] at hr
 obtain⟨e3,e4⟩:=Xz hS (oO ho.named) hr.2
 exact⟨U9 p2 hK hr.1,kG (Array.toList_inj.1 e3)⟩
theorem Y0 (K:Int) (S:ByteArray):aS (dG (gU K S)) (dG (IG K S))=true:=by
 unfold aS gU IG
 rw[aO,aO,yU]
 rfl
section
variable {κ ν:Type} {lt:κ→κ→Bool}
theorem BZ (L:vZ lt) {k t0:κ} (hkt:lt k t0=true):∀l:List (κ×ν),(rank lt t0 l:Int)-(rank lt k l:Int)=((span lt k t0 l).length:Int)
 | []=>rfl
 | e::l=>by
  have ih:=BZ L hkt l
  unfold rank span at*
  simp only[List.filter_cons]
  cases h1:lt e.1 k with
  | true=>
   have h2:=L.tr _ _ _ h1 hkt
   rw[h2]
   simp only[if_true,List.length_cons,Bool.not_true,Bool.false_and,Bool.false_eq_true,if_false]
   omega
  | false=>
   cases h2:lt e.1 t0 with
   | true=>
    simp only[if_true,List.length_cons,Bool.not_false,Bool.true_and,Bool.false_eq_true,if_false]
    omega
   | false=>
    simp only[Bool.not_false,Bool.true_and,Bool.false_eq_true,if_false]
    omega
end
theorem Gn (M:bQ) (K:Int) (S:ByteArray):jW M K S=((span aS (dG (gU K S)) (dG (IG K S)) M.tab).length:Int):=BZ dh (Y0 K S) M.tab
def yZ (o:aC) (kind:Int) (space name:ByteArray):Prop:=(o.kind:Int)=kind∧o.space=space∧o.name=name
/-- r is the place of that object, or -1. -/
def LU (l:List aC) (kind:Int) (space name:ByteArray) (r:Int):Prop:=(r= -1∧∀o∈l,¬yZ o kind space name)∨∃(i:Nat) (o:aC),r=(i:Int)∧l[i]?=some o∧yZ o kind space name
theorem yZ.key {o:aC} {kind:Int} {space name:ByteArray} (h:yZ o kind space name):aW o=jr kind space name:=by
 obtain⟨rfl,rfl,rfl⟩:=h
 rfl
theorem nX {κ ν:Type} {lt:κ→κ→Bool} (L:vZ lt) {k:κ} {v:ν}:∀{l:List (κ×ν)},look lt k l=some v→(k,v)∈l
 | [],h=>by simp[look] at h
 | x::l,h=>by
  unfold look at h
  split at h
  ·cases h
  ·split at h
   ·exact gK _ (nX L h)
   ·rename_i h1 h2
    injection h with h
    obtain rfl:=L.tri k x.1 (by simpa using h1) (by simpa using h2)
    subst h
    exact List.mem_cons_self
theorem oP {M:bQ} (h:M.Ok) {kind:Int} {space name:ByteArray} {r:Int} (hf:LU (M.tab.map fun x=>x.2) kind space name r):
  (r= -1∧getM M kind space name=none)∨∃(i:Nat) (o:aC),r=(i:Int)∧M.tab[i]?=some (aW o,o)∧getM M kind space name=some o∧aW o=jr kind space name:=by
 rcases hf with ⟨rfl,hn⟩ | ⟨i,o,rfl,hi,hk⟩
 ·left
  refine⟨rfl,?_⟩
  unfold getM
  cases hl:look aS (jr kind space name) M.tab with
  | none=>rfl
  | some o=>
   show (if _ then _ else _)=_
   split
   ·rename_i hks
    have hm:=nX dh hl
    have hk:=(h.tab.each _ hm).1
    refine absurd ⟨hks.1,hks.2,?_⟩ (hn o (bW.2 ⟨_,hm,rfl⟩))
    have e:jr kind space name=jr (o.kind:Int) o.space o.name:=hk
    rw[hks.1,hks.2] at e
    have e:=bJ ByteArray.toList e
    unfold jr at e
    rw[aO,aO] at e
    exact(kG (Array.toList_inj.1 (List.append_cancel_left e))).symm
   ·rfl
 ·right
  rw[dK] at hi
  cases hx:M.tab[i]? with
  | none=>rw[hx] at hi;cases hi
  | some x=>
   rw[hx] at hi
   injection hi with hi
   subst hi
   have hm:=gJ hx
   have hkx:=(h.tab.each _ hm).1
   refine⟨i,x.2,rfl,by rw[←hkx];exact hx,?_,hk.key⟩
   have hl:=fF dh h.tab.tH hx
   rw[hkx,hk.key] at hl
   unfold getM
   rw[hl]
   show (if _ then _ else _)=_
   rw[aF ⟨hk.1,hk.2.1⟩]
theorem RF (p n:List UInt8):Op.bytesLess (p++47::n) (p++[47])=false∧Op.bytesLess (p++47::n) (p++[48])=true:=by
 rw[yU,yU]
 refine⟨?_,rfl⟩
 cases n with
 | nil=>rfl
 | cons a n=>simp[Op.bytesLess]
theorem Zc {M:bQ} (h:M.Ok) {K:Nat} {S:ByteArray} (hK:K≤7) (hS:sJ S) {p:aC→Bool} (hp:∀o,p o=decide (o.kind=K∧o.space=S)):(((M.tab.map fun x=>x.2).filter p).length:Int)=jW M (K:Int) S:=by
 rw[Gn]
 unfold span
 rw[List.filter_map,aX]
 congr 2
 refine List.filter_congr fun x hx=> ?_
 obtain⟨hk,hok,-⟩:=h.tab.each x hx
 show p x.2=_
 rw[hp,Bool.eq_iff_iff,lD,jA,Bool.not_eq_true',hk]
 refine⟨fun⟨e1,e2⟩=> ?_,fun⟨e1,e2⟩=>Jr hok hK hS e1 e2⟩
 unfold aS aW jr
 rw[e1,e2,aO,aO,aO]
 have h1:gU (K:Int) S++x.2.name.data.toList=(jh (K:Int)++[47]++S.data.toList)++47::x.2.name.data.toList:=by simp[gU]
 rw[h1]
 exact RF _ _
section
variable {κ ν:Type} {lt:κ→κ→Bool}
theorem LW (L:vZ lt) {k:κ} {v:ν} {l:List (κ×ν)} (h:∀e∈l,lt e.1 k=true):ins lt k v l=l++[(k,v)]:=by
 have:=uw L (v:=v) (r:=[]) h
 rw[List.append_nil] at this
 exact this
theorem Rx (L:vZ lt) {k:κ} {v:ν} {x:κ×ν} {l:List (κ×ν)} (h:∀e∈l,lt e.1 k=true) (hx:lt x.1 k=false):ins lt k v (l++[x])=l++(k,v)::(if lt k x.1=true then [x] else []):=by
 rw[uw L h]
 unfold ins
 cases hk:lt k x.1 with
 | true=>rfl
 | false=>rw[hx];rfl
theorem Gy (L:vZ lt) {k:κ} {v:ν} {x:κ×ν}:∀{l:List (κ×ν)},(∃e∈l,lt e.1 k=false)→lt k x.1=true→ins lt k v (l++[x])=ins lt k v l++[x]
 | [],h,_=>by obtain⟨e,he,_⟩:=h;cases he
 | y::l,h,hx=>by
  simp only[List.cons_append,ins]
  split
  ·rfl
  ·split
   ·rename_i h1 h2
    have h':∃e∈l,lt e.1 k=false:=by
     obtain⟨e,he,hk⟩:=h
     rcases fC.1 he with e1 | he
     ·rw [e1,h2] at hk;cases hk
     ·exact ⟨e,he,hk⟩
    rw[Gy L h' hx]
    rfl
   ·rfl
theorem Zg (L:vZ lt) {k:κ} {v:ν} {l:List (κ×ν)} (h:aT lt l) {i:Nat} (hi:l[i]?=some (k,v)):rem lt k l=l.take i++l.drop (i+1):=by
 obtain⟨hlt,e⟩:=fA.1 hi
 have hs:l=l.take i++(k,v)::l.drop (i+1):=by rw[←e,List.getElem_cons_drop];exact(rE i l).symm
 have hr:aT lt (l.take i++(k,v)::l.drop (i+1)):=by rw[←hs];exact h
 have:=yV L (k:=k) (l:=l.take i) (r:=(k,v)::l.drop (i+1)) fun e he=>hr.below e he
 rw[←hs] at this
 rw[this]
 simp[rem,L.Ut]
end
theorem ku {w:World} {q base:Nat} (h:w.heap[q]?=some (.cells #[] 5 (0,0))) (hb:base≤q):OB w base (.slice (some ⟨q,0,none⟩) 0 0) []:=
 ⟨rfl,.inr ⟨q,0,0,#[],rfl,hb,h,bZ _,by unfold maxLen;omega,by simp,rfl⟩⟩
theorem dH {w wa w7:World} {q:Nat} {n c:Nat} (hb:Bw w wa) (hg:wa.grownBy w7 (Value.slice (some ⟨q,0,none⟩) n c).ownBlock) (hq:w.heap.size≤q):Bw w w7:=
 hb.grown hg hb.size fun k hk=>by injection hk with hk;subst hk;exact hq
theorem aP (w:World) (o1 o2:Obj):((w.alloc o1).alloc o2).heap[w.heap.size]?=some o1∧((w.alloc o1).alloc o2).heap[w.heap.size+1]?=some o2∧Bw w ((w.alloc o1).alloc o2):=by
 have hs:(w.alloc o1).heap.size=w.heap.size+1:=by simp
 refine⟨?_,?_,((aj _ w).alloc Kv _).alloc (by simp) _⟩
 · rw[heap_alloc_old (w.alloc o1) o2 (by rw[hs];omega)]
   exact aA w o1
 · rw[←hs]
   exact aA (w.alloc o1) o2
theorem FU (w:World) (o1 o2 o3 o4:Obj):((((w.alloc o1).alloc o2).alloc o3).alloc o4).heap[w.heap.size]?=some o1∧((((w.alloc o1).alloc o2).alloc o3).alloc o4).heap[w.heap.size+1]?=some o2∧((((w.alloc o1).alloc o2).alloc o3).alloc o4).heap[w.heap.size+1+1]?=some o3∧((((w.alloc o1).alloc o2).alloc o3).alloc o4).heap[w.heap.size+3]?=some o4∧((((w.alloc o1).alloc o2).alloc o3).alloc o4).heap.size=w.heap.size+4∧Bw w ((((w.alloc o1).alloc o2).alloc o3).alloc o4):=by
 have s1:(w.alloc o1).heap.size=w.heap.size+1:=by simp
 have s2:((w.alloc o1).alloc o2).heap.size=w.heap.size+1+1:=by simp
 have s3:(((w.alloc o1).alloc o2).alloc o3).heap.size=w.heap.size+3:=by simp
 refine⟨?_,?_,?_,?_,by simp,((((aj _ w).alloc Kv _).alloc (by simp) _).alloc (by simp;omega) _).alloc (by simp;omega) _⟩
 · rw[heap_alloc_old _ o4 (by omega),heap_alloc_old _ o3 (by omega),heap_alloc_old _ o2 (by omega)];exact aA w o1
 · rw[heap_alloc_old _ o4 (by omega),heap_alloc_old _ o3 (by omega),←s1];exact aA _ o2
 · rw[heap_alloc_old _ o4 (by omega),←s2];exact aA _ o3
 · rw[←s3];exact aA _ o4
/-- What stands beneath the new area's block. -/
structure qp (w W:World) (arr Ph:Array Value):Prop where
 a:W.heap[w.heap.size]?=some (.cells arr 77 (0,0))
 c:W.heap[w.heap.size+1]?=some (.cells Ph 253 (0,0))
 r:W.heap[w.heap.size+1+1]?=some (.cells #[.slice none 0 0,.slice none 0 0,.slice none 0 0] 77 (0,0))
 bel:Bw w W
 size:w.heap.size+4≤W.heap.size
theorem qp.next {w W W':World} {arr Ph:Array Value} (h:qp w W arr Ph) (hb:Below (w.heap.size+3) W W'):qp w W' arr Ph:=
 ⟨(hb.block _ (by omega)).trans h.a,(hb.block _ (by omega)).trans h.c,(hb.block _ (by omega)).trans h.r,h.bel.trans (hb.mono (by omega)),Cz h.size hb.size⟩
/-- v reads as some n bytes; its block stands in O. -/
def LS (w:World) (O:Nat→Prop) (v:Value) (n:Nat):Prop:=(∃l:List UInt8,l.length=n∧OB w 0 v l)∧∀q,v.ownBlock=some q→O q
theorem LS.of {w:World} {base n:Nat} {v:Value} {l:List UInt8} (h:OB w base v l) (hl:l.length=n):LS w (fun q=>base≤q∧q<w.heap.size) v n:=⟨⟨l,hl,OB.mono h (bU _)⟩,fun q hq=>OB.lt h q hq⟩
section
variable {w w':World} {O X:Nat→Prop} {v:Value} {n:Nat}
theorem LS.form (h:LS w O v n):∃A c l,v=.slice A n c∧n≤c∧c≤maxLen∧l.length=n∧RB w A n l:=by
 obtain⟨⟨l,rfl,h⟩,-⟩:=h
 obtain⟨A,c,e,h1,h2,h3⟩:=h.form
 exact⟨A,c,l,e,h1,h2,rfl,h3⟩
theorem LS.lt (h:LS w O v n) {q:Nat} (hq:v.ownBlock=some q):q<w.heap.size:=let ⟨⟨_,_,h⟩,_⟩:=h;(OB.lt h q hq).2
theorem LS.mono (h:LS w O v n) (ho:∀q,q<w.heap.size→O q→X q):LS w X v n:=⟨h.1,fun q hq=>ho q (h.lt hq) (h.2 q hq)⟩
theorem LS.fr (h:LS w O v n) (hf:Fr X w w') (hn:∀q,O q→¬X q):LS w' O v n:=let ⟨⟨l,e,h1⟩,h2⟩:=h;⟨⟨l,e,ah.kept h1 hf fun q hq=>hn q (h2 q hq)⟩,h2⟩
theorem LS.below (h:LS w O v n) (hb:Bw w w'):LS w' O v n:=h.fr (X:=fun _=>False) (Fr.of_below hb) fun _ _ x=>x
/-- A block of another type has turned. -/
theorem LS.stay {g:Nat} {cs:Array Value} {T:TypeId} {f:Nat×Nat} (h:LS w O v n) (hg:w.heap[g]?=some (.cells cs T f)) (hT:T≠5) (hf:Fr (fun q=>q=g) w w'):LS w' O v n:=by
 obtain⟨⟨l,e,h1⟩,h2⟩:=h
 refine⟨⟨l,e,ah.kept h1 hf fun q hq x=> ?_⟩,h2⟩
 subst x
 obtain⟨cur,hc⟩:=au h1 hq
 exact hT (ak hg hc)
end
theorem qp.Ph {w W:World} {ar ch:Array Value} (h:qp w W ar ch) {x0 x1 x2 x3:Value} (e:ch=#[x0,x1,x2,x3]):W.cell? ⟨w.heap.size+1,0,none⟩=some x0∧W.cell? ⟨w.heap.size+1,1,none⟩=some x1∧W.cell? ⟨w.heap.size+1,2,none⟩=some x2∧W.cell? ⟨w.heap.size+1,3,none⟩=some x3:=by
 subst e
 exact⟨Kq 0 h.c,Kq 1 h.c,Kq 2 h.c,Kq 3 h.c⟩
theorem qp.arr {w W:World} {ar ch:Array Value} (h:qp w W ar ch) {x0 x1 x2:Value} (e:ar=#[x0,x1,x2]):W.cell? ⟨w.heap.size,0,none⟩=some x0∧W.cell? ⟨w.heap.size,1,none⟩=some x1∧W.cell? ⟨w.heap.size,2,none⟩=some x2∧(∀k,W.frozen? ⟨w.heap.size,k,none⟩=false)∧
  W.cell? ⟨w.heap.size+1+1,0,none⟩=some (.slice none 0 0)∧W.cell? ⟨w.heap.size+1+1,1,none⟩=some (.slice none 0 0)∧W.cell? ⟨w.heap.size+1+1,2,none⟩=some (.slice none 0 0)∧(∀k,W.frozen? ⟨w.heap.size+1+1,k,none⟩=false):=by
 subst e
 exact⟨Kq 0 h.a,Kq 1 h.a,Kq 2 h.a,fun k=>Kj h.a,Kq 0 h.r,Kq 1 h.r,Kq 2 h.r,fun k=>Kj h.r⟩
/-- The end: the area is stored, the array given back. -/
theorem jI {w W:World} {ar ch:Array Value} {x0 x1 x2 v:Value} {l:List UInt8} {i:Nat} (h:qp w W ar ch) (ho:OB W (w.heap.size+3) v l):
  OB ((((W.setCell ⟨w.heap.size,i,none⟩ v).setCell ⟨w.heap.size+1+1,0,none⟩ x0).setCell ⟨w.heap.size+1+1,1,none⟩ x1).setCell ⟨w.heap.size+1+1,2,none⟩ x2) w.heap.size v l∧
  Bw w ((((W.setCell ⟨w.heap.size,i,none⟩ v).setCell ⟨w.heap.size+1+1,0,none⟩ x0).setCell ⟨w.heap.size+1+1,1,none⟩ x1).setCell ⟨w.heap.size+1+1,2,none⟩ x2)∧
  ((((W.setCell ⟨w.heap.size,i,none⟩ v).setCell ⟨w.heap.size+1+1,0,none⟩ x0).setCell ⟨w.heap.size+1+1,1,none⟩ x1).setCell ⟨w.heap.size+1+1,2,none⟩ x2).heap[w.heap.size+1+1]?=some (.cells #[x0,x1,x2] 77 (0,0)):=by
 have hF:=((((Fr.refl (fun k=>k<w.heap.size+3∧w.heap.size≤k) W).setCell (p:=⟨w.heap.size,i,none⟩) (fun _=>⟨by show w.heap.size<_;omega,bZ _⟩) v).setCell (p:=⟨w.heap.size+1+1,0,none⟩) (fun _=>⟨by show w.heap.size+1+1<_;omega,by show w.heap.size≤w.heap.size+1+1;omega⟩) x0).setCell (p:=⟨w.heap.size+1+1,1,none⟩) (fun _=>⟨by show w.heap.size+1+1<_;omega,by show w.heap.size≤w.heap.size+1+1;omega⟩) x1).setCell (p:=⟨w.heap.size+1+1,2,none⟩) (fun _=>⟨by show w.heap.size+1+1<_;omega,by show w.heap.size≤w.heap.size+1+1;omega⟩) x2
 refine⟨(ah.kept ho hF fun k hk e=> ?_).mono fun k hk=> ?_,h.bel.trans (hF.below (by have:=h.size;omega) fun k _ e=>e.2),?_⟩
 · have:=(OB.lt ho k hk).1;omega
 · have:=(OB.lt ho k hk).1;omega
 · have hr:(W.setCell ⟨w.heap.size,i,none⟩ v).heap[w.heap.size+1+1]?=some (.cells #[.slice none 0 0,.slice none 0 0,.slice none 0 0] 77 (0,0)):=(Below.heap_setCell W ⟨w.heap.size,i,none⟩ v (w.heap.size+1+1) (by show w.heap.size+1+1≠w.heap.size;omega)).trans h.r
   exact aI _ _ 2 _ _ x2 (aI _ _ 1 _ _ x1 (aI _ _ 0 _ _ x0 hr))
theorem nS:(Tryz.prog.info? 77).map (·.size)=some 3:=by kernel_rfl
/-- A change that cuts all, or writes behind the end. -/
theorem YN (i p:Int) (hi:i=0∨i=1∨i=2) (A0 A1 A2 Ai B:Option Addr) (n0 n1 n2 ni k0 k1 k2 ki n kb:Nat) (cuts:Bool) (bs fi:List UInt8) (w:World)
  (h0:i=0→Ai=A0∧ni=n0∧ki=k0) (h1:i=1→Ai=A1∧ni=n1∧ki=k1) (h2:i=2→Ai=A2∧ni=n2∧ki=k2)
  (hf:RB w Ai ni fi) (hl:ni≤1048576) (hc:RB w B n bs) (hn:cuts=true∨ni+n≤1048576) (hp:p=if cuts=true then 0 else (ni:Int)):
  Cl 180 #[.agg #[.slice A0 n0 k0,.slice A1 n1 k1,.slice A2 n2 k2],.agg #[.int .i64 i,.int .i64 p,.slice B n kb,.bool cuts]] w fun e w'=>
   ∃A' k',e=.returned (.agg #[if i=0 then .slice A' (if cuts=true then 0 else ni+n) k' else .slice A0 n0 k0,if i=1 then .slice A' (if cuts=true then 0 else ni+n) k' else .slice A1 n1 k1,if i=2 then .slice A' (if cuts=true then 0 else ni+n) k' else .slice A2 n2 k2])∧LS w' (fun q=>w.heap.size≤q∧q<w'.heap.size) (.slice A' (if cuts=true then 0 else ni+n) k') (if cuts=true then 0 else ni+n)∧Bw w w':=by
 obtain⟨ar,har⟩:∃x:Array Value,x=#[.slice A0 n0 k0,.slice A1 n1 k1,.slice A2 n2 k2]:=⟨_,rfl⟩
 obtain⟨ch,hch⟩:∃x:Array Value,x=#[.int .i64 i,.int .i64 p,.slice B n kb,.bool cuts]:=⟨_,rfl⟩
 obtain⟨z0,z1,z2,z3,z4,z5⟩:=FU w (.cells ar 77) (.cells ch 253) (.cells #[.slice none 0 0,.slice none 0 0,.slice none 0 0] 77) (.cells #[] 5)
 obtain⟨wz,hwz⟩:∃W,W=(((w.alloc (.cells ar 77)).alloc (.cells ch 253)).alloc (.cells #[.slice none 0 0,.slice none 0 0,.slice none 0 0] 77)).alloc (.cells #[] 5):=⟨_,rfl⟩
 rw[←hwz] at z0 z1 z2 z3 z4 z5
 have YO:=Hj z4
 have DW0:Hid (qp w wz ar ch):=Hj ⟨z0,z1,z2,z5,Nat.le_of_eq z4.symm⟩
 rw[har,hch] at hwz
 have HWZ:=Hj hwz
 have HAR:=Hj har
 have HCH:=Hj hch
 have Z3:=Hj z3
 have HF:=Hj (hf.keep (Kz z5))
 have QE:=Hj hf.1
 have HCW:=Hj hc
 have HN:=Hj hn
 have hnI:(ni:Int)≤1048576:=by omega
 have n0I:(0:Int)≤(ni:Int):=by omega
 clear hwz z0 z1 z2 z3 z4 z5 hf hc hn har hch
 cases cuts with
 | true=>
  obtain rfl:p=0:=hp
  rcases hi with rfl | rfl | rfl
  all_goals
   (first | obtain⟨rfl,rfl,rfl⟩:=h0 rfl | obtain⟨rfl,rfl,rfl⟩:=h1 rfl | obtain⟨rfl,rfl,rfl⟩:=h2 rfl)
   clear h0 h1 h2
   by_cases hlt:0<ni
   · have q1:decide ((0:Int)<(ni:Int))=true:=aZ (by omega)
     have q1n:decide (0<ni)=true:=aZ hlt
     clear hlt
     go_enter Tryz.func180,Tryz.ntmps180
     go_wp2_with (first
      | (at_builtin;(rw[←HWZ.out];refine aN rfl (.tmp 8) (.tmp 12) 35 (by rfl) (ku (q:=w.heap.size+3) (base:=w.heap.size+3) Z3.out Kv) (by rfl) (HF.out.src Tryz.underlying35 (c:=ki)) (by rfl) (by have:=QE.out;simp;omega) (by have:=YO.out;omega) ?_;intro v5 w5 hown5 hgr5 QF;rw[fP] at hown5;obtain⟨A5,c5,rfl,h5,h5',-⟩:=hown5.form;rw[QE.out] at h5 hown5;have O5:=Hj hown5;have B5:Hid (Below (w.heap.size+3) wz w5):=Hj (Fr.below (Fr.bF hgr5) (by have:=YO.out;omega) (fun i _ e=>Nat.le_of_eq (Option.some.inj (show some i=some (w.heap.size+3) from e)).symm));have Jl:=Hj (DW0.out.next B5.out);obtain⟨d0,d1,d2,d3⟩:=Jl.out.Ph HCH.out;obtain⟨u0,u1,u2,fu,r0,r1,r2,fr⟩:=Jl.out.arr HAR.out;have fu0:=fu 0;have fu1:=fu 1;have fu2:=fu 2;have Pn:=fr 0;have Xt:=fr 1;have fr2:=fr 2;rw[QE.out];clear hown5 hgr5 QF fu fr))
      | fail)
     have HO:=Hj (O5.out.Lh 0 (bU _))
     exact bg (results_cell_row rfl _ _ (w.heap.size+1+1) 77 _ (0,0) _ rfl (jI Jl.out HO.out).2.2 Tryz.underlying77 rfl nS) rfl ⟨_,_,rfl,LS.of (jI Jl.out HO.out).1 rfl,(jI Jl.out HO.out).2.1⟩
   · obtain rfl:ni=0:=by omega
     clear hlt
     go_enter Tryz.func180,Tryz.ntmps180
     go_wp2_with (first
      | (at_builtin;(rw[←HWZ.out];refine aN rfl (.tmp 8) (.tmp 12) 35 (by rfl) (ku (q:=w.heap.size+3) (base:=w.heap.size+3) Z3.out Kv) (by rfl) (HF.out.src Tryz.underlying35 (c:=ki)) (by rfl) (by have:=QE.out;simp;omega) (by have:=YO.out;omega) ?_;intro v5 w5 hown5 hgr5 QF;rw[fP] at hown5;obtain⟨A5,c5,rfl,h5,h5',-⟩:=hown5.form;rw[QE.out] at h5 hown5;have O5:=Hj hown5;have B5:Hid (Below (w.heap.size+3) wz w5):=Hj (Fr.below (Fr.bF hgr5) (by have:=YO.out;omega) (fun i _ e=>Nat.le_of_eq (Option.some.inj (show some i=some (w.heap.size+3) from e)).symm));have Jl:=Hj (DW0.out.next B5.out);obtain⟨d0,d1,d2,d3⟩:=Jl.out.Ph HCH.out;obtain⟨u0,u1,u2,fu,r0,r1,r2,fr⟩:=Jl.out.arr HAR.out;have fu0:=fu 0;have fu1:=fu 1;have fu2:=fu 2;have Pn:=fr 0;have Xt:=fr 1;have fr2:=fr 2;rw[QE.out];clear hown5 hgr5 QF fu fr))
      | fail)
     exact bg (results_cell_row rfl _ _ (w.heap.size+1+1) 77 _ (0,0) _ rfl (jI Jl.out O5.out).2.2 Tryz.underlying77 rfl nS) rfl ⟨_,_,rfl,LS.of (jI Jl.out O5.out).1 QE.out,(jI Jl.out O5.out).2.1⟩
 | false=>
  obtain rfl:p=(ni:Int):=hp
  rcases hi with rfl | rfl | rfl
  all_goals
   (first | obtain⟨rfl,rfl,rfl⟩:=h0 rfl | obtain⟨rfl,rfl,rfl⟩:=h1 rfl | obtain⟨rfl,rfl,rfl⟩:=h2 rfl)
   clear h0 h1 h2
   replace HN:Hid (ni+n≤1048576):=Hj (HN.out.resolve_left (by decide))
   have bm:(n:Int)≤1048576:=by have:=HN.out;omega
   go_enter Tryz.func180,Tryz.ntmps180
   go_wp2_with (first
    | (at_builtin;(rw[←HWZ.out];refine aN rfl (.tmp 8) (.tmp 12) 35 (by rfl) (ku (q:=w.heap.size+3) (base:=w.heap.size+3) Z3.out Kv) (by rfl) (HF.out.src Tryz.underlying35 (c:=ki)) (by rfl) (by have:=QE.out;simp;omega) (by have:=YO.out;omega) ?_;intro v5 w5 hown5 hgr5 QF;rw[fP] at hown5;obtain⟨A5,c5,rfl,h5,h5',-⟩:=hown5.form;rw[QE.out] at h5 hown5;have O5:=Hj hown5;have B5:Hid (Below (w.heap.size+3) wz w5):=Hj (Fr.below (Fr.bF hgr5) (by have:=YO.out;omega) (fun i _ e=>Nat.le_of_eq (Option.some.inj (show some i=some (w.heap.size+3) from e)).symm));have Jl:=Hj (DW0.out.next B5.out);obtain⟨d0,d1,d2,d3⟩:=Jl.out.Ph HCH.out;obtain⟨u0,u1,u2,fu,r0,r1,r2,fr⟩:=Jl.out.arr HAR.out;have fu0:=fu 0;have fu1:=fu 1;have fu2:=fu 2;have Pn:=fr 0;have Xt:=fr 1;have fr2:=fr 2;rw[QE.out];clear hown5 hgr5 QF fu fr))
    | fail)
   clear d0 d1 d2 d3 u0 u1 u2 fu0 fu1 fu2 r0 r1 r2 Pn Xt fr2
   go_loopg [5,28] n (fun gk s5 s28 wr=>∃(j:Nat) (AX:Option Addr) (cX:Nat) (BX:List UInt8),j+gk=n∧s28=.int .i64 (j:Int)∧s5=.slice AX (ni+j) cX∧BX.length=ni+j∧ni+j≤cX∧cX≤maxLen∧OB wr (w.heap.size+3) (.slice AX (ni+j) cX) BX∧qp w wr ar ch∧Below (w.heap.size+3) wz wr)
   case atStart=>exact⟨0,A5,c5,fi,by omega,rfl,rfl,QE.out,h5,h5',O5.out,Jl.out,B5.out⟩
   case round=>
    obtain⟨j,AX,cX,BX,hjk,rfl,rfl,hbl,hx1,hx2,hox,hdx,hbx⟩:=hrel
    have OX:=Hj hox
    have DX:=Hj hdx
    have BX0:=Hj hbx
    have HJK:=Hj hjk
    have HXC:=Hj (aB hx1 hx2)
    have Jk:=Hj hbl
    obtain⟨x0,x1,x2,-⟩:=hdx.Ph HCH.out
    clear hox hdx hbx hjk hx1 hx2 hbl
    by_cases hlt:j<n
    · have i0:(0:Int)≤(j:Int):=by omega
      have i1:(j:Int)<(n:Int):=by omega
      have i2:(ni:Int)+(j:Int)≤1048576:=by have:=HN.out;omega
      have IX:=Hj hlt
      obtain⟨bb,ob,rfl,hcell⟩:=HCW.out.2 (by omega)
      have hbw:bb<w.heap.size+3:=dP (iP w _ (hcell j hlt)) (by omega)
      have cb:=Kz DW0.out.bel _ _ (hcell j hlt)
      have cbr:wr.cell? ⟨bb,ob+j,none⟩=some (.int .u8 ((bs.getD j 0).toNat:Int)):=(BX0.out.cell (p:=⟨bb,ob+j,none⟩) hbw).trans cb
      generalize bs.getD j 0=xb at*
      clear hlt hcell cb
      go_wp2_with fail
      clear x0 x1 x2 cbr
      go_loopg [5] 1 (fun gk s5 wr=>∃(A6:Option Addr) (c6:Nat) (B6:List UInt8),s5=.slice A6 B6.length c6∧B6.length≤c6∧c6≤maxLen∧OB wr (w.heap.size+3) (.slice A6 B6.length c6) B6∧qp w wr ar ch∧Below (w.heap.size+3) wz wr∧B6.length+gk=ni+j+1∧gk≤1)
      case atStart=>exact⟨AX,cX,BX,by rw[Jk.out],by rw[Jk.out];exact HXC.out.1,HXC.out.2,by rw[Jk.out];exact OX.out,DX.out,BX0.out,by rw[Jk.out],bZ _⟩
      case round=>
       obtain⟨A6,c6,B6,rfl,h6,h6',pW,hd6,hb6,hk6,hm6⟩:=hrel
       have O6:=Hj pW
       have D6:=Hj hd6
       have BB6:=Hj hb6
       have K6:=Hj hk6
       have C6:=Hj (aB h6 h6')
       obtain⟨e0,e1,e2,-⟩:=hd6.Ph HCH.out
       have l6:B6.length≤1048577:=by have:=HN.out;have:=IX.out;omega
       have M6:=Hj hm6
       clear pW hd6 hb6 hk6 h6 h6' hm6
       by_cases YP:B6.length<ni+j+1
       · have qa:decide ((B6.length:Int)≤(ni:Int)+(j:Int))=true:=aZ (by omega)
         have qb:decide (B6.length≤ni+j)=true:=aZ (by omega)
         have HPAD:=Hj YP
         clear YP
         go_wp2_with (first
          | (at_builtin;(refine aN rfl (.tmp 40) (.tmp 41) 35 (by rfl) (O6.out.alloc _) (by rfl) (Src.lit wr _ [0] rfl 1 1 rfl) (by rfl) (by simp;omega) (by have:=D6.out.size;simp;omega) ?_;intro v7 w7 aU cu tX;obtain⟨A7,c7,e7,h7,h7',-⟩:=aU.form;rw[bP,List.length_singleton] at e7 h7;subst e7;have O7:=Hj aU;have C7:=Hj (aB h7 h7');have B7:Hid (Below (w.heap.size+3) wr w7):=Hj (((aj (w.heap.size+3) wr).alloc (by have:=D6.out.size;omega) _).grown cu (by have:=D6.out.size;simp;omega) fun q hq=>(OB.lt O6.out q hq).1);clear aU cu tX h7 h7'))
          | fail)
         go_roundg (gk-1)
         case measure=>have:=K6.out;have:=HPAD.out;omega
         case rel=>
          have hlen:(B6++[0]).length=B6.length+1:=by simp
          exact⟨A7,c7,B6++[0],by rw[hlen],by rw[hlen];exact C7.out.1,C7.out.2,by rw[hlen];exact O7.out,D6.out.next B7.out,BB6.out.trans B7.out,by rw[hlen];have:=K6.out;have:=HPAD.out;omega,by have:=M6.out;omega⟩
       · have qa:decide ((B6.length:Int)≤(ni:Int)+(j:Int))=false:=aQ (by omega)
         have qb:decide (B6.length≤ni+j)=false:=aQ (by omega)
         have lge:B6.length=ni+j+1:=by have:=K6.out;omega
         have HLE:=Hj lge
         clear YP
         obtain⟨bq,oq,eA6⟩:∃b o,A6=some ⟨b,o,none⟩:=by
          obtain⟨b',o',e',_⟩:=(RB.jd O6.out).2 (by omega)
          exact⟨b',o',e'⟩
         subst eA6
         have hcl:wr.cell? ⟨bq,oq+(ni+j),none⟩=some (.int .u8 ((B6.getD (ni+j) 0).toNat:Int)):=by
          obtain⟨b',o',e',hc'⟩:=(RB.jd O6.out).2 (by omega)
          injection e' with e'
          injection e' with e1' e2'
          subst e1';subst e2'
          exact hc' (ni+j) (by omega)
         obtain⟨hfz,hset⟩:=OB.setB xb O6.out rfl (show ni+j<B6.length by omega)
         have HSet:=Hj hset
         have y1:(ni:Int)+(j:Int)<(B6.length:Int):=by omega
         have y2:ni+j<B6.length:=by omega
         have y3:((ni:Int)+(j:Int)).toNat=ni+j:=by omega
         clear hset lge
         go_wp2
         go_roundg (n-(j+1))
         case measure=>have:=HJK.out;have:=IX.out;omega
         case rel=>
          have hb6:Below (w.heap.size+3) wr (wr.setCell ⟨bq,oq+(ni+j),none⟩ (.int .u8 (xb.toNat:Int))):=(aj _ _).setCell (p:=⟨bq,oq+(ni+j),none⟩) ((OB.lt O6.out bq rfl).1) _
          have hs:=HSet.out
          have hc6:=C6.out.1
          rw[HLE.out] at hs hc6
          exact⟨j+1,some ⟨bq,oq,none⟩,c6,B6.set (ni+j) xb,by have:=IX.out;omega,by go_num,by rw[HLE.out];rfl,by rw[List.length_set];exact HLE.out,hc6,C6.out.2,hs,D6.out.next hb6,BB6.out.trans hb6⟩
    · obtain rfl:j=n:=by have:=HJK.out;omega
      clear hlt
      go_wp2_with fail
      go_loopg [5] 0 (fun gk s5 wr2=>s5=.slice AX (ni+j) cX∧wr2=wr)
      case atStart=>exact⟨rfl,rfl⟩
      case round=>
       obtain⟨rfl,rfl⟩:=hrel
       have qa:decide ((ni:Int)+(j:Int)<(ni:Int))=false:=aQ (by omega)
       have qb:decide (((ni+j:Nat):Int)<(ni:Int))=false:=aQ (by omega)
       have qc:decide (ni+j<ni)=false:=aQ (by omega)
       obtain⟨u0,u1,u2,fu,r0,r1,r2,fr⟩:=DX.out.arr HAR.out
       have fu0:=fu 0
       have fu1:=fu 1
       have fu2:=fu 2
       have Pn:=fr 0
       have Xt:=fr 1
       have fr2:=fr 2
       clear fu fr
       go_wp2
       exact bg (results_cell_row rfl _ _ (w.heap.size+1+1) 77 _ (0,0) _ rfl (jI DX.out OX.out).2.2 Tryz.underlying77 rfl nS) rfl ⟨_,_,rfl,LS.of (jI DX.out OX.out).1 Jk.out,(jI DX.out OX.out).2.1⟩
end Go.Proofs.YtdhbpajamlfacaaGreatDoor
