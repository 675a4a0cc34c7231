/- Layer 21 (watch): Sync, Cursor. -/
import Derived.Test.YtdhbpajamlfacaaGreatDoorWm
set_option maxRecDepth 100000
namespace Go.Proofs.YtdhbpajamlfacaaGreatDoor
open Go.RowKit SO
theorem Me {we:World} {base n c j:Nat} {Az:Option Addr} {zs:List (Bool×(OV×aH))} {y:Bool×(OV×aH)} (h:EL we base (.slice Az n c) zs) (hy:zs[j]?=some y):
 ∃lg lo,Az=some ⟨lg,lo,none⟩∧we.cell? ⟨lg,lo+j*7,none⟩=some (.int .i64 (y.2.2.ver:Int))∧we.cell? ⟨lg,lo+j*7+1,none⟩=some (.bool y.1)∧we.cell? ⟨lg,lo+j*7+2,none⟩=some (.int .i64 y.2.1.kind)∧we.cell? ⟨lg,lo+j*7+3,none⟩=some (.string y.2.1.space)∧we.cell? ⟨lg,lo+j*7+4,none⟩=some (.string y.2.1.name)∧we.cell? ⟨lg,lo+j*7+5,none⟩=some (.int .i64 y.2.1.ver)∧we.cell? ⟨lg,lo+j*7+6,none⟩=some (.slice y.2.1.A y.2.1.n y.2.1.c):=by
 have hl:0<(gZ zs).length:=by
  have h3:=h.1
  have h4:=(List.getElem?_eq_some_iff.1 hy).1
  omega
 obtain⟨lg,lo,cap,hA,-,-,hc⟩:=h.cells hl
 injection hA with hA _ _
 have hg:∀i x,([.int .i64 (y.2.2.ver:Int),.bool y.1,.int .i64 y.2.1.kind,.string y.2.1.space,.string y.2.1.name,.int .i64 y.2.1.ver,sl y.2.1]:List Value)[i]?=some x→we.cell? ⟨lg,lo+(j*7+i),none⟩=some x:=fun i x hx=>hc _ x (flat_get _ 7 (fun _=>rfl) zs j y i x hy hx)
 have e0:∀i,lo+(j*7+i)=lo+j*7+i:=fun i=>by omega
 refine⟨lg,lo,hA,?_,?_,?_,?_,?_,?_,?_⟩
 ·have:=hg 0 _ rfl;rw[e0] at this;exact this
 ·have:=hg 1 _ rfl;rw[e0] at this;exact this
 ·have:=hg 2 _ rfl;rw[e0] at this;exact this
 ·have:=hg 3 _ rfl;rw[e0] at this;exact this
 ·have:=hg 4 _ rfl;rw[e0] at this;exact this
 ·have:=hg 5 _ rfl;rw[e0] at this;exact this
 ·have:=hg 6 _ rfl;rw[e0] at this;exact this
section
variable {w w0:World} {Q P:Nat→Prop} {g gs gw gt cur:Nat} {m:DM} {L:LM} {M:aY} {ea:Nat→Addr} {kind:Int} {space:ByteArray} {all:Bool} {K:List (ByteArray×aH)}
theorem Cc (hw:fA w gw gt kind space all cur):Calls Tryz.prog 14 #[.pointer (some ⟨gw,0,none⟩)] w fun e w'=>e=.returned (.int .i64 (cur:Int))∧w=w':=by
 have c4:w.cell? ⟨gw,4,none⟩=some (.int .i64 (cur:Int)):=Kq 4 hw
 clear hw
 go_enter Tryz.func14,Tryz.ntmps14
 go_wp2
 go_ret
 exact⟨rfl,rfl⟩
set_option maxHeartbeats 4000000 in
/-- It knows more than the store has. -/
theorem QO (h:SW w0 w Q g m gs L M) (he:Errs w0 ea) (hw:fA w gw gt kind space all cur) (hc:M.rev<cur):
  Calls Tryz.prog 11 #[.pointer (some ⟨gw,0,none⟩),.pointer (some ⟨gs,0,none⟩)] w fun e w'=>e=.returned (.tuple #[.agg #[.bool false,.slice none 0 0,.slice none 0 0],bK ea 1])∧Below w.heap.size w w':=by
 obtain⟨w2,hw2⟩:∃W,W=(w.alloc (.cells #[.bool false,.slice none 0 0,.slice none 0 0] 43)).alloc (.cells #[.bool false,.slice none 0 0,.slice none 0 0] 43):=⟨_,rfl⟩
 obtain⟨k1,k2,k3⟩:=aC w (.cells #[.bool false,.slice none 0 0,.slice none 0 0] 43) (.cells #[.bool false,.slice none 0 0,.slice none 0 0] 43)
 rw[←hw2] at k1 k2 k3
 obtain⟨Z,hZ⟩:∃z,z=w.heap.size:=⟨_,rfl⟩
 rw[←hZ] at k1 k2
 have hrw:=(k3.block gw (Cq hw)).trans hw
 have Fp:Hid (∀W,Below w2.heap.size w2 W→Calls Tryz.prog 12 #[.pointer (some ⟨gs,0,none⟩)] W fun e w'=>e=.returned (.int .i64 (M.rev:Int))∧W=w'):=Hj fun W hW=>zW (h.below (k3.trans (hW.mono k3.size)))
 have e1:w2.cell? ⟨1,0,none⟩=some (.iface 368 (.pointer (some (ea 1)))):=(he.below (h.bel.trans (k3.mono h.bel.size))).cell 1 (by decide) (by decide)
 have e2:(w2.setCell ⟨Z,0,none⟩ (.bool false)).cell? ⟨1,0,none⟩=some (.iface 368 (.pointer (some (ea 1)))):=Kz (k3.setCell (p:=⟨Z,0,none⟩) (by dsimp only;omega) (.bool false)) _ _ ((he.below h.bel).cell 1 (by decide) (by decide))
 have c4:w2.cell? ⟨gw,4,none⟩=some (.int .i64 (cur:Int)):=Kq 4 hrw
 have z0:w2.cell? ⟨Z,0,none⟩=some (.bool false):=Kq 0 k1
 have z1:w2.cell? ⟨Z,1,none⟩=some (.slice none 0 0):=Kq 1 k1
 have z2:w2.cell? ⟨Z,2,none⟩=some (.slice none 0 0):=Kq 2 k1
 have zf:∀j,w2.frozen? ⟨Z,j,none⟩=false:=fun j=>Kj k1
 have q1:(M.rev:Int)<(cur:Int):=by omega
 rw[bM ea (by decide:(1:Nat)≠0)]
 have HW:=Hj (And.intro hw2 hZ)
 have HK:=Hj (And.intro k1 k3)
 clear h he hw hc hw2 k1 k2 k3 hZ hrw
 go_enter Tryz.func11,Tryz.ntmps11
 go_wp2
 rw[←HW.out.1,←HW.out.2]
 go_region_held3 (fun w'=>w'.cell? ⟨gw,4,none⟩=some (.int .i64 (cur:Int))) (first | assumption | go_keep) (first
  | (go_at_call 12;((with_reducible refine(Fp.out w2.drew (Below.drew (Below.refl _ _))).mono ?_);rintro e w3 ⟨rfl,rfl⟩))
  | fail)
 all_goals
  go_wp2
  go_region_law (fail)
  all_goals
   go_wp2
   obtain⟨wf,hwf⟩:∃W,W=((w2.setCell ⟨Z,0,none⟩ (.bool false)).setCell ⟨Z,1,none⟩ (.slice none 0 0)).setCell ⟨Z,2,none⟩ (.slice none 0 0):=⟨_,rfl⟩
   have hr3:wf.heap[Z]?=some (.cells #[.bool false,.slice none 0 0,.slice none 0 0] 43 (0,0)):=by rw[hwf];exact st3 HK.out.1
   have hb:Below w.heap.size w wf:=by rw[hwf];exact((HK.out.2.setCell (p:=⟨Z,0,none⟩) (by have:=HW.out.2;dsimp only;omega) _).setCell (p:=⟨Z,1,none⟩) (by have:=HW.out.2;dsimp only;omega) _).setCell (p:=⟨Z,2,none⟩) (by have:=HW.out.2;dsimp only;omega) _
   rw[←hwf]
   exact bodyPost_ret (dB _ rfl rfl hr3 Tryz.underlying43 rC) rfl ⟨rfl,aB (aB hb)⟩
theorem sZ (kind:Int) (space:ByteArray) (all:Bool):∀(l:List (Bool×aH)) (K:List (ByteArray×aH)),(l.foldl (lC kind space all) K).length≤K.length+l.length
 | [],K=>Nat.le_refl _
 | e::l,K=>by
  have h1:=sZ kind space all l (lC kind space all K e)
  have h2:(lC kind space all K e).length≤K.length+1:=by
   unfold lC
   split
   ·split
    ·exact Cz lH.length_le (Nat.le_succ _)
    ·rw [je];split<;>omega
   ·omega
  rw[List.foldl_cons,List.length_cons]
  omega
theorem tq (d:Bool) (kind:Int) (space:ByteArray) (all:Bool):∀(l:List (Bool×aH)) (q:List aH),(l.foldl (iU d kind space all) q).length≤q.length+l.length
 | [],q=>Nat.le_refl _
 | e::l,q=>by
  have h1:=tq d kind space all l (iU d kind space all q e)
  have h2:(iU d kind space all q e).length≤q.length+1:=by
   unfold iU
   split
   ·rw [List.length_append];exact Nat.le_refl _
   ·omega
  rw[List.foldl_cons,List.length_cons]
  omega
theorem XE {n:Nat} (h:w.cell? ⟨gs,2,none⟩=some (.int .i64 (n:Int))):Calls Tryz.prog 12 #[.pointer (some ⟨gs,0,none⟩)] w fun e w'=>e=.returned (.int .i64 (n:Int))∧w=w':=by
 go_enter Tryz.func12,Tryz.ntmps12
 go_wp2
 go_ret
 exact⟨rfl,rfl⟩
/-- The end of a Sync. -/
theorem Fa {W:World} {gx Z rev base:Nat} {an:Bool} {c0 c1 c2 pv dv:Value} {lp ld:List aH} (hr:fA W gw gx kind space all cur) (hk:KT W P gx K) (hz:W.heap[Z]?=some (.cells #[c0,c1,c2] 43 (0,0))) (hp:OS W base pv lp) (hd:OS W base dv ld):
  fA ((((W.setCell ⟨gw,4,none⟩ (.int .i64 (rev:Int))).setCell ⟨Z,0,none⟩ (.bool an)).setCell ⟨Z,1,none⟩ pv).setCell ⟨Z,2,none⟩ dv) gw gx kind space all rev∧KT ((((W.setCell ⟨gw,4,none⟩ (.int .i64 (rev:Int))).setCell ⟨Z,0,none⟩ (.bool an)).setCell ⟨Z,1,none⟩ pv).setCell ⟨Z,2,none⟩ dv) P gx K∧OS ((((W.setCell ⟨gw,4,none⟩ (.int .i64 (rev:Int))).setCell ⟨Z,0,none⟩ (.bool an)).setCell ⟨Z,1,none⟩ pv).setCell ⟨Z,2,none⟩ dv) base pv lp∧OS ((((W.setCell ⟨gw,4,none⟩ (.int .i64 (rev:Int))).setCell ⟨Z,0,none⟩ (.bool an)).setCell ⟨Z,1,none⟩ pv).setCell ⟨Z,2,none⟩ dv) base dv ld∧
  ((((W.setCell ⟨gw,4,none⟩ (.int .i64 (rev:Int))).setCell ⟨Z,0,none⟩ (.bool an)).setCell ⟨Z,1,none⟩ pv).setCell ⟨Z,2,none⟩ dv).heap[Z]?=some (.cells #[.bool an,pv,dv] 43 (0,0))∧Fr (fun k=>k=gw∨k=Z) W ((((W.setCell ⟨gw,4,none⟩ (.int .i64 (rev:Int))).setCell ⟨Z,0,none⟩ (.bool an)).setCell ⟨Z,1,none⟩ pv).setCell ⟨Z,2,none⟩ dv):=by
 obtain⟨W1,hW1⟩:∃W1,W1=W.setCell ⟨gw,4,none⟩ (.int .i64 (rev:Int)):=⟨_,rfl⟩
 have hne:Z≠gw:=fun e=>by subst e;exact absurd (aj hz hr) (by decide)
 have f1:Fr (fun k=>k=gw) W W1:=by rw[hW1];exact(Fr.refl (fun k=>k=gw) W).setCell (p:=⟨gw,4,none⟩) (fun _=>rfl) _
 have r1:fA W1 gw gx kind space all rev:=by rw[hW1];exact heap_setCell_same _ _ 4 _ _ _ hr
 have s1:Sf W W1:=Sf.aG f1 hr (.inr (.inr (.inr rfl)))
 have z1:=(f1.block Z (Cq hz) hne).trans hz
 rw[←hW1]
 obtain⟨W2,hW2⟩:∃W2,W2=((W1.setCell ⟨Z,0,none⟩ (.bool an)).setCell ⟨Z,1,none⟩ pv).setCell ⟨Z,2,none⟩ dv:=⟨_,rfl⟩
 rw[←hW2]
 have f2:Fr (fun k=>k=Z) W1 W2:=by rw[hW2];exact(((Fr.refl (fun k=>k=Z) W1).setCell (p:=⟨Z,0,none⟩) (fun _=>rfl) _).setCell (p:=⟨Z,1,none⟩) (fun _=>rfl) _).setCell (p:=⟨Z,2,none⟩) (fun _=>rfl) _
 have s2:Sf W1 W2:=Sf.aG f2 z1 (.inr (.inl rfl))
 have hF:Fr (fun k=>k=gw∨k=Z) W W2:=(f1.mono fun _ _ h=>.inl h).trans f2 fun _ _ h=>.inr h
 have hS:=s1.trans s2
 obtain⟨p,ht⟩:=hk.row
 have ho:∀{v:Value} {l:List aH},OS W base v l→OS W2 base v l:=fun {v l} h=>hS.os h fun k hk=>hF.block k (h.own hk).2.1 fun e=>by
  obtain⟨_,hc⟩:=(h.own hk).2.2
  rcases e with e | e
  ·rw [e] at hc;exact absurd (aj hc hr) (by decide)
  ·rw [e] at hc;exact absurd (aj hc hz) (by decide)
 refine⟨(f2.block gw (Cq r1) (fun e=>hne e.symm)).trans r1,hS.tab hk (hF.block gx (Cq ht) fun e=> ?_),ho hp,ho hd,by rw[hW2];exact st3 z1,hF⟩
 rcases e with e | e
 ·rw [e] at ht;exact absurd (aj ht hr) (by decide)
 ·rw [e] at ht;exact absurd (aj ht hz) (by decide)
/-- What a Sync finds. -/
def VH (M:aY) (kind:Int) (space:ByteArray) (all:Bool) (cur:Nat) (K:List (ByteArray×aH)) (an:Bool) (K':List (ByteArray×aH)) (lp ld:List aH):Prop:=
 (cur<M.base∧an=true∧K'=(mF M kind space all).foldl nY []∧lp=mF M kind space all∧ld=[])∨
 (M.base≤cur∧an=false∧K'=(M.evs.drop (cur-M.base)).foldl (lC kind space all) K∧lp=(M.evs.drop (cur-M.base)).foldl (iU false kind space all) []∧ld=(M.evs.drop (cur-M.base)).foldl (iU true kind space all) [])
end
section
variable {w w0:World} {Q P:Nat→Prop} {g gs gw gt cur:Nat} {m:DM} {L:LM} {M:aY} {ea:Nat→Addr} {kind:Int} {space:ByteArray} {all:Bool} {K:List (ByteArray×aH)}
set_option maxHeartbeats 8000000 in
set_option maxRecDepth 100000 in
theorem rD (h:SW w0 w Q g m gs L M) (hw:fA w gw gt kind space all cur) (hK:KT w P gt K) (hc:cur≤M.rev) (hb:cur<M.base→K=[]) (hk:kind≤9223372036854775807) (hs:space.size≤1000) (hl:M.tab.length≤100000) (hn:all=false∨(kind≠5∧kind≠6)) (hm:M.rev≤1099511627776) (hev:K.length+M.evs.length≤90000):
  Calls Tryz.prog 11 #[.pointer (some ⟨gw,0,none⟩),.pointer (some ⟨gs,0,none⟩)] w fun e w'=>∃an pv dv eX K' lp ld,e=.returned (.tuple #[.agg #[.bool an,pv,dv],.nilIface])∧OS w' w.heap.size pv lp∧OS w' w.heap.size dv ld∧fA w' gw eX kind space all M.rev∧KT w' (fun k=>P k∨w.heap.size≤k) eX K'∧Fr (fun k=>k=gw∨k=gt) w w'∧(eX=gt∨w.heap.size≤eX)∧VH M kind space all cur K an K' lp ld:=by
 obtain⟨w2,hw2⟩:∃W,W=(w.alloc (.cells #[.bool false,.slice none 0 0,.slice none 0 0] 43)).alloc (.cells #[.bool false,.slice none 0 0,.slice none 0 0] 43):=⟨_,rfl⟩
 obtain⟨k1,k2,k3⟩:=aC w (.cells #[.bool false,.slice none 0 0,.slice none 0 0] 43) (.cells #[.bool false,.slice none 0 0,.slice none 0 0] 43)
 obtain⟨w1,hw1⟩:∃W,W=w.alloc (.cells #[.bool false,.slice none 0 0,.slice none 0 0] 43):=⟨_,rfl⟩
 have b01:Below w.heap.size w w1:=by rw[hw1];exact(Below.refl _ w).alloc Kv _
 have b12:Below w1.heap.size w1 w2:=by rw[hw2,←hw1];exact(Below.refl _ w1).alloc Kv _
 have hz1:w1.heap[w.heap.size]?=some (.cells #[.bool false,.slice none 0 0,.slice none 0 0] 43 (0,0)):=by rw[hw1];exact heap_alloc_new w _
 have hs1:w1.heap.size=w.heap.size+1:=by rw[hw1];simp
 rw[←hw2] at k1 k2 k3
 obtain⟨Z,hZ⟩:∃z,z=w.heap.size:=⟨_,rfl⟩
 rw[←hZ] at k1 k2 hz1 hs1
 have hrw:=(k3.block gw (Cq hw)).trans hw
 have HB:Hid (∀W,Below w2.heap.size w2 W→Below w.heap.size w W):=Hj fun W hW=>k3.trans (hW.mono k3.size)
 have Fp:Hid (∀W,Below w2.heap.size w2 W→Calls Tryz.prog 12 #[.pointer (some ⟨gs,0,none⟩)] W fun e w'=>e=.returned (.int .i64 (M.rev:Int))∧W=w'):=Hj fun W hW=>zW (h.below (HB.out W hW))
 have HBs:Hid (∀W,Below w2.heap.size w2 W→Calls Tryz.prog 37 #[.pointer (some ⟨gs,0,none⟩)] W fun e w'=>e=.returned (.int .i64 (M.base:Int))∧W=w'):=Hj fun W hW=>Ov (h.below (HB.out W hW))
 have HAn:Hid (cur<M.base→∀W,Below w2.heap.size w2 W→Calls Tryz.prog 38 #[.pointer (some ⟨gw,0,none⟩),.pointer (some ⟨gs,0,none⟩)] W fun e w'=>∃pv eX,e=.returned (.agg #[.bool true,pv,.slice none 0 0])∧OS w' W.heap.size pv (mF M kind space all)∧fA w' gw eX kind space all cur∧KT w' (fun k=>W.heap.size≤k) eX ((mF M kind space all).foldl nY [])∧Fr (fun k=>k=gw) W w'∧W.heap.size≤eX):=Hj fun h1 W hW=>by
  have hk2:=hK.below (HB.out W hW)
  rw[hb h1] at hk2
  exact anewW (h.below (HB.out W hW)) ((hW.block gw (Cq hrw)).trans hrw) hk2 hk hs hl hn
 have HEv:Hid (M.base≤cur→∀W,Below w2.heap.size w2 W→Calls Tryz.prog 39 #[.pointer (some ⟨gs,0,none⟩),.int .i64 (cur:Int)] W fun e w'=>∃A c zs,e=.returned (.tuple #[.slice A zs.length c,.nilIface])∧EL w' W.heap.size (.slice A zs.length c) zs∧zs.map (fun y=>(y.1,y.2.2))=M.evs.drop (cur-M.base)∧(∀y∈zs,dI w' y.2.1 y.2.2)∧Below W.heap.size W w'):=Hj fun h1 W hW=>(Ee (cur:Int) (h.below (HB.out W hW)) (Int.natCast_nonneg _) (by omega) (by omega) (by omega) hm).mono fun e w' ⟨v,zs,h1,h2,h3,h4,h5⟩=>by
  obtain⟨A,c,rfl,-,-⟩:=ah.form h2
  exact⟨A,c,zs,h1,h2,h3,h4,h5⟩
 have Nh:Hid (∀e∈M.evs,e.2.data.length≤1000000∧e.2.space.size≤1000∧e.2.name.size≤1000):=Hj fun e he=>by
  obtain⟨i,hi⟩:=List.mem_iff_getElem?.1 he
  have:=(h.ok.evs i _ hi).2
  have hd:=this.data
  obtain⟨p1,p2,p3,p4,p5⟩:=this.parts
  exact⟨by omega,by omega,by omega⟩
 obtain⟨gsr,hgs,hgt⟩:∃r:Array Value,w.heap[gs]?=some (.cells r 104 (0,0))∧∀W:World,W.heap[gs]?=w.heap[gs]?→W.cell? ⟨gs,2,none⟩=some (.int .i64 (M.rev:Int)):=by
  obtain⟨Z,gl,gt,sh,ev,xs,ys,hV,-,-⟩:=h.use
  exact⟨_,hV.cells,fun W hW=>Kq 2 (hW.trans hV.cells)⟩
 have HG:=Hj (And.intro hgs hgt)
 have HGt:Hid (gt<w.heap.size∧gs≠gt):=Hj (by
  obtain⟨p,ht⟩:=hK.row
  exact⟨(Cq ht),fun e=>by rw[e] at hgs;exact absurd (aj hgs ht) (by decide)⟩)
 have HN:=Hj hev
 have HT0:Hid (∀W,Below w2.heap.size w2 W→TI P w1 W gw gt (Z+1) kind space all cur K false [] []):=Hj fun W hW=>⟨(hW.block gw (Cq hrw)).trans hrw,(hK.below (HB.out W hW)).mono fun k h _=>.inl h,⟨_,_,(hW.block _ (Cq k2)).trans k2,OS.nil _ _,OS.nil _ _,fun k hk=>(by cases hk)⟩,Fr.of_below (b12.trans (hW.mono b12.size)),by omega⟩
 have HZ1:=Hj (And.intro k1 k2)
 have HZ0:=Hj (And.intro hz1 (And.intro hs1 b01))
 have HW:=Hj (And.intro hw2 hZ)
 have dR:=Hj (And.intro hw hrw)
 have c4:w2.cell? ⟨gw,4,none⟩=some (.int .i64 (cur:Int)):=Kq 4 hrw
 have q1:¬(M.rev:Int)<(cur:Int):=by omega
 clear h hw hK hc hb hk hs hl hn hm hev hw1 b01 b12 hz1 hs1 hw2 k1 k2 k3 hZ hrw hgs hgt
 by_cases hcb:cur<M.base
 ·have HC:=Hj hcb
  have q2:(cur:Int)<(M.base:Int):=by omega
  clear hcb
  go_enter Tryz.func11,Tryz.ntmps11
  go_wp2
  rw[←HW.out.1,←HW.out.2]
  go_region_held3 (fun w'=>w'.cell? ⟨gw,4,none⟩=some (.int .i64 (cur:Int))) (first | assumption | go_keep) (first
   | (go_at_call 12;((with_reducible refine(Fp.out w2.drew (Below.drew (Below.refl _ _))).mono ?_);rintro e w3 ⟨rfl,rfl⟩))
   | fail)
  go_wp2
  go_region_held3 (fun w'=>w'.cell? ⟨gw,4,none⟩=some (.int .i64 (cur:Int))) (first | assumption | go_keep) (first
   | (go_at_call 37;((with_reducible refine(HBs.out w2.drew.drew (Below.drew (Below.drew (Below.refl _ _)))).mono ?_);rintro e w3 ⟨rfl,rfl⟩))
   | fail)
  go_wp2_with (first
   | (go_at_call 38;((with_reducible refine(HAn.out HC.out w2.drew.drew (Below.drew (Below.drew (Below.refl _ _)))).mono ?_);rintro e w3 ⟨pv,eX,rfl,ho,hr,hk,hf,hx⟩;have HGx:Hid (w.heap.size≤eX):=Hj (Cz (HB.out w2 (Below.refl _ _)).size hx);obtain⟨A,c,rfl,-,-⟩:=ho.form;have HO:=Hj (And.intro ho (And.intro hr (And.intro hk hf)));have hg3:=(hf.block (Z+1) (Cq HZ1.out.2) (fun e=>by have:=HW.out.2;have:=(Cq dR.out.1);omega)).trans HZ1.out.2;have DC:=Hj hg3;have s0:w3.cell? ⟨Z+1,0,none⟩=some (.bool false):=Kq 0 hg3;have s1:w3.cell? ⟨Z+1,1,none⟩=some (.slice none 0 0):=Kq 1 hg3;have s2:w3.cell? ⟨Z+1,2,none⟩=some (.slice none 0 0):=Kq 2 hg3;have sf:∀j,w3.frozen? ⟨Z+1,j,none⟩=false:=(fun j=>Kj hg3);obtain⟨l,hl⟩:∃l,l=mF M kind space all:=⟨_,rfl⟩;rw[←hl] at HO ⊢;obtain⟨n,hn⟩:∃n,n=l.length:=⟨_,rfl⟩;rw[←hn];have HL:=Hj (And.intro hl hn);clear ho hr hk hf hg3 hl hn hx))
   | (go_at_call 12;obtain⟨w4,hw4⟩:∃W,W=((w3.setCell ⟨Z+1,0,none⟩ (.bool true)).setCell ⟨Z+1,1,none⟩ (.slice A n c)).setCell ⟨Z+1,2,none⟩ (.slice none 0 0):=⟨_,rfl⟩;rw[←hw4];have H4:Hid (fA w4 gw eX kind space all cur∧KT w4 (fun k=>w.heap.size≤k) eX (l.foldl nY [])∧OS w4 w.heap.size (.slice A n c) l∧w4.heap[Z]?=some (.cells #[.bool false,.slice none 0 0,.slice none 0 0] 43 (0,0))∧w4.heap[Z+1]?=some (.cells #[.bool true,.slice A n c,.slice none 0 0] 43 (0,0))∧w4.heap[gs]?=w.heap[gs]?∧Fr (fun k=>k=gw) w w4):=Hj (by
     obtain⟨ho,hr,hk,hf⟩:=HO.out
     have f4:Fr (fun k=>k=Z+1) w3 w4:=by rw[hw4];exact(((Fr.refl (fun k=>k=Z+1) w3).setCell (p:=⟨Z+1,0,none⟩) (fun _=>rfl) _).setCell (p:=⟨Z+1,1,none⟩) (fun _=>rfl) _).setCell (p:=⟨Z+1,2,none⟩) (fun _=>rfl) _
     have hgwl:=(Cq dR.out.1)
     have hzl:=HW.out.2
     have hbw:Below w.heap.size w w2.drew.drew:=HB.out _ (Below.drew (Below.drew (Below.refl _ _)))
     have s4:Sf w3 w4:=Sf.aG f4 DC.out (.inr (.inl rfl))
     have F4:Fr (fun k=>k=gw) w w4:=((Fr.of_below hbw).trans hf fun _ _ x=>x).trans f4 fun k hk e=>by omega
     have hne:∀{k:Nat} {cs:Array Value} {T:TypeId},w3.heap[k]?=some (.cells cs T (0,0))→T≠43→w4.heap[k]?=w3.heap[k]?:=fun {k cs T} hc hT=>f4.block k (Cq hc) fun e=>hT (aj (by rw[←e];exact hc) DC.out)
     obtain⟨p,ht⟩:=hk.row
     have hz3:=(hf.block Z (Cq HZ1.out.1) (fun e=>by omega)).trans HZ1.out.1
     rw[HL.out.2] at hw4 ⊢
     refine⟨(hne hr (by decide)).trans hr,(s4.tab hk (hne ht (by decide))).mono fun k h _=>Cz hbw.size h,(s4.os ho fun k hk=>let ⟨_,hc⟩:=(ho.own hk).2.2;hne hc (by decide)).mono hbw.size,(f4.block Z (Cq hz3) (by omega)).trans hz3,by rw[hw4];exact st3 DC.out,F4.block gs (Cq HG.out.1) fun e=> ?_,F4⟩
     have h1:=HG.out.1
     rw[e] at h1
     exact absurd (aj h1 dR.out.1) (by decide));clear hw4 s0 s1 s2 sf;obtain⟨d1,d2,d3,d4,d5,d6,d7⟩:=H4.out;have c4':w4.cell? ⟨gw,4,none⟩=some (.int .i64 (cur:Int)):=Kq 4 d1;have f4':w4.frozen? ⟨gw,4,none⟩=false:=Kj d1;have g0:w4.cell? ⟨Z+1,0,none⟩=some (.bool true):=Kq 0 d5;have g1:w4.cell? ⟨Z+1,1,none⟩=some (.slice A n c):=Kq 1 d5;have g2:w4.cell? ⟨Z+1,2,none⟩=some (.slice none 0 0):=Kq 2 d5;have z0:w4.cell? ⟨Z,0,none⟩=some (.bool false):=Kq 0 d4;have z1:w4.cell? ⟨Z,1,none⟩=some (.slice none 0 0):=Kq 1 d4;have z2:w4.cell? ⟨Z,2,none⟩=some (.slice none 0 0):=Kq 2 d4;have zf:∀j,w4.frozen? ⟨Z,j,none⟩=false:=(fun j=>Kj d4);((with_reducible refine(XE (n:=M.rev) (HG.out.2 w4 d6)).mono ?_);rintro e w5 ⟨rfl,rfl⟩;clear d1 d2 d3 d4 d5 d6 d7))
   | fail)
  obtain⟨d1,d2,d3,d4,d5,d6,d7⟩:=H4.out
  obtain⟨e1,e2,e3,e4,e5,e6⟩:=Fa (rev:=M.rev) (an:=true) d1 d2 d4 d3 (OS.nil w4 w.heap.size)
  exact bodyPost_ret (dB _ rfl rfl e5 Tryz.underlying43 rC) rfl ⟨true,_,_,eX,_,l,[],rfl,e3,e4,e1,e2.mono fun k h _=>.inr h,(d7.trans e6 fun k hk e=>e.elim id fun e=>by have:=HW.out.2;omega).mono fun _ _ h=>.inl h,.inr HGx.out,.inl ⟨HC.out,rfl,by rw[HL.out.1],HL.out.1,rfl⟩⟩
 ·have hcb':M.base≤cur:=by omega
  have HC:=Hj hcb'
  have q2:¬(cur:Int)<(M.base:Int):=by omega
  clear hcb hcb'
  go_enter Tryz.func11,Tryz.ntmps11
  go_wp2
  rw[←HW.out.1,←HW.out.2]
  go_region_held3 (fun w'=>w'.cell? ⟨gw,4,none⟩=some (.int .i64 (cur:Int))) (first | assumption | go_keep) (first
   | (go_at_call 12;((with_reducible refine(Fp.out w2.drew (Below.drew (Below.refl _ _))).mono ?_);rintro e w3 ⟨rfl,rfl⟩))
   | fail)
  go_wp2
  go_region_held3 (fun w'=>w'.cell? ⟨gw,4,none⟩=some (.int .i64 (cur:Int))) (first | assumption | go_keep) (first
   | (go_at_call 37;((with_reducible refine(HBs.out w2.drew.drew (Below.drew (Below.drew (Below.refl _ _)))).mono ?_);rintro e w3 ⟨rfl,rfl⟩))
   | fail)
  go_wp2_with (first
   | (go_at_call 39;((with_reducible refine(HEv.out HC.out w2.drew.drew (Below.drew (Below.drew (Below.refl _ _)))).mono ?_);rintro e we ⟨Ae,ce,zs,rfl,h1,h2,h3,h4⟩;obtain⟨n,hn⟩:∃n,n=zs.length:=⟨_,rfl⟩;rw[←hn] at h1 ⊢;have HE:=Hj (And.intro h1 (And.intro h2 (And.intro h3 (And.intro h4 hn))));clear h1 h2 h3 h4 hn))
   | fail)
  obtain⟨E,hE⟩:∃E,E=M.evs.drop (cur-M.base):=⟨_,rfl⟩
  have Yh:Hid (zs.map (fun y=>(y.1,y.2.2))=E∧E.length=n∧n≤90000∧K.length+n≤90000∧∀e∈E,e∈M.evs):=Hj (by
   have h2:=HE.out.2.1
   have h5:=HE.out.2.2.2.2
   have hl:E.length=n:=by rw[hE,←h2,List.length_map,h5]
   have hle:n≤M.evs.length:=by rw[←hl,hE,List.length_drop];omega
   have:=HN.out
   exact⟨by rw[h2,hE],hl,by omega,by omega,fun e he=>by rw[hE] at he;exact List.mem_of_mem_drop he⟩)
  have HEd:=Hj hE
  clear hE
  go_loopg [26] n (fun gk s26 wr=>∃i:Nat,s26=.int .i64 (i:Int)∧i+gk=n∧TI P w1 wr gw gt (Z+1) kind space all cur ((E.take i).foldl (lC kind space all) K) false ((E.take i).foldl (iU false kind space all) []) ((E.take i).foldl (iU true kind space all) [])∧EL wr w2.heap.size (.slice Ae n ce) zs∧(∀y∈zs,dI wr y.2.1 y.2.2)∧w2.heap.size≤wr.heap.size∧Sf w2 wr)
  case atStart=>exact⟨0,rfl,by omega,HT0.out we ((Below.drew (Below.drew (Below.refl _ _))).trans HE.out.2.2.2.1),HE.out.1,HE.out.2.2.1,HE.out.2.2.2.1.size,Sf.of_below ((Below.drew (Below.drew (Below.refl _ _))).trans HE.out.2.2.2.1)⟩
  case round=>
   obtain⟨i,rfl,hi,hti,hel,XB,hsz,hsf⟩:=hrel
   have HI:=Hj hi
   have HTi:=Hj hti
   have XQ:=Hj (And.intro hel (And.intro XB (And.intro hsz hsf)))
   by_cases hlt:i<n
   ·obtain ⟨y,hy⟩:∃y,zs[i]?=some y:=⟨_,List.getElem?_eq_getElem (by rw[←HE.out.2.2.2.2];exact hlt)⟩
    obtain⟨d,u,o⟩:=y
    obtain⟨lg,lo,rfl,j0,j1,j2,j3,j4,j5,j6⟩:=Me hel hy
    dsimp only at j0 j1 j2 j3 j4 j5 j6
    have MB:=XB _ (List.mem_of_getElem? hy)
    dsimp only at MB
    have hEi:E[i]?=some (d,o):=by rw[←Yh.out.1,List.getElem?_map,hy];rfl
    have hok:=Nh.out _ (Yh.out.2.2.2.2 _ (List.mem_of_getElem? hEi))
    dsimp only at hok
    have htk:E.take (i+1)=E.take i++[(d,o)]:=by
     obtain⟨g1,g2⟩:=List.getElem?_eq_some_iff.1 hEi
     rw[List.take_succ_eq_append_getElem g1,g2]
    have hin:(E.take i).length≤n:=by rw[List.length_take];omega
    have HTk:Hid (∀W,Below wr.heap.size wr W→Calls Tryz.prog 40 #[.pointer (some ⟨gw,0,none⟩),.pointer (some ⟨Z+1,0,none⟩),.agg #[.int .i64 (o.ver:Int),.bool d,.int .i64 u.kind,.string u.space,.string u.name,.int .i64 u.ver,.slice u.A u.n u.c]] W fun e w'=>e=.returned (.tuple #[])∧TI P w1 w' gw gt (Z+1) kind space all cur ((E.take (i+1)).foldl (lC kind space all) K) false ((E.take (i+1)).foldl (iU false kind space all) []) ((E.take (i+1)).foldl (iU true kind space all) [])∧Sf W w'):=Hj fun W hW=>by
     rw[htk,List.foldl_append,List.foldl_append,List.foldl_append]
     have l1:=sZ kind space all (E.take i) K
     have l2:=tq false kind space all (E.take i) []
     have l3:=tq true kind space all (E.take i) []
     simp only[List.length_nil] at l2 l3
     have:=Yh.out.2.2.1
     have:=Yh.out.2.2.2.1
     exact takeW (hti.below hW) d (o.ver:Int) u o (MB.below hW) (by rw[MB.num];exact hok.1) (by rw[MB.space];exact hok.2.1) (by rw[MB.name];exact hok.2.2) (by omega) (by omega) (by omega)
    have i0:(0:Int)≤(i:Int):=Int.natCast_nonneg i
    have i1:(i:Int)<(n:Int):=Int.ofNat_lt.2 hlt
    have i2:(i:Int)≤100000:=by have:=Yh.out.2.2.1;omega
    have CP:=Hj hlt
    clear hi hti hel XB hsz hsf hlt hy MB hEi hok htk hin
    go_wp2_with (first
     | (go_at_call 40;((with_reducible refine(HTk.out _ ((Below.refl _ wr).alloc Kv _)).mono ?_);rintro e w7 ⟨rfl,h1,h2⟩;have T7:=Hj h1;have S7:Hid (Sf wr w7):=Hj ((Sf.of_below ((Below.refl _ wr).alloc Kv _)).trans h2);clear h1 h2))
     | fail)
    go_roundg (gk-1)
    case measure=>have:=HI.out;have:=CP.out;omega
    case rel=>exact⟨i+1,by go_num,by have:=HI.out;have:=CP.out;omega,T7.out,S7.out.own XQ.out.1 (by decide) (by decide) (by decide) (by decide),fun y hy=>S7.out.Rj (XQ.out.2.1 y hy),Cz XQ.out.2.2.1 (let ⟨_,h,_⟩:=S7.out;h.size),XQ.out.2.2.2.trans S7.out⟩
   ·obtain rfl:i=n:=by omega
    rw[List.take_of_length_le (by rw[Yh.out.2.1];exact Nat.le_refl _)] at hti
    obtain⟨pv,dv,hr,ho1,ho2,-⟩:=hti.rep
    obtain⟨A1,c1,rfl,-,-⟩:=ho1.form
    obtain⟨A2,c2,rfl,-,-⟩:=ho2.form
    obtain⟨n1,hn1⟩:∃q,q=((E.foldl (iU false kind space all) []).length):=⟨_,rfl⟩
    obtain⟨n2,hn2⟩:∃q,q=((E.foldl (iU true kind space all) []).length):=⟨_,rfl⟩
    rw[←hn1,←hn2] at hr
    rw[←hn1] at ho1
    rw[←hn2] at ho2
    have Jp:wr.heap[Z]?=some (.cells #[.bool false,.slice none 0 0,.slice none 0 0] 43 (0,0)):=(hti.fr.block Z (Cq HZ0.out.1) fun e=>by have:=HGt.out.1;have:=HW.out.2;omega).trans HZ0.out.1
    have F0:Fr (fun k=>k=gt) w wr:=(Fr.of_below HZ0.out.2.2).trans hti.fr fun _ _ x=>x
    have hgs:wr.heap[gs]?=w.heap[gs]?:=F0.block gs (Cq HG.out.1) HGt.out.2
    have H4:=Hj (And.intro hti.row (And.intro hti.tab (And.intro Jp (And.intro ho1 (And.intro ho2 (And.intro hgs F0))))))
    have c4':wr.cell? ⟨gw,4,none⟩=some (.int .i64 (cur:Int)):=Kq 4 hti.row
    have f4':wr.frozen? ⟨gw,4,none⟩=false:=Kj hti.row
    have g0:wr.cell? ⟨Z+1,0,none⟩=some (.bool false):=Kq 0 hr
    have g1:wr.cell? ⟨Z+1,1,none⟩=some (.slice A1 n1 c1):=Kq 1 hr
    have g2:wr.cell? ⟨Z+1,2,none⟩=some (.slice A2 n2 c2):=Kq 2 hr
    have z0:wr.cell? ⟨Z,0,none⟩=some (.bool false):=Kq 0 Jp
    have z1:wr.cell? ⟨Z,1,none⟩=some (.slice none 0 0):=Kq 1 Jp
    have z2:wr.cell? ⟨Z,2,none⟩=some (.slice none 0 0):=Kq 2 Jp
    have zf:∀j,wr.frozen? ⟨Z,j,none⟩=false:=fun j=>Kj Jp
    clear hi hti hel XB hsz hsf hlt hr ho1 ho2 hn1 hn2 Jp hgs F0
    go_wp2_with (first
     | (go_at_call 12;((with_reducible refine(XE (n:=M.rev) (HG.out.2 wr H4.out.2.2.2.2.2.1)).mono ?_);rintro e w5 ⟨rfl,rfl⟩))
     | fail)
    obtain⟨d1,d2,d3,d4,d5,d6,d7⟩:=H4.out
    obtain⟨e1,e2,e3,e4,e5,e6⟩:=Fa (rev:=M.rev) (an:=false) d1 d2 d3 d4 d5
    have hle:=HZ0.out.2.2.size
    exact bodyPost_ret (dB _ rfl rfl e5 Tryz.underlying43 rC) rfl ⟨false,_,_,gt,_,_,_,rfl,e3.mono hle,e4.mono hle,e1,e2.mono fun k h _=>h.imp id fun h=>Cz hle h,(d7.mono fun _ _ h=>.inr h).trans e6 fun k hk e=>e.elim .inl fun e=>by have:=HW.out.2;omega,.inl rfl,.inr ⟨HC.out,rfl,by rw[HEd.out],by rw[HEd.out],by rw[HEd.out]⟩⟩
end
end Go.Proofs.YtdhbpajamlfacaaGreatDoor
