/- Layer 21 (watch): Sync, Cursor. -/
import Derived.Test.YtdhbpajamlfacaaGreatDoorWm
import Derived.Test.YtdhbpajamlfacaaGreatDoorZb
set_option maxHeartbeats 8000000
set_option maxRecDepth 100000
namespace Go.Proofs.YtdhbpajamlfacaaGreatDoor
open Go.RowKit SO
theorem OG {we:World} {base n c j:Nat} {Az:Option Addr} {zs:List (Bool×(OV×aC))} {y:Bool×(OV×aC)} (h:EL we base (.slice Az n c) zs) (hy:zs[j]?=some y):
 ∃lg lo,Az=some ⟨lg,lo,none⟩∧we.cell? ⟨lg,lo+j*7,none⟩=some (.int .i64 (y.2.2.ver:Int))∧we.cell? ⟨lg,lo+j*7+1,none⟩=some (.bool y.1)∧we.cell? ⟨lg,lo+j*7+2,none⟩=some (.int .i64 y.2.1.kind)∧we.cell? ⟨lg,lo+j*7+3,none⟩=some (.string y.2.1.space)∧we.cell? ⟨lg,lo+j*7+4,none⟩=some (.string y.2.1.name)∧we.cell? ⟨lg,lo+j*7+5,none⟩=some (.int .i64 y.2.1.ver)∧we.cell? ⟨lg,lo+j*7+6,none⟩=some (.slice y.2.1.A y.2.1.n y.2.1.c):=by
 have hl:0<(iK zs).length:=by
  have h3:=h.1
  have h4:=(fA.1 hy).1
  omega
 obtain⟨lg,lo,cap,hA,-,-,hc⟩:=h.cells hl
 injection hA with hA _ _
 have hg:∀i x,([.int .i64 (y.2.2.ver:Int),.bool y.1,.int .i64 y.2.1.kind,.string y.2.1.space,.string y.2.1.name,.int .i64 y.2.1.ver,sl y.2.1]:List Value)[i]?=some x→we.cell? ⟨lg,lo+(j*7+i),none⟩=some x:=fun i x hx=>hc _ x (flat_get _ 7 (fun _=>rfl) zs j y i x hy hx)
 have e0:∀i,lo+(j*7+i)=lo+j*7+i:=fun i=>by omega
 refine⟨lg,lo,hA,?_,?_,?_,?_,?_,?_,?_⟩
 ·have:=hg 0 _ rfl;rw[e0] at this;exact this
 ·have:=hg 1 _ rfl;rw[e0] at this;exact this
 ·have:=hg 2 _ rfl;rw[e0] at this;exact this
 ·have:=hg 3 _ rfl;rw[e0] at this;exact this
 ·have:=hg 4 _ rfl;rw[e0] at this;exact this
 ·have:=hg 5 _ rfl;rw[e0] at this;exact this
 ·have:=hg 6 _ rfl;rw[e0] at this;exact this
section
variable {w w0:World} {Q P:Nat→Prop} {g gs gw gt cur:Nat} {m:DM} {L:LM} {M:bQ} {ea:Nat→Addr} {kind:Int} {space:ByteArray} {all:Bool} {K:List (ByteArray×aC)}
theorem MF (hw:iY w gw gt kind space all cur):Cl 14 #[pt gw] w fun e w'=>e=.returned (.int .i64 (cur:Int))∧w=w':=by
 have c4:w.cell? ⟨gw,4,none⟩=some (.int .i64 (cur:Int)):=Kq 4 hw
 clear hw
 go_enter Tryz.func14,Tryz.ntmps14
 go_wp2
 go_ret
 exact⟨rfl,rfl⟩
theorem CY (kind:Int) (space:ByteArray) (all:Bool):∀(l:List (Bool×aC)) (K:List (ByteArray×aC)),(l.foldl (mZ kind space all) K).length≤K.length+l.length
 | [],K=>bZ _
 | e::l,K=>by
  have h1:=CY kind space all l (mZ kind space all K e)
  have h2:(mZ kind space all K e).length≤K.length+1:=by
   unfold mZ
   split
   ·split
    ·exact Cz mM.length_le (Nat.le_succ _)
    ·rw [kC];split<;>omega
   ·omega
  rw[lC,qV]
  omega
theorem nZ (d:Bool) (kind:Int) (space:ByteArray) (all:Bool):∀(l:List (Bool×aC)) (q:List aC),(l.foldl (iZ d kind space all) q).length≤q.length+l.length
 | [],q=>bZ _
 | e::l,q=>by
  have h1:=nZ d kind space all l (iZ d kind space all q e)
  have h2:(iZ d kind space all q e).length≤q.length+1:=by
   unfold iZ
   split
   ·rw [bP];exact bZ _
   ·omega
  rw[lC,qV]
  omega
theorem revC {n:Nat} (h:w.cell? ⟨gs,2,none⟩=some (.int .i64 (n:Int))):Cl 12 #[pt gs] w fun e w'=>e=.returned (.int .i64 (n:Int))∧w=w':=by
 go_enter Tryz.func12,Tryz.ntmps12
 go_wp2
 go_ret
 exact⟨rfl,rfl⟩
/-- The end of a Sync. -/
theorem Ij {W:World} {gx Z rev base:Nat} {an:Bool} {c0 c1 c2 pv dv:Value} {lp ld:List aC} (hr:iY W gw gx kind space all cur) (hk:KT W P gx K) (hz:W.heap[Z]?=some (.cells #[c0,c1,c2] 43 (0,0))) (hp:OS W base pv lp) (hd:OS W base dv ld):
  iY ((((W.setCell ⟨gw,4,none⟩ (.int .i64 (rev:Int))).setCell ⟨Z,0,none⟩ (.bool an)).setCell ⟨Z,1,none⟩ pv).setCell ⟨Z,2,none⟩ dv) gw gx kind space all rev∧KT ((((W.setCell ⟨gw,4,none⟩ (.int .i64 (rev:Int))).setCell ⟨Z,0,none⟩ (.bool an)).setCell ⟨Z,1,none⟩ pv).setCell ⟨Z,2,none⟩ dv) P gx K∧OS ((((W.setCell ⟨gw,4,none⟩ (.int .i64 (rev:Int))).setCell ⟨Z,0,none⟩ (.bool an)).setCell ⟨Z,1,none⟩ pv).setCell ⟨Z,2,none⟩ dv) base pv lp∧OS ((((W.setCell ⟨gw,4,none⟩ (.int .i64 (rev:Int))).setCell ⟨Z,0,none⟩ (.bool an)).setCell ⟨Z,1,none⟩ pv).setCell ⟨Z,2,none⟩ dv) base dv ld∧
  ((((W.setCell ⟨gw,4,none⟩ (.int .i64 (rev:Int))).setCell ⟨Z,0,none⟩ (.bool an)).setCell ⟨Z,1,none⟩ pv).setCell ⟨Z,2,none⟩ dv).heap[Z]?=some (.cells #[.bool an,pv,dv] 43 (0,0))∧Fr (fun k=>k=gw∨k=Z) W ((((W.setCell ⟨gw,4,none⟩ (.int .i64 (rev:Int))).setCell ⟨Z,0,none⟩ (.bool an)).setCell ⟨Z,1,none⟩ pv).setCell ⟨Z,2,none⟩ dv):=by
 obtain⟨W1,hW1⟩:∃W1,W1=W.setCell ⟨gw,4,none⟩ (.int .i64 (rev:Int)):=⟨_,rfl⟩
 have hne:Z≠gw:=fun e=>by subst e;exact absurd (ak hz hr) (by decide)
 have f1:Fr (fun k=>k=gw) W W1:=by rw[hW1];exact(Fr.refl (fun k=>k=gw) W).setCell (p:=⟨gw,4,none⟩) (fun _=>rfl) _
 have r1:iY W1 gw gx kind space all rev:=by rw[hW1];exact aI _ _ 4 _ _ _ hr
 have s1:Sf W W1:=Sf.aK f1 hr (.inr (.inr (.inr rfl)))
 have z1:=(f1.block Z (Cq hz) hne).trans hz
 rw[←hW1]
 obtain⟨W2,hW2⟩:∃W2,W2=((W1.setCell ⟨Z,0,none⟩ (.bool an)).setCell ⟨Z,1,none⟩ pv).setCell ⟨Z,2,none⟩ dv:=⟨_,rfl⟩
 rw[←hW2]
 have f2:Fr (fun k=>k=Z) W1 W2:=by rw[hW2];exact(((Fr.refl (fun k=>k=Z) W1).setCell (p:=⟨Z,0,none⟩) (fun _=>rfl) _).setCell (p:=⟨Z,1,none⟩) (fun _=>rfl) _).setCell (p:=⟨Z,2,none⟩) (fun _=>rfl) _
 have s2:Sf W1 W2:=Sf.aK f2 z1 (.inr (.inl rfl))
 have hF:Fr (fun k=>k=gw∨k=Z) W W2:=(f1.mono fun _ _ h=>.inl h).trans f2 fun _ _ h=>.inr h
 have hS:=s1.trans s2
 obtain⟨p,ht⟩:=hk.row
 have ho:∀{v:Value} {l:List aC},OS W base v l→OS W2 base v l:=fun {v l} h=>hS.os h fun k hk=>hF.block k (h.own hk).2.1 fun e=>by
  obtain⟨_,hc⟩:=(h.own hk).2.2
  rcases e with e | e
  ·rw [e] at hc;exact absurd (ak hc hr) (by decide)
  ·rw [e] at hc;exact absurd (ak hc hz) (by decide)
 refine⟨(f2.block gw (Cq r1) (fun e=>hne e.symm)).trans r1,hS.tab hk (hF.block gx (Cq ht) fun e=> ?_),ho hp,ho hd,by rw[hW2];exact st3 z1,hF⟩
 rcases e with e | e
 ·rw [e] at ht;exact absurd (ak ht hr) (by decide)
 ·rw [e] at ht;exact absurd (ak ht hz) (by decide)
/-- What a Sync finds. -/
def og (M:bQ) (kind:Int) (space:ByteArray) (all:Bool) (cur:Nat) (K:List (ByteArray×aC)) (l:List aC) (an:Bool) (K':List (ByteArray×aC)) (lp ld:List aC):Prop:=
 (cur<M.base∧an=true∧K'=l.foldl gZ []∧lp=l∧ld=vO K (l.foldl gZ []))∨
 (M.base≤cur∧an=false∧K'=(M.evs.drop (cur-M.base)).foldl (mZ kind space all) K∧lp=(M.evs.drop (cur-M.base)).foldl (iZ false kind space all) []∧ld=(M.evs.drop (cur-M.base)).foldl (iZ true kind space all) [])
end
section
variable {w w0:World} {Q P:Nat→Prop} {g gs gw gt cur:Nat} {m:DM} {L:LM} {M:bQ} {ea:Nat→Addr} {kind:Int} {space:ByteArray} {all:Bool} {K:List (ByteArray×aC)}
theorem MG (h:SW w0 w Q g m gs L M) (hw:iY w gw gt kind space all cur) (hK:KT w P gt K) (hc:cur≤M.rev) (l:List aC) (hLs:∀W,Bw w W→Cl 83 #[pt gw,pt gs] W fun e w'=>∃v,e=.returned v∧OS w' W.heap.size v l∧Bw W w') (hlo:∀o∈l,o.data.length≤1000000∧o.space.size≤1000∧o.name.size≤1000) (hll:l.length≤100000) (hm:M.rev≤1099511627776) (hev:K.length+M.evs.length≤90000):
  Cl 11 #[pt gw,pt gs] w fun e w'=>∃an pv dv iT K' lp ld,e=.returned (.tuple #[.agg #[.bool an,pv,dv],.nilIface])∧OS w' w.heap.size pv lp∧OS w' w.heap.size dv ld∧iY w' gw iT kind space all M.rev∧KT w' (fun k=>P k∨w.heap.size≤k) iT K'∧Fr (fun k=>k=gw∨k=gt) w w'∧(iT=gt∨w.heap.size≤iT)∧og M kind space all cur K l an K' lp ld:=by
 obtain⟨w2,hw2⟩:∃W,W=(w.alloc (.cells #[.bool false,.slice none 0 0,.slice none 0 0] 43)).alloc (.cells #[.bool false,.slice none 0 0,.slice none 0 0] 43):=⟨_,rfl⟩
 obtain⟨k1,k2,k3⟩:=aP w (.cells #[.bool false,.slice none 0 0,.slice none 0 0] 43) (.cells #[.bool false,.slice none 0 0,.slice none 0 0] 43)
 obtain⟨w1,hw1⟩:∃W,W=w.alloc (.cells #[.bool false,.slice none 0 0,.slice none 0 0] 43):=⟨_,rfl⟩
 have b01:Bw w w1:=by rw[hw1];exact(aj _ w).alloc Kv _
 have b12:Bw w1 w2:=by rw[hw2,←hw1];exact(aj _ w1).alloc Kv _
 have hz1:w1.heap[w.heap.size]?=some (.cells #[.bool false,.slice none 0 0,.slice none 0 0] 43 (0,0)):=by rw[hw1];exact aA w _
 have hs1:w1.heap.size=w.heap.size+1:=by rw[hw1];simp
 rw[←hw2] at k1 k2 k3
 obtain⟨Z,hZ⟩:∃z,z=w.heap.size:=⟨_,rfl⟩
 rw[←hZ] at k1 k2 hz1 hs1
 have hrw:=(k3.block gw (Cq hw)).trans hw
 have HB:Hid (∀W,Bw w2 W→Bw w W):=Hj fun W hW=>k3.trans (hW.mono k3.size)
 have U3:Hid (∀W,Bw w2 W→Cl 12 #[pt gs] W fun e w'=>e=.returned (.int .i64 (M.rev:Int))∧W=w'):=Hj fun W hW=>UL (h.below (HB.out W hW))
 have HBs:Hid (∀W,Bw w2 W→Cl 37 #[pt gs] W fun e w'=>e=.returned (.int .i64 (M.base:Int))∧W=w'):=Hj fun W hW=>QM (h.below (HB.out W hW))
 have HAn:Hid (∀W,Bw w2 W→Cl 38 #[pt gw,pt gs] W fun e w'=>∃pv dv iT,e=.returned (.agg #[.bool true,pv,dv])∧OS w' W.heap.size pv l∧OS w' W.heap.size dv (vO K (l.foldl gZ []))∧iY w' gw iT kind space all cur∧KT w' (fun k=>W.heap.size≤k) iT (l.foldl gZ [])∧Fr (fun k=>k=gw) W w'∧W.heap.size≤iT):=Hj fun W hW=>
  anewW ((hW.block gw (Cq hrw)).trans hrw) (hK.below (HB.out W hW)) l (fun W' hW'=>hLs W' ((HB.out W hW).trans (hW'.mono (HB.out W hW).size))) hlo hll (by omega)
 have HEv:Hid (M.base≤cur→∀W,Bw w2 W→Cl 39 #[pt gs,.int .i64 (cur:Int)] W fun e w'=>∃A c zs,e=.returned (.tuple #[.slice A zs.length c,.nilIface])∧EL w' W.heap.size (.slice A zs.length c) zs∧zs.map (fun y=>(y.1,y.2.2))=M.evs.drop (cur-M.base)∧(∀y∈zs,dD w' y.2.1 y.2.2)∧Bw W w'):=Hj fun h1 W hW=>(Gj (cur:Int) (h.below (HB.out W hW)) (Int.natCast_nonneg _) (by omega) (by omega) (by omega) hm).mono fun e w' ⟨v,zs,h1,h2,h3,h4,h5⟩=>by
  obtain⟨A,c,rfl,-,-⟩:=ah.form h2
  exact⟨A,c,zs,h1,h2,h3,h4,h5⟩
 have KI:Hid (∀e∈M.evs,e.2.data.length≤1000000∧e.2.space.size≤1000∧e.2.name.size≤1000):=Hj fun e he=>by
  obtain⟨i,hi⟩:=jT.1 he
  have:=(h.ok.evs i _ hi).2
  have hd:=this.data
  obtain⟨p1,p2,p3,p4,p5⟩:=this.parts
  exact⟨by omega,by omega,by omega⟩
 obtain⟨gsr,hgs,hgt⟩:∃r:Array Value,w.heap[gs]?=some (.cells r 104 (0,0))∧∀W:World,W.heap[gs]?=w.heap[gs]?→W.cell? ⟨gs,2,none⟩=some (.int .i64 (M.rev:Int)):=by
  obtain⟨Z,gl,gt,sh,ev,xs,ys,hV,-,-⟩:=h.use
  exact⟨_,hV.cells,fun W hW=>Kq 2 (hW.trans hV.cells)⟩
 have HG:=Hj (aB hgs hgt)
 have HGt:Hid (gt<w.heap.size∧gs≠gt):=Hj (by
  obtain⟨p,ht⟩:=hK.row
  exact⟨(Cq ht),fun e=>by rw[e] at hgs;exact absurd (ak hgs ht) (by decide)⟩)
 have HN:=Hj hev
 have HT0:Hid (∀W,Bw w2 W→TI P w1 W gw gt (Z+1) kind space all cur K false [] []):=Hj fun W hW=>⟨(hW.block gw (Cq hrw)).trans hrw,(hK.below (HB.out W hW)).mono fun k h _=>.inl h,⟨_,_,(hW.block _ (Cq k2)).trans k2,OS.nil _ _,OS.nil _ _,fun k hk=>(by cases hk)⟩,Fr.of_below (b12.trans (hW.mono b12.size)),by omega⟩
 have HZ1:=Hj (aB k1 k2)
 have HZ0:=Hj (aB hz1 (aB hs1 b01))
 have HW:=Hj (aB hw2 hZ)
 have dZ:=Hj (aB hw hrw)
 have c4:w2.cell? ⟨gw,4,none⟩=some (.int .i64 (cur:Int)):=Kq 4 hrw
 have q1:¬(M.rev:Int)<(cur:Int):=by omega
 clear h hw hK hc hLs hlo hll hm hev hw1 b01 b12 hz1 hs1 hw2 k1 k2 k3 hZ hrw hgs hgt
 by_cases hcb:cur<M.base
 ·have HC:=Hj hcb
  have q2:(cur:Int)<(M.base:Int):=by omega
  clear hcb
  go_enter Tryz.func11,Tryz.ntmps11
  go_wp2
  rw[←HW.out.1,←HW.out.2]
  go_region_held3 (fun w'=>w'.cell? ⟨gw,4,none⟩=some (.int .i64 (cur:Int))) (first | assumption | go_keep) (first
   | (go_at_call 12;((refine(U3.out w2.drew (bV (aj _ _))).mono ?_);rintro e w3 ⟨rfl,rfl⟩))
   | fail)
  go_wp2
  go_region_held3 (fun w'=>w'.cell? ⟨gw,4,none⟩=some (.int .i64 (cur:Int))) (first | assumption | go_keep) (first
   | (go_at_call 37;((refine(HBs.out w2.drew.drew (bV (bV (aj _ _)))).mono ?_);rintro e w3 ⟨rfl,rfl⟩))
   | fail)
  go_wp2_with (first
   | (go_at_call 38;((refine(HAn.out w2.drew.drew (bV (bV (aj _ _)))).mono ?_);rintro e w3 ⟨pv,dv,iT,rfl,ho,ho2,hr,hk,hf,hx⟩;obtain⟨Ad,nd,cd,rfl⟩:∃A n c,dv=.slice A n c:=(let ⟨A,c,e,_⟩:=ho2.form;⟨A,_,c,e⟩);have HGx:Hid (w.heap.size≤iT):=Hj (Cz (HB.out w2 (aj _ _)).size hx);obtain⟨A,c,rfl,-,-⟩:=ho.form;have HO:=Hj (aB ho (aB hr (aB hk (aB hf ho2))));have hg3:=(hf.block (Z+1) (Cq HZ1.out.2) (fun e=>by have:=HW.out.2;have:=(Cq dZ.out.1);omega)).trans HZ1.out.2;have FN:=Hj hg3;have s0:w3.cell? ⟨Z+1,0,none⟩=some (.bool false):=Kq 0 hg3;have s1:w3.cell? ⟨Z+1,1,none⟩=some (.slice none 0 0):=Kq 1 hg3;have s2:w3.cell? ⟨Z+1,2,none⟩=some (.slice none 0 0):=Kq 2 hg3;have sf:∀j,w3.frozen? ⟨Z+1,j,none⟩=false:=(fun j=>Kj hg3);obtain⟨n,hn⟩:∃n,n=l.length:=⟨_,rfl⟩;rw[←hn];have HL:=Hj hn;clear ho ho2 hr hk hf hg3 hn hx))
   | (go_at_call 12;obtain⟨w4,hw4⟩:∃W,W=((w3.setCell ⟨Z+1,0,none⟩ (.bool true)).setCell ⟨Z+1,1,none⟩ (.slice A n c)).setCell ⟨Z+1,2,none⟩ (.slice Ad nd cd):=⟨_,rfl⟩;rw[←hw4];have H4:Hid (iY w4 gw iT kind space all cur∧KT w4 (fun k=>w.heap.size≤k) iT (l.foldl gZ [])∧OS w4 w.heap.size (.slice A n c) l∧w4.heap[Z]?=some (.cells #[.bool false,.slice none 0 0,.slice none 0 0] 43 (0,0))∧w4.heap[Z+1]?=some (.cells #[.bool true,.slice A n c,.slice Ad nd cd] 43 (0,0))∧w4.heap[gs]?=w.heap[gs]?∧Fr (fun k=>k=gw) w w4∧OS w4 w.heap.size (.slice Ad nd cd) (vO K (l.foldl gZ []))):=Hj (by
     obtain⟨ho,hr,hk,hf,ho2⟩:=HO.out
     have f4:Fr (fun k=>k=Z+1) w3 w4:=by rw[hw4];exact(((Fr.refl (fun k=>k=Z+1) w3).setCell (p:=⟨Z+1,0,none⟩) (fun _=>rfl) _).setCell (p:=⟨Z+1,1,none⟩) (fun _=>rfl) _).setCell (p:=⟨Z+1,2,none⟩) (fun _=>rfl) _
     have hgwl:=(Cq dZ.out.1)
     have hzl:=HW.out.2
     have hbw:Bw w w2.drew.drew:=HB.out _ (bV (bV (aj _ _)))
     have s4:Sf w3 w4:=Sf.aK f4 FN.out (.inr (.inl rfl))
     have F4:Fr (fun k=>k=gw) w w4:=((Fr.of_below hbw).trans hf fun _ _ x=>x).trans f4 fun k hk e=>by omega
     have hne:∀{k:Nat} {cs:Array Value} {T:TypeId},w3.heap[k]?=some (.cells cs T (0,0))→T≠43→w4.heap[k]?=w3.heap[k]?:=fun {k cs T} hc hT=>f4.block k (Cq hc) fun e=>hT (ak (by rw[←e];exact hc) FN.out)
     obtain⟨p,ht⟩:=hk.row
     have hz3:=(hf.block Z (Cq HZ1.out.1) (fun e=>by omega)).trans HZ1.out.1
     rw[HL.out] at hw4 ⊢
     refine⟨(hne hr (by decide)).trans hr,(s4.tab hk (hne ht (by decide))).mono fun k h _=>Cz hbw.size h,(s4.os ho fun k hk=>let ⟨_,hc⟩:=(ho.own hk).2.2;hne hc (by decide)).mono hbw.size,(f4.block Z (Cq hz3) (by omega)).trans hz3,by rw[hw4];exact st3 FN.out,F4.block gs (Cq HG.out.1) fun e=> ?_,F4,(s4.os ho2 fun k hk=>let ⟨_,hc⟩:=(ho2.own hk).2.2;hne hc (by decide)).mono hbw.size⟩
     have h1:=HG.out.1
     rw[e] at h1
     exact absurd (ak h1 dZ.out.1) (by decide));clear hw4 s0 s1 s2 sf;obtain⟨d1,d2,d3,d4,d5,d6,d7,d8⟩:=H4.out;have Xc:w4.cell? ⟨gw,4,none⟩=some (.int .i64 (cur:Int)):=Kq 4 d1;have f4':w4.frozen? ⟨gw,4,none⟩=false:=Kj d1;have g0:w4.cell? ⟨Z+1,0,none⟩=some (.bool true):=Kq 0 d5;have g1:w4.cell? ⟨Z+1,1,none⟩=some (.slice A n c):=Kq 1 d5;have g2:w4.cell? ⟨Z+1,2,none⟩=some (.slice Ad nd cd):=Kq 2 d5;have z0:w4.cell? ⟨Z,0,none⟩=some (.bool false):=Kq 0 d4;have z1:w4.cell? ⟨Z,1,none⟩=some (.slice none 0 0):=Kq 1 d4;have z2:w4.cell? ⟨Z,2,none⟩=some (.slice none 0 0):=Kq 2 d4;have zf:∀j,w4.frozen? ⟨Z,j,none⟩=false:=(fun j=>Kj d4);((with_reducible refine(revC (n:=M.rev) (HG.out.2 w4 d6)).mono ?_);rintro e w5 ⟨rfl,rfl⟩;clear d1 d2 d3 d4 d5 d6 d7 d8))
   | fail)
  obtain⟨d1,d2,d3,d4,d5,d6,d7,d8⟩:=H4.out
  obtain⟨e1,e2,e3,e4,e5,e6⟩:=Ij (rev:=M.rev) (an:=true) d1 d2 d4 d3 d8
  exact bg (dn _ rfl rfl e5 Tryz.underlying43 zK) rfl ⟨true,_,_,iT,_,l,_,rfl,e3,e4,e1,e2.mono fun k h _=>.inr h,(d7.trans e6 fun k hk e=>e.elim id fun e=>by have:=HW.out.2;omega).mono fun _ _ h=>.inl h,.inr HGx.out,.inl ⟨HC.out,rfl,rfl,rfl,rfl⟩⟩
 ·have hcb':M.base≤cur:=by omega
  have HC:=Hj hcb'
  have q2:¬(cur:Int)<(M.base:Int):=by omega
  clear hcb hcb'
  go_enter Tryz.func11,Tryz.ntmps11
  go_wp2
  rw[←HW.out.1,←HW.out.2]
  go_region_held3 (fun w'=>w'.cell? ⟨gw,4,none⟩=some (.int .i64 (cur:Int))) (first | assumption | go_keep) (first
   | (go_at_call 12;((refine(U3.out w2.drew (bV (aj _ _))).mono ?_);rintro e w3 ⟨rfl,rfl⟩))
   | fail)
  go_wp2
  go_region_held3 (fun w'=>w'.cell? ⟨gw,4,none⟩=some (.int .i64 (cur:Int))) (first | assumption | go_keep) (first
   | (go_at_call 37;((refine(HBs.out w2.drew.drew (bV (bV (aj _ _)))).mono ?_);rintro e w3 ⟨rfl,rfl⟩))
   | fail)
  go_wp2_with (first
   | (go_at_call 39;((refine(HEv.out HC.out w2.drew.drew (bV (bV (aj _ _)))).mono ?_);rintro e we ⟨Ae,ce,zs,rfl,h1,h2,h3,h4⟩;obtain⟨n,hn⟩:∃n,n=zs.length:=⟨_,rfl⟩;rw[←hn] at h1 ⊢;have HE:=Hj (aB h1 (aB h2 (aB h3 (aB h4 hn))));clear h1 h2 h3 h4 hn))
   | fail)
  obtain⟨E,hE⟩:∃E,E=M.evs.drop (cur-M.base):=⟨_,rfl⟩
  have HEE:Hid (zs.map (fun y=>(y.1,y.2.2))=E∧E.length=n∧n≤90000∧K.length+n≤90000∧∀e∈E,e∈M.evs):=Hj (by
   have h2:=HE.out.2.1
   have h5:=HE.out.2.2.2.2
   have hl:E.length=n:=by rw[hE,←h2,aX,h5]
   have hle:n≤M.evs.length:=by rw[←hl,hE,lu];omega
   have:=HN.out
   exact⟨by rw[h2,hE],hl,by omega,by omega,fun e he=>by rw[hE] at he;exact List.mem_of_mem_drop he⟩)
  have HEd:=Hj hE
  clear hE
  go_loopg [26] n (fun gk s26 wr=>∃i:Nat,s26=.int .i64 (i:Int)∧i+gk=n∧TI P w1 wr gw gt (Z+1) kind space all cur ((E.take i).foldl (mZ kind space all) K) false ((E.take i).foldl (iZ false kind space all) []) ((E.take i).foldl (iZ true kind space all) [])∧EL wr w2.heap.size (.slice Ae n ce) zs∧(∀y∈zs,dD wr y.2.1 y.2.2)∧w2.heap.size≤wr.heap.size∧Sf w2 wr)
  case atStart=>exact⟨0,rfl,by omega,HT0.out we ((bV (bV (aj _ _))).trans HE.out.2.2.2.1),HE.out.1,HE.out.2.2.1,HE.out.2.2.2.1.size,Sf.of_below ((bV (bV (aj _ _))).trans HE.out.2.2.2.1)⟩
  case round=>
   obtain⟨i,rfl,hi,hti,hel,AY,hsz,hsf⟩:=hrel
   have HI:=Hj hi
   have HTi:=Hj hti
   have PX:=Hj (aB hel (aB AY (aB hsz hsf)))
   by_cases hlt:i<n
   ·obtain ⟨y,hy⟩:∃y,zs[i]?=some y:=⟨_,fJ (by rw[←HE.out.2.2.2.2];exact hlt)⟩
    obtain⟨d,u,o⟩:=y
    obtain⟨lg,lo,rfl,j0,j1,j2,j3,j4,j5,j6⟩:=OG hel hy
    dsimp only at j0 j1 j2 j3 j4 j5 j6
    have OH:=AY _ (gJ hy)
    dsimp only at OH
    have hEi:E[i]?=some (d,o):=by rw[←HEE.out.1,dK,hy];rfl
    have hok:=KI.out _ (HEE.out.2.2.2.2 _ (gJ hEi))
    dsimp only at hok
    have htk:E.take (i+1)=E.take i++[(d,o)]:=by
     obtain⟨g1,g2⟩:=fA.1 hEi
     rw[mO g1,g2]
    have hin:(E.take i).length≤n:=by rw[eu];omega
    have HTk:Hid (∀W,Bw wr W→Cl 40 #[pt gw,.pointer (some ⟨Z+1,0,none⟩),.agg #[.int .i64 (o.ver:Int),.bool d,.int .i64 u.kind,.string u.space,.string u.name,.int .i64 u.ver,.slice u.A u.n u.c]] W fun e w'=>e=.returned (.tuple #[])∧TI P w1 w' gw gt (Z+1) kind space all cur ((E.take (i+1)).foldl (mZ kind space all) K) false ((E.take (i+1)).foldl (iZ false kind space all) []) ((E.take (i+1)).foldl (iZ true kind space all) [])∧Sf W w'):=Hj fun W hW=>by
     rw[htk,List.foldl_append,List.foldl_append,List.foldl_append]
     have l1:=CY kind space all (E.take i) K
     have l2:=nZ false kind space all (E.take i) []
     have l3:=nZ true kind space all (E.take i) []
     simp only[List.length_nil] at l2 l3
     have:=HEE.out.2.2.1
     have:=HEE.out.2.2.2.1
     exact takeW (hti.below hW) d (o.ver:Int) u o (OH.below hW) (by rw[OH.num];exact hok.1) (by rw[OH.space];exact hok.2.1) (by rw[OH.name];exact hok.2.2) (by omega) (by omega) (by omega)
    have i0:(0:Int)≤(i:Int):=Int.natCast_nonneg i
    have i1:(i:Int)<(n:Int):=Int.ofNat_lt.2 hlt
    have i2:(i:Int)≤100000:=by have:=HEE.out.2.2.1;omega
    have yN:=Hj hlt
    clear hi hti hel AY hsz hsf hlt hy OH hEi hok htk hin
    go_wp2_with (first
     | (go_at_call 40;((refine(HTk.out _ ((aj _ wr).alloc Kv _)).mono ?_);rintro e w7 ⟨rfl,h1,h2⟩;have T7:=Hj h1;have S7:Hid (Sf wr w7):=Hj ((Sf.of_below ((aj _ wr).alloc Kv _)).trans h2);clear h1 h2))
     | fail)
    go_roundg (gk-1)
    case measure=>have:=HI.out;have:=yN.out;omega
    case rel=>exact⟨i+1,by go_num,by have:=HI.out;have:=yN.out;omega,T7.out,S7.out.own PX.out.1 (by decide) (by decide) (by decide) (by decide),fun y hy=>S7.out.Ig (PX.out.2.1 y hy),Cz PX.out.2.2.1 (let ⟨_,h,_⟩:=S7.out;h.size),PX.out.2.2.2.trans S7.out⟩
   ·obtain rfl:i=n:=by omega
    rw[fO (by rw[HEE.out.2.1];exact bZ _)] at hti
    obtain⟨pv,dv,hr,ho1,ho2,-⟩:=hti.rep
    obtain⟨A1,c1,rfl,-,-⟩:=ho1.form
    obtain⟨A2,c2,rfl,-,-⟩:=ho2.form
    obtain⟨n1,hn1⟩:∃q,q=((E.foldl (iZ false kind space all) []).length):=⟨_,rfl⟩
    obtain⟨n2,hn2⟩:∃q,q=((E.foldl (iZ true kind space all) []).length):=⟨_,rfl⟩
    rw[←hn1,←hn2] at hr
    rw[←hn1] at ho1
    rw[←hn2] at ho2
    have CX:wr.heap[Z]?=some (.cells #[.bool false,.slice none 0 0,.slice none 0 0] 43 (0,0)):=(hti.fr.block Z (Cq HZ0.out.1) fun e=>by have:=HGt.out.1;have:=HW.out.2;omega).trans HZ0.out.1
    have F0:Fr (fun k=>k=gt) w wr:=(Fr.of_below HZ0.out.2.2).trans hti.fr fun _ _ x=>x
    have hgs:wr.heap[gs]?=w.heap[gs]?:=F0.block gs (Cq HG.out.1) HGt.out.2
    have H4:=Hj (aB hti.row (aB hti.tab (aB CX (aB ho1 (aB ho2 (aB hgs F0))))))
    have Xc:wr.cell? ⟨gw,4,none⟩=some (.int .i64 (cur:Int)):=Kq 4 hti.row
    have f4':wr.frozen? ⟨gw,4,none⟩=false:=Kj hti.row
    have g0:wr.cell? ⟨Z+1,0,none⟩=some (.bool false):=Kq 0 hr
    have g1:wr.cell? ⟨Z+1,1,none⟩=some (.slice A1 n1 c1):=Kq 1 hr
    have g2:wr.cell? ⟨Z+1,2,none⟩=some (.slice A2 n2 c2):=Kq 2 hr
    have z0:wr.cell? ⟨Z,0,none⟩=some (.bool false):=Kq 0 CX
    have z1:wr.cell? ⟨Z,1,none⟩=some (.slice none 0 0):=Kq 1 CX
    have z2:wr.cell? ⟨Z,2,none⟩=some (.slice none 0 0):=Kq 2 CX
    have zf:∀j,wr.frozen? ⟨Z,j,none⟩=false:=fun j=>Kj CX
    clear hi hti hel AY hsz hsf hlt hr ho1 ho2 hn1 hn2 CX hgs F0
    go_wp2_with (first
     | (go_at_call 12;((refine(revC (n:=M.rev) (HG.out.2 wr H4.out.2.2.2.2.2.1)).mono ?_);rintro e w5 ⟨rfl,rfl⟩))
     | fail)
    obtain⟨d1,d2,d3,d4,d5,d6,d7⟩:=H4.out
    obtain⟨e1,e2,e3,e4,e5,e6⟩:=Ij (rev:=M.rev) (an:=false) d1 d2 d3 d4 d5
    have hle:=HZ0.out.2.2.size
    exact bg (dn _ rfl rfl e5 Tryz.underlying43 zK) rfl ⟨false,_,_,gt,_,_,_,rfl,e3.mono hle,e4.mono hle,e1,e2.mono fun k h _=>h.imp id fun h=>Cz hle h,(d7.mono fun _ _ h=>.inr h).trans e6 fun k hk e=>e.elim .inl fun e=>by have:=HW.out.2;omega,.inl rfl,.inr ⟨HC.out,rfl,by rw[HEd.out],by rw[HEd.out],by rw[HEd.out]⟩⟩
end
/-- The block of the document's watcher. -/
def vU (w:World) (gy:Nat) (kind:Int) (space:ByteArray) (all:Bool) (kv:Value) (cur:Nat):Prop:=w.heap[gy]?=some (.cells #[.int .i64 kind,.string space,.bool all,kv,.int .i64 (cur:Int)] 58 (0,0))
theorem Dc {w:World} {gy cur:Nat} {kind:Int} {space:ByteArray} {all:Bool} {kv:Value} (h:vU w gy kind space all kv cur) (v:OV):
  Cl 50 #[pt gy,.agg (ov v)] w fun e w'=>e=.returned (.bool (iW kind space all v))∧Bw w w':=by
 obtain⟨w1,hw1,B,hB,hb1,hr1⟩:=bI w v
 have HB1:=Hj hb1
 have HW:=Hj (aB hw1 hB)
 obtain⟨x0,x1,x2,x3,x4⟩:VB w1 B v:=VB.aK hr1
 have hr:=(hb1.block gy (Cq h)).trans h
 have y0:w1.cell? ⟨gy,0,none⟩=some (.int .i64 kind):=Kq 0 hr
 have y1:w1.cell? ⟨gy,1,none⟩=some (.string space):=Kq 1 hr
 have y2:w1.cell? ⟨gy,2,none⟩=some (.bool all):=Kq 2 hr
 clear hw1 hB hb1 hr1 hr h
 have hc:((v.kind==kind)=true∧all=true∧iW kind space all v=true)∨((v.kind==kind)=true∧all=false∧(v.space.toList==space.toList)=true∧iW kind space all v=true)∨((v.kind==kind)=true∧all=false∧(v.space.toList==space.toList)=false∧iW kind space all v=false)∨((v.kind==kind)=false∧iW kind space all v=false):=by
  unfold iW
  by_cases hk:v.kind=kind
  ·cases all with
   | true=>exact .inl ⟨by simpa using hk,rfl,by simp[hk]⟩
   | false=>
    by_cases hs:v.space=space
    ·exact .inr (.inl ⟨by simpa using hk,rfl,by simp[hs],by simp[hk,hs]⟩)
    ·exact .inr (.inr (.inl ⟨by simpa using hk,rfl,gQ.2 fun e=>hs (lY e),by simp[hs]⟩))
  ·exact .inr (.inr (.inr ⟨by simpa using hk,by simp[hk]⟩))
 rcases hc with ⟨hk,rfl,hF⟩ | ⟨hk,rfl,hs,hF⟩ | ⟨hk,rfl,hs,hF⟩ | ⟨hk,hF⟩
 all_goals
  rw[hF]
  clear hF
  go_enter Tryz.func50,Tryz.ntmps50
  go_wp2
  rw[←HW.out.1,←HW.out.2]
  go_quiet (fail)
  go_wp2
  go_ret
  exact⟨rfl,HB1.out.trans (below_drewN (aj _ _) nq |>.mono HB1.out.size)⟩
/-- The document's watcher and its report, since ws stood. -/
structure YI (ws w:World) (gy gr:Nat) (kind:Int) (space:ByteArray) (all:Bool) (cur:Nat) (an:Bool) (kv pv dv:Value) (ko po dq:List (OV×aC)):Prop where
 row:vU w gy kind space all kv cur
 rep:w.heap[gr]?=some (.cells #[.bool an,pv,dv] 59 (0,0))
 kn:OL w 0 kv (ko.map Prod.fst)
 put:OL w ws.heap.size pv (po.map Prod.fst)
 del:OL w ws.heap.size dv (dq.map Prod.fst)
 pd:∀k,pv.ownBlock=some k→dv.ownBlock≠some k
 pk:∀k,pv.ownBlock=some k→kv.ownBlock≠some k
 dk:∀k,dv.ownBlock=some k→kv.ownBlock≠some k
 fr:Fr (fun k=>k=gy) ws w
 up:ws.heap.size≤gr
section
variable {ws W W1 W':World} {gy gr cur:Nat} {kind:Int} {space:ByteArray} {all an:Bool} {kv pv dv kv' pv' Xp v v':Value} {ko po dq ko' po' dq':List (OV×aC)} {l:List OV}
theorem fH {b k:Nat} {cs:Array Value} {T:TypeId} (h:OL W b v l) (hk:v.ownBlock=some k) (hr:W.heap[k]?=some (.cells cs T (0,0))) (hT:37≠T):False:=by
 obtain⟨_,hc⟩:=au h hk
 exact hT (ak hc hr)
theorem YI.below (h:YI ws W gy gr kind space all cur an kv pv dv ko po dq) (hb:Bw W W1):YI ws W1 gy gr kind space all cur an kv pv dv ko po dq:=
 ⟨(hb.block gy (Cq h.row)).trans h.row,(hb.block gr (Cq h.rep)).trans h.rep,h.kn.below hb,h.put.below hb,h.del.below hb,h.pd,h.pk,h.dk,h.fr.trans (Fr.of_below (S:=fun _=>False) hb) fun _ _ x=>x.elim,h.up⟩
theorem YI.setK (h:YI ws W gy gr kind space all cur an kv pv dv ko po dq) (hb:Bw W W1) (ho:OL W1 W.heap.size kv' (ko'.map Prod.fst)):YI ws (W1.setCell ⟨gy,3,none⟩ kv') gy gr kind space all cur an kv' pv dv ko' po dq:=by
 have h1:=h.below hb
 have hF:Fr (fun k=>k=gy) W1 (W1.setCell ⟨gy,3,none⟩ kv'):=(Fr.refl (fun k=>k=gy) W1).setCell (p:=⟨gy,3,none⟩) (fun _=>rfl) _
 refine⟨aI _ _ 3 _ _ _ h1.row,(hF.block gr (Cq h1.rep) fun e=> ?_).trans h1.rep,ah.kept (ah.mono ho fun _ _=>bU _) hF fun k hk e=> ?_,ah.kept h1.put hF fun k hk e=> ?_,ah.kept h1.del hF fun k hk e=> ?_,h.pd,fun k hk e=> ?_,fun k hk e=> ?_,h1.fr.trans hF fun _ _ x=>x,h.up⟩
 ·exact absurd (ak (by rw[←e];exact h1.rep) h1.row) (by decide)
 ·exact fH ho hk (by rw[e];exact h1.row) (by decide)
 ·exact fH h1.put hk (by rw[e];exact h1.row) (by decide)
 ·exact fH h1.del hk (by rw[e];exact h1.row) (by decide)
 ·have:=(ah.lt h.put k hk).2;have:=(ah.lt ho k e).1;omega
 ·have:=(ah.lt h.del k hk).2;have:=(ah.lt ho k e).1;omega
theorem YI.setP (h:YI ws W gy gr kind space all cur an kv pv dv ko po dq) (hb:Bw W W1) (ho:OL W1 W.heap.size pv' (po'.map Prod.fst)):YI ws (W1.setCell ⟨gr,1,none⟩ pv') gy gr kind space all cur an kv pv' dv ko po' dq:=by
 have h1:=h.below hb
 have hF:Fr (fun k=>k=gr) W1 (W1.setCell ⟨gr,1,none⟩ pv'):=(Fr.refl (fun k=>k=gr) W1).setCell (p:=⟨gr,1,none⟩) (fun _=>rfl) _
 have hu:=h.up
 have hs:=h.fr.size
 refine⟨(hF.block gy (Cq h1.row) fun e=> ?_).trans h1.row,aI _ _ 1 _ _ _ h1.rep,ah.kept h1.kn hF fun k hk e=> ?_,ah.kept (ah.mono ho fun k hk=> ?_) hF fun k hk e=> ?_,ah.kept h1.del hF fun k hk e=> ?_,fun k hk e=> ?_,fun k hk e=> ?_,h.dk,h1.fr.trans hF fun i hi e=>by omega,h.up⟩
 ·exact absurd (ak (by rw[←e];exact h1.row) h1.rep) (by decide)
 ·exact fH h1.kn hk (by rw[e];exact h1.rep) (by decide)
 ·have:=(ah.lt ho k hk).1;omega
 ·exact fH ho hk (by rw[e];exact h1.rep) (by decide)
 ·exact fH h1.del hk (by rw[e];exact h1.rep) (by decide)
 ·have:=(ah.lt h.del k e).2;have:=(ah.lt ho k hk).1;omega
 ·have:=(ah.lt h.kn k e).2;have:=(ah.lt ho k hk).1;omega
theorem YI.push (j:Nat) (x:OV×aC) (h:YI ws W gy gr kind space all cur an kv pv dv ko po dq) (hv:v=pv∧l=po.map Prod.fst∨v=dv∧l=dq.map Prod.fst) (ho:OL W' ws.heap.size v' (l++[x.1])) (hF:Fr (fun k=>some k=v.ownBlock) W W') (hat:v'.ownBlock=v.ownBlock∨∃k,v'.ownBlock=some k∧W.heap.size≤k):
  vU (W'.setCell ⟨gr,j,none⟩ v') gy kind space all kv cur∧W'.heap[gr]?=some (.cells #[.bool an,pv,dv] 59 (0,0))∧OL (W'.setCell ⟨gr,j,none⟩ v') 0 kv (ko.map Prod.fst)∧OL (W'.setCell ⟨gr,j,none⟩ v') ws.heap.size v' (l++[x.1])∧Fr (fun k=>k=gy) ws (W'.setCell ⟨gr,j,none⟩ v')∧(∀k,v'.ownBlock=some k→kv.ownBlock≠some k)∧Fr (fun k=>some k=v.ownBlock∨k=gr) W (W'.setCell ⟨gr,j,none⟩ v'):=by
 have hov:OL W ws.heap.size v l:=by
  rcases hv with ⟨rfl,rfl⟩ | ⟨rfl,rfl⟩
  ·exact h.put
  ·exact h.del
 have hkv:∀k,v.ownBlock=some k→kv.ownBlock≠some k:=by
  rcases hv with ⟨rfl,-⟩ | ⟨rfl,-⟩
  ·exact h.pk
  ·exact h.dk
 have hu:=h.up
 have hs:=h.fr.size
 have hr:W'.heap[gr]?=some (.cells #[.bool an,pv,dv] 59 (0,0)):=(hF.block gr (Cq h.rep) fun e=>fH hov e.symm h.rep (by decide)).trans h.rep
 have hS:Fr (fun k=>k=gr) W' (W'.setCell ⟨gr,j,none⟩ v'):=(Fr.refl (fun k=>k=gr) W').setCell (p:=⟨gr,j,none⟩) (fun _=>rfl) _
 have hG:Fr (fun k=>some k=v.ownBlock∨k=gr) W (W'.setCell ⟨gr,j,none⟩ v'):=(hF.mono fun _ _ x=>.inl x).trans hS fun _ _ x=>.inr x
 refine⟨(hG.block gy (Cq h.row) fun e=> ?_).trans h.row,hr,ah.kept h.kn hG fun k hk e=> ?_,ah.kept ho hS fun k hk e=> ?_,h.fr.trans hG fun i hi e=> ?_,fun k hk e=> ?_,hG⟩
 ·rcases e with e | e
  ·exact fH hov e.symm h.row (by decide)
  ·exact absurd (ak (by rw[←e];exact h.row) h.rep) (by decide)
 ·rcases e with e | e
  ·exact hkv k e.symm hk
  ·exact fH h.kn hk (by rw[e];exact h.rep) (by decide)
 ·exact fH ho hk (by rw[e];exact hr) (by decide)
 ·rcases e with e | e
  ·have:=(ah.lt hov i e.symm).1;omega
  ·omega
 ·rcases hat with hat | ⟨k',e',hk'⟩
  ·exact hkv k (by rw[←hat];exact hk) e
  ·rw [e'] at hk;injection hk with hk;have:=(ah.lt h.kn k e).2;omega
theorem YI.pushP (x:OV×aC) (h:YI ws W gy gr kind space all cur an kv pv dv ko po dq) (ho:OL W' ws.heap.size v' (po.map Prod.fst++[x.1])) (hF:Fr (fun k=>some k=pv.ownBlock) W W') (hat:v'.ownBlock=pv.ownBlock∨∃k,v'.ownBlock=some k∧W.heap.size≤k):YI ws (W'.setCell ⟨gr,1,none⟩ v') gy gr kind space all cur an kv v' dv ko (po++[x]) dq:=by
 obtain⟨k1,k2,k3,k4,k5,k6,k7⟩:=h.push 1 x (.inl ⟨rfl,rfl⟩) ho hF hat
 refine⟨k1,aI _ _ 1 _ _ _ k2,k3,by rw[dI];exact k4,ah.kept h.del k7 fun k hk e=> ?_,fun k hk e=> ?_,k6,h.dk,k5,h.up⟩
 ·rcases e with e | e
  ·exact h.pd k e.symm hk
  ·exact fH h.del hk (by rw[e];exact h.rep) (by decide)
 ·rcases hat with hat | ⟨k',e',hk'⟩
  ·exact h.pd k (by rw[←hat];exact hk) e
  ·rw [e'] at hk;injection hk with hk;have:=(ah.lt h.del k e).2;omega
theorem YI.MB (x:OV×aC) (h:YI ws W gy gr kind space all cur an kv pv dv ko po dq) (ho:OL W' ws.heap.size v' (dq.map Prod.fst++[x.1])) (hF:Fr (fun k=>some k=dv.ownBlock) W W') (hat:v'.ownBlock=dv.ownBlock∨∃k,v'.ownBlock=some k∧W.heap.size≤k):YI ws (W'.setCell ⟨gr,2,none⟩ v') gy gr kind space all cur an kv pv v' ko po (dq++[x]):=by
 obtain⟨k1,k2,k3,k4,k5,k6,k7⟩:=h.push 2 x (.inr ⟨rfl,rfl⟩) ho hF hat
 refine⟨k1,aI _ _ 2 _ _ _ k2,k3,ah.kept h.put k7 fun k hk e=> ?_,by rw[dI];exact k4,fun k hk e=> ?_,h.pk,k6,k5,h.up⟩
 ·rcases e with e | e
  ·exact h.pd k hk e.symm
  ·exact fH h.put hk (by rw[e];exact h.rep) (by decide)
 ·rcases hat with hat | ⟨k',e',hk'⟩
  ·exact h.pd k hk (by rw[←hat];exact e)
  ·rw [e'] at e;injection e with e;have:=(ah.lt h.put k hk).2;omega
end
end Go.Proofs.YtdhbpajamlfacaaGreatDoor
