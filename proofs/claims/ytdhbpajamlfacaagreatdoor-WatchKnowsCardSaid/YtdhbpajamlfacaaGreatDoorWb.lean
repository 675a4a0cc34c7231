/- The document's store (layer 20): Open on a disk that nothing stands on. -/
import Derived.Test.YtdhbpajamlfacaaGreatDoorRf
set_option maxRecDepth 100000
namespace Go.Proofs.YtdhbpajamlfacaaGreatDoor
open Go.RowKit SO
section
variable {w w' w0:World} {Z Q S X:Nat→Prop} {gs gl g:Nat} {m m':DM} {L L':LM} {M M':aY} {room:Int}
theorem Zv (w:World):Calls Tryz.prog 123 #[.slice none 0 0] w fun e w'=>∃q,e=.returned (.tuple #[.slice (some ⟨q,0,none⟩) 0 0,.int .i64 0])∧Below w.heap.size w w':=by
 have B0:=Hj fun o=>(Below.refl w.heap.size w).alloc Kv o
 go_enter Tryz.func123,Tryz.ntmps123
 go_wp2
 go_loopg [0,4] 0 (fun _ s0 s4 wr=>s0=.slice none 0 0∧∃q,s4=.slice (some ⟨q,0,none⟩) 0 0∧Below w.heap.size w wr)
 case atStart=>exact⟨rfl,_,rfl,B0.out _⟩
 case round=>
  obtain⟨rfl,q,rfl,hb⟩:=hrel
  have HB:=Hj hb
  clear hb
  go_wp2
  exact bodyPost_ret (results_tmp2 rfl _ _ _) rfl ⟨q,rfl,HB.out⟩
theorem Xe (a:Addr) (w:World):Calls Tryz.prog 69 #[.pointer (some a),.slice none 0 0] w fun e w'=>e=.returned (.bool true)∧Below w.heap.size w w':=by
 have HA:=Hj (Zv w)
 go_enter Tryz.func69,Tryz.ntmps69
 go_wp2_with (first
  | (go_at_call 123;((with_reducible refine HA.out.mono ?_);rintro e w2 ⟨q,rfl,hb⟩;have HB:=Hj hb;clear hb))
  | fail)
 go_ret
 exact⟨rfl,HB.out⟩
set_option maxHeartbeats 4000000 in
theorem Zw (hn:y9 w0 w g m.room) (hL:uh m L (fun _=>0) ⟨0,1,[]⟩):Calls Tryz.prog 26 #[.pointer (some ⟨g,0,none⟩)] w fun e w'=>∃gs,e=.returned (.tuple #[.pointer (some ⟨gs,0,none⟩),.int .i64 0])∧dO w0 w' (fun k=>w0.heap.size≤k∧k<w'.heap.size) gs m L st0:=by
 have HO:=Hj (WM hn)
 have HN:=Hj hn
 have HLk:=Hj hL
 clear hn hL
 go_enter Tryz.func26,Tryz.ntmps26
 go_wp2_with (first
  | (go_at_call 68;((with_reducible refine HO.out.mono ?_);rintro e w1 ⟨gl,qa,rfl,ho⟩;have O1:=Hj ho;have p3:∀o,(w1.alloc o).cell? ⟨gl,3,none⟩=some (.slice none 0 0):=(fun o=>Kz ((Below.refl _ w1).alloc Kv o) _ _ (Kq 3 ho.log));clear ho))
  | (go_at_call 69;((with_reducible refine(Xe _ _).mono ?_);rintro e w2 ⟨rfl,hb⟩;have HB:=Hj hb;have p4:w2.cell? ⟨gl,4,none⟩=some (.slice none 0 0):=Kz hb _ _ (Kz ((Below.refl _ w1).alloc Kv _) _ _ (Kq 4 O1.out.log));clear hb))
  | fail)
 go_loopg [34] 0 (fun _ s34 wr=>s34=.int .i64 0∧wr=w2)
 case atStart=>exact⟨rfl,rfl⟩
 case round=>
  obtain⟨rfl,rfl⟩:=hrel
  go_wp2
  refine bodyPost_ret (results_tmp2 rfl _ _ _) rfl ⟨_,rfl,?_⟩
  have hb:=HB.out
  have hk:=((O1.out.kw HN.out).below ((Below.refl _ w1).alloc Kv _)).below hb
  have hs:w1.heap.size+1≤wr.heap.size:=by have:=hb.size;simpa using this
  have h0:=HN.out.bel.size
  have h1:=O1.out.bel.size
  have hr:=(hb.block w1.heap.size (by simp)).trans (heap_alloc_new w1 (.cells #[.pointer (some ⟨gl,0,none⟩),.slice none 0 0,.int .i64 0,.int .i64 0,.slice none 0 0] 90))
  refine⟨⟨_,fun k=>k=w1.heap.size,g,gl,.slice none 0 0,.slice none 0 0,[],[],_,_,hk,⟨hr,OL.nil _ _,rfl,?_,ah.nil _ _ _ _,rfl,?_,rfl,?_,?_,?_,?_⟩,HLk.out,fun k hk=>⟨hk.1,by omega⟩,fun k hk=>⟨by omega,by omega⟩,fun k hk hs=>by omega⟩,aY.vW (qE.nil 0) (by decide),fun k hk=>hk.1,fun k hk=>hk.2⟩
  ·intro x hx;cases hx
  ·intro x hx;cases hx
  ·intro k hk;cases hk
  ·intro k hk;cases hk
  ·intro x hx;cases hx
  ·intro x hx;cases hx
end
set_option maxHeartbeats 4000000 in
theorem BJ (v:OV) (w:World) (data:List UInt8) (hd:RB w v.A v.n data) (hn:v.n≤1000000):
  Calls Tryz.prog 48 #[.agg #[.int .i64 v.kind,.string v.space,.string v.name,.int .i64 v.ver,.slice v.A v.n v.c]] w fun e w'=>∃A1 c1,e=.returned (.agg #[.int .i64 v.kind,.string v.space,.string v.name,.int .i64 v.ver,.slice A1 v.n c1])∧OB w' w.heap.size (.slice A1 v.n c1) data∧Below w.heap.size w w':=by
 obtain⟨w1,hw1,B,hB,hb1,hr1⟩:=aX w v
 have HB1:=Hj hb1
 have dR:=Hj hr1
 have HW1:=Hj hw1
 have jB:=Hj hB
 have rH:Hid (VB w1 B v):=Hj (VB.aG hr1)
 obtain⟨vb0,vb1,xK,x9,yc⟩:=rH.out
 clear hb1 hr1 hw1 hB
 have hb2:=(Below.refl w1.heap.size w1).alloc Kv (.cells #[.int .i64 0,.string ⟨#[]⟩,.string ⟨#[]⟩,.int .i64 0,.slice none 0 0] 37)
 have hr2:=heap_alloc_new w1 (.cells #[.int .i64 0,.string ⟨#[]⟩,.string ⟨#[]⟩,.int .i64 0,.slice none 0 0] 37)
 obtain⟨w2,hw2⟩:∃W,W=w1.alloc (.cells #[.int .i64 0,.string ⟨#[]⟩,.string ⟨#[]⟩,.int .i64 0,.slice none 0 0] 37):=⟨_,rfl⟩
 rw[←hw2] at hb2 hr2
 have hs1:w1.heap.size=B+1:=by rw[HW1.out,jB.out];simp
 rw[hs1] at hr2
 have HB2:Hid (Below w.heap.size w w2):=Hj (HB1.out.trans (hb2.mono HB1.out.size))
 have hrow2:w2.heap[B]?=some (.cells #[.int .i64 v.kind,.string v.space,.string v.name,.int .i64 v.ver,.slice v.A v.n v.c] 37 (0,0)):=(hb2.block B (Cq dR.out)).trans dR.out
 have HC:=Hj (bT v.A v.n v.c data w2 (hd.keep (Kz (HB2.out))) (by omega))
 have HDL:Hid (data.length=v.n):=Hj hd.1
 have HR2:=Hj hr2
 have Ej:=Hj hrow2
 have HW2:Hid (w2=(w.alloc (.cells #[.int .i64 v.kind,.string v.space,.string v.name,.int .i64 v.ver,.slice v.A v.n v.c] 37)).alloc (.cells #[.int .i64 0,.string ⟨#[]⟩,.string ⟨#[]⟩,.int .i64 0,.slice none 0 0] 37)):=Hj (by rw[hw2,HW1.out])
 obtain⟨b20,b21,b22,b23,Gx⟩:=VB.aG hrow2
 rw[HDL.out] at HC
 have Dz:=Hj hs1
 clear hb2 hr2 hw2 hs1 hrow2 hd hn vb0 vb1 xK x9 yc
 go_enter Tryz.func48,Tryz.ntmps48
 go_wp2_with (go_at_call 94;rw[←HW2.out];(with_reducible refine HC.out.mono ?_);rintro e w3 ⟨A1,c1,rfl,ho3,hb3⟩;have Iy:=Hj ho3;have HB3:=Hj hb3;have hrow3:=(hb3.block B (Cq Ej.out)).trans Ej.out;have HR3:=Hj ((hb3.block (B+1) (Cq HR2.out)).trans HR2.out);have OG:=Hj hrow3;obtain⟨b30,b31,b32,b33,b34⟩:=VB.aG hrow3;obtain⟨d30,d31,d32,d33,d34⟩:=VB.aG (v:=⟨0,⟨#[]⟩,⟨#[]⟩,0,none,0,0⟩) HR3.out;have f3:∀k,w3.frozen? ⟨B,k,none⟩=false:=(fun k=>Kj hrow3);have g3:∀k,w3.frozen? ⟨B+1,k,none⟩=false:=(fun k=>Kj HR3.out);rw[←jB.out];clear ho3 hb3 hrow3)
 have hF:Fr (fun k=>k=B∨k=B+1) w3 ((((((w3.setCell ⟨B,4,none⟩ (.slice A1 v.n c1)).setCell ⟨B+1,0,none⟩ (.int .i64 v.kind)).setCell ⟨B+1,1,none⟩ (.string v.space)).setCell ⟨B+1,2,none⟩ (.string v.name)).setCell ⟨B+1,3,none⟩ (.int .i64 v.ver)).setCell ⟨B+1,4,none⟩ (.slice A1 v.n c1)):=
  ((((((Fr.refl _ w3).setCell (p:=⟨B,4,none⟩) (fun _=>.inl rfl) _).setCell (p:=⟨B+1,0,none⟩) (fun _=>.inr rfl) _).setCell (p:=⟨B+1,1,none⟩) (fun _=>.inr rfl) _).setCell (p:=⟨B+1,2,none⟩) (fun _=>.inr rfl) _).setCell (p:=⟨B+1,3,none⟩) (fun _=>.inr rfl) _).setCell (p:=⟨B+1,4,none⟩) (fun _=>.inr rfl) _
 have WU:=(Below.heap_setCell w3 ⟨B,4,none⟩ (.slice A1 v.n c1) (B+1) (fun e=>Nat.succ_ne_self B e)).trans HR3.out
 refine bodyPost_ret (kP _ rfl rfl (Rl WU) Tryz.underlying37 jk) rfl ⟨A1,c1,rfl,?_,?_⟩
 ·refine OB.mono (OB.dP Iy.out fun k hk=>hF.block k (Iy.out.lt k hk).2 fun e=> ?_) HB2.out.size
  obtain⟨cur,hcur⟩:=ak Iy.out hk
  rcases e with rfl | rfl
  ·exact absurd (aj hcur OG.out) (by decide)
  ·exact absurd (aj hcur HR3.out) (by decide)
 ·have hbw:=HB2.out.trans (HB3.out.mono HB2.out.size)
  exact hbw.trans (hF.below hbw.size fun i _ e=>by rw[←jB.out];omega)
/-- A watcher's key of an object. -/
def wkey (space name:ByteArray):ByteArray:=bF (space.data.toList++47::name.data.toList)
theorem aaf (space name:ByteArray) (w:World) (hs:space.size≤1000) (hn:name.size≤1000):Calls Tryz.prog 54 #[.string space,.string name] w fun e w'=>e=.returned (.string (wkey space name))∧w'=w:=by
 have h1:¬9223372036854775807<space.size+1:=by omega
 have h2:¬9223372036854775807<space.size+1+name.size:=by omega
 go_enter Tryz.func54,Tryz.ntmps54
 go_wp2
 go_ret
 refine⟨?_,rfl⟩
 show Ending.returned (.string (space++{data:=#[47]}++name))=_
 congr 2
 apply ByteArray.ext
 simp[wkey,bF]
/-- Does a watcher follow it? -/
def xk (kind:Int) (space:ByteArray) (all:Bool) (v:OV):Bool:=decide (v.kind=kind)&&(all||decide (v.space=space))
/-- The block of a watcher. -/
def fA (w:World) (gw gt:Nat) (kind:Int) (space:ByteArray) (all:Bool) (cur:Nat):Prop:=w.heap[gw]?=some (.cells #[.int .i64 kind,.string space,.bool all,.pointer (some ⟨gt,0,none⟩),.int .i64 (cur:Int)] 85 (0,0))
set_option maxHeartbeats 1000000 in
theorem QD {w:World} {gw gt cur:Nat} {kind:Int} {space:ByteArray} {all:Bool} (h:fA w gw gt kind space all cur) (v:OV):
  Calls Tryz.prog 85 #[.pointer (some ⟨gw,0,none⟩),.agg #[.int .i64 v.kind,.string v.space,.string v.name,.int .i64 v.ver,.slice v.A v.n v.c]] w fun e w'=>e=.returned (.bool (xk kind space all v))∧Below w.heap.size w w':=by
 obtain⟨w1,hw1,B,hB,hb1,hr1⟩:=aX w v
 have HB1:=Hj hb1
 have HW:=Hj (And.intro hw1 hB)
 obtain⟨x0,x1,x2,x3,x4⟩:VB w1 B v:=VB.aG hr1
 have hr:=(hb1.block gw (Cq h)).trans h
 have y0:w1.cell? ⟨gw,0,none⟩=some (.int .i64 kind):=Kq 0 hr
 have y1:w1.cell? ⟨gw,1,none⟩=some (.string space):=Kq 1 hr
 have y2:w1.cell? ⟨gw,2,none⟩=some (.bool all):=Kq 2 hr
 clear hw1 hB hb1 hr1 hr h
 by_cases hk:v.kind=kind
 ·have hk2:(v.kind==kind)=true:=by rw[hk];simp
  cases all with
  | true=>
   have HF:Hid (xk kind space true v=true):=Hj (by unfold xk;rw[decide_eq_true hk];rfl)
   rw[HF.out]
   clear hk
   go_enter Tryz.func85,Tryz.ntmps85
   go_wp2
   rw[←HW.out.1,←HW.out.2]
   go_quiet (fail)
   go_wp2
   go_ret
   exact⟨rfl,HB1.out.trans (below_drewN (Below.refl _ _) nq |>.mono HB1.out.size)⟩
  | false=>
   by_cases hs:v.space=space
   ·have HF:Hid (xk kind space false v=true):=Hj (by unfold xk;rw[decide_eq_true hk,decide_eq_true hs];rfl)
    have hs2:(v.space.toList==space.toList)=true:=by rw[hs];simp
    rw[HF.out]
    clear hk hs
    go_enter Tryz.func85,Tryz.ntmps85
    go_wp2
    rw[←HW.out.1,←HW.out.2]
    go_quiet (fail)
    go_wp2
    go_ret
    exact⟨rfl,HB1.out.trans (below_drewN (Below.refl _ _) nq |>.mono HB1.out.size)⟩
   ·have HF:Hid (xk kind space false v=false):=Hj (by unfold xk;rw[decide_eq_true hk,decide_eq_false hs];rfl)
    have hs2:(v.space.toList==space.toList)=false:=by rw[beq_eq_false_iff_ne];exact fun e=>hs (Bf e)
    rw[HF.out]
    clear hk hs
    go_enter Tryz.func85,Tryz.ntmps85
    go_wp2
    rw[←HW.out.1,←HW.out.2]
    go_quiet (fail)
    go_wp2
    go_ret
    exact⟨rfl,HB1.out.trans (below_drewN (Below.refl _ _) nq |>.mono HB1.out.size)⟩
 ·have hk2:(v.kind==kind)=false:=by rw[beq_eq_false_iff_ne];exact hk
  have HF:Hid (xk kind space all v=false):=Hj (by unfold xk;rw[decide_eq_false hk];rfl)
  rw[HF.out]
  clear hk
  go_enter Tryz.func85,Tryz.ntmps85
  go_wp2
  rw[←HW.out.1,←HW.out.2]
  go_quiet (fail)
  go_wp2
  go_ret
  exact⟨rfl,HB1.out.trans (below_drewN (Below.refl _ _) nq |>.mono HB1.out.size)⟩
theorem next0 (A:Option Addr) (c:Nat) (gen n:Int) (w:World):Calls Tryz.prog 161 #[.slice A 0 c,.int .i64 gen,.int .i64 n] w fun e w'=>e=.returned (.tuple #[.slice none 0 0,.bool false])∧Below w.heap.size w w':=by
 go_enter Tryz.func161,Tryz.ntmps161
 go_wp2
 exact bodyPost_ret (results_tmp2 rfl _ _ _) rfl ⟨rfl,Below.refl _ _⟩
theorem QL:(Tryz.prog.info? 171).map (·.size)=some 3:=by kernel_rfl
theorem good0 (slot:Int) (A:Option Addr) (c:Nat) (w:World):Calls Tryz.prog 160 #[.int .i64 slot,.slice A 0 c] w fun e w'=>e=.returned (.tuple #[.agg #[.int .i64 0,.int .i64 0,.slice none 0 0],.bool false])∧Below w.heap.size w w':=by
 go_enter Tryz.func160,Tryz.ntmps160
 go_wp2
 exact bodyPost_ret (dB _ rfl rfl (heap_alloc_new w _) Tryz.underlying171 QL) rfl ⟨rfl,(Below.refl _ w).alloc Kv _⟩
structure DD (w0 w:World) (S:Nat→Prop) (g:Nat) (m:DM):Prop where
 d:∃O,gI w O g m∧∀k,O k→S k
 up:∀k,S k→w0.heap.size≤k
 hi:∀k,S k→k<w.heap.size
 bel:Below w0.heap.size w0 w
section
variable {w w' w0:World} {O S:Nat→Prop} {g gl:Nat} {m:DM} {bv:Nat→Value} {wv:Value} {ws:List (fC×Value)}
theorem Us (a:Nat) (ha:a<3) (h:aK w O g m bv wv ws) (hg:m.gone=false) (hl:(m.b (3+a)).length≤1048576):Calls Tryz.prog 159 #[.pointer (some ⟨g,0,none⟩),.int .i64 (a:Int)] w fun e w'=>∃v,e=.returned (.tuple #[v,.nilIface])∧OB w' w.heap.size v (m.b (3+a))∧Below w.heap.size w w':=by
 have HD:Hid (decide (0≤(a:Int)∧(a:Int)<3)=true):=Hj (decide_eq_true (by omega))
 have c10:w.cell? ⟨g,10,none⟩=some (.bool m.gone):=h.cell 10
 rw[hg] at c10
 obtain⟨A,c,e1,h1,h2,hr⟩:=(h.dJ (3+a) (by omega)).form
 have hd:=aK.NJ m bv wv (j:=3+a) (by omega)
 rw[e1] at hd
 have c0:w.cell? ⟨g,4+a,none⟩=some (.slice A (m.b (3+a)).length c):=by rw[h.cell,show 4+a=1+(3+a) by omega];exact hd
 have a0:(0:Int)≤(a:Int):=by omega
 have a1:(a:Int)<3:=by omega
 have HR:=Hj hr
 clear h hd e1 hg hr
 go_enter Tryz.func159,Tryz.ntmps159
 go_wp2_with (first
  | (go_at_call 162;refine(jd _ _).mono ?_;rw[HD.out];rintro e w' ⟨rfl,rfl⟩)
  | (go_at_call 94;refine(bT _ _ _ _ _ HR.out (by omega)).mono ?_;rintro e w' ⟨A2,c2,rfl,hv,hbv⟩))
 go_ret2
 exact⟨_,rfl,hv,hbv⟩
theorem DD.log (h:DD w0 w S g m):DW w0 (w.alloc (.cells #[.pointer (some ⟨g,0,none⟩),.int .i64 0,.int .i64 0,.slice none 0 0,.slice none 0 0,.int .i64 0,.bool false] 173)) (ext S w (w.alloc (.cells #[.pointer (some ⟨g,0,none⟩),.int .i64 0,.int .i64 0,.slice none 0 0,.slice none 0 0,.int .i64 0,.bool false] 173))) g m w.heap.size ⟨0,0,[],[],false⟩:=by
 obtain⟨⟨O,⟨bv,wv,ws,hd⟩,ho⟩,hu,hh,hb⟩:=h
 have D:=(Below.refl w.heap.size w).alloc Kv (.cells #[.pointer (some ⟨g,0,none⟩),.int .i64 0,.int .i64 0,.slice none 0 0,.slice none 0 0,.int .i64 0,.bool false] 173)
 refine⟨⟨O,fun k=>k=w.heap.size,⟨bv,wv,ws,hd.below D⟩,⟨.slice none 0 0,.slice none 0 0,[],heap_alloc_new w _,OB.nil _ _,ah.nil _ _ _ _,rfl,fun x hx=>(by cases hx),rfl,fun k hk=>(by cases hk),fun k hk=>(by cases hk),fun x hx=>(by cases hx)⟩,fun k hk=>.inl (ho k hk),fun k hk=>.inr ⟨Nat.le_of_eq hk.symm,by rw[hk];simp⟩,fun k hk e=> ?_⟩,jf hu hb.size,kN hh D.size,hb.trans (D.mono hb.size)⟩
 have:=hh k (ho k hk)
 omega
set_option maxHeartbeats 2000000 in
theorem load0 (d:aK w O g m bv wv ws) (hg:m.gone=false) (hb:∀i,i<3→m.b (3+i)=[]) (hr:w.heap[gl]?=some (.cells #[.pointer (some ⟨g,0,none⟩),.int .i64 0,.int .i64 0,.slice none 0 0,.slice none 0 0,.int .i64 0,.bool false] 173 (0,0))) (hO:¬O gl):
  Calls Tryz.prog 101 #[.pointer (some ⟨gl,0,none⟩)] w fun e w'=>e=.returned .nilIface∧w'.heap[gl]?=some (.cells #[.pointer (some ⟨g,0,none⟩),.int .i64 0,.int .i64 1,.slice none 0 0,.slice none 0 0,.int .i64 0,.bool false] 173 (0,0))∧Fr (fun k=>k=gl) w w':=by
 obtain⟨w1,hw1⟩:∃W,W=w.setCell ⟨gl,2,none⟩ (.int .i64 1):=⟨_,rfl⟩
 have hf1:Fr (fun k=>k=gl) w w1:=by rw[hw1];exact(Fr.refl (fun k=>k=gl) w).setCell (p:=⟨gl,2,none⟩) (fun _=>rfl) _
 have hr1:w1.heap[gl]?=some (.cells #[.pointer (some ⟨g,0,none⟩),.int .i64 0,.int .i64 1,.slice none 0 0,.slice none 0 0,.int .i64 0,.bool false] 173 (0,0)):=by rw[hw1];exact heap_setCell_same _ _ 2 _ _ _ hr
 have c2:w.cell? ⟨gl,2,none⟩=some (.int .i64 0):=Kq 2 hr
 have f2:w.frozen? ⟨gl,2,none⟩=false:=Kj hr
 have dR:Hid (∀W,Below w1.heap.size w1 W→W.heap[gl]?=some (.cells #[.pointer (some ⟨g,0,none⟩),.int .i64 0,.int .i64 1,.slice none 0 0,.slice none 0 0,.int .i64 0,.bool false] 173 (0,0))):=Hj fun W hW=>(hW.block gl (Cq hr1)).trans hr1
 have KL:Hid (∀W,Below w1.heap.size w1 W→W.cell? ⟨gl,0,none⟩=some (.pointer (some ⟨g,0,none⟩))∧W.cell? ⟨gl,1,none⟩=some (.int .i64 0)∧W.cell? ⟨gl,5,none⟩=some (.int .i64 0)∧W.cell? ⟨gl,4,none⟩=some (.slice none 0 0)):=Hj fun W hW=>⟨Kq 0 (dR.out W hW),Kq 1 (dR.out W hW),Kq 5 (dR.out W hW),Kq 4 (dR.out W hW)⟩
 have HRd:Hid (∀W,Below w1.heap.size w1 W→∀a:Nat,a<3→Calls Tryz.prog 159 #[.pointer (some ⟨g,0,none⟩),.int .i64 (a:Int)] W fun e w'=>∃A c,e=.returned (.tuple #[.slice A 0 c,.nilIface])∧Below W.heap.size W w'):=Hj fun W hW a ha=>by
  have d1:=(d.Z8 hf1 (fun k hk e=>hO (by rw[←e];exact hk))).below hW
  refine(Us a ha d1 hg (by rw[hb a ha];simp)).mono ?_
  rintro e w' ⟨v,rfl,ho,hbl⟩
  rw[hb a ha] at ho
  obtain⟨A,c,rfl,-⟩:=ho.form
  exact⟨A,c,rfl,hbl⟩
 have Tv:=Hj hf1
 have HW1:=Hj hw1
 clear d hg hb hr hO hf1 hr1 hw1
 obtain⟨k0,k1,k5,k4⟩:=KL.out w1 (Below.refl _ _)
 go_enter Tryz.func101,Tryz.ntmps101
 go_wp2
 rw[←HW1.out]
 go_loopg [16] 2 (fun k s16 wr=>∃i:Nat,s16=.int .i64 (i:Int)∧i+k=2∧Below w1.heap.size w1 wr)
 case atStart=>exact⟨0,rfl,rfl,Below.refl _ _⟩
 case round=>
  obtain⟨i,rfl,hi,hbel⟩:=hrel
  have iQ:=Hj hbel
  clear hbel k0 k1 k5 k4
  obtain⟨k0,k1,k5,k4⟩:=KL.out wr iQ.out
  by_cases hlt:i<2
  ·have hr:=HRd.out wr iQ.out i (by omega)
   have HRi:=Hj hr
   have q1:(i:Int)<2:=by omega
   have HT:Hid (i+gk=2∧i<2):=Hj ⟨hi,hlt⟩
   clear hr hi hlt
   go_wp2_with (first
    | (go_at_call 159;((with_reducible refine HRi.out.mono ?_);rintro e w2 ⟨A2,c2',rfl,hb⟩;have B2:=Hj (iQ.out.trans (hb.mono iQ.out.size));clear hb))
    | (go_at_call 160;((with_reducible refine(good0 _ _ _ w2).mono ?_);rintro e w3 ⟨rfl,hb⟩;have B3:=Hj (B2.out.trans (hb.mono B2.out.size));clear hb))
    | fail)
   have H3:=Hj (B3.out.alloc B3.out.size)
   go_quiet (fail)
   go_wp2
   go_roundg (gk-1)
   case measure=>have:=HT.out;omega
   case rel=>exact⟨i+1,by go_num,by have:=HT.out;omega,below_drewN (H3.out _) nq⟩
  ·have hr:Calls Tryz.prog 159 #[.pointer (some ⟨g,0,none⟩),.int .i64 2] wr fun e w'=>∃A c,e=.returned (.tuple #[.slice A 0 c,.nilIface])∧Below wr.heap.size wr w':=HRd.out wr iQ.out 2 (by omega)
   have HRi:=Hj hr
   obtain rfl:i=2:=by omega
   clear hr hi hlt
   go_wp2_with (first
    | (go_at_call 159;((with_reducible refine HRi.out.mono ?_);rintro e w2 ⟨A2,c2',rfl,hb⟩;have B2:=Hj (iQ.out.trans (hb.mono iQ.out.size));clear hb))
    | fail)
   go_loopg [10] 0 (fun _ s10 wr=>wr=w2)
   case atStart=>exact rfl
   case round=>
    subst hrel
    obtain⟨j0,j1,j5,j4⟩:=KL.out wr B2.out
    go_wp2
    go_region_held3 (fun w'=>w'.cell? ⟨gl,1,none⟩=some (.int .i64 0)∧w'.cell? ⟨gl,5,none⟩=some (.int .i64 0)∧w'.cell? ⟨gl,4,none⟩=some (.slice none 0 0)) (first | exact⟨by assumption,by assumption,by assumption⟩ | go_keep) (first
     | (go_at_call 161;((with_reducible refine(next0 _ _ _ _ _).mono ?_);rintro e w4 ⟨rfl,hb⟩;have B4:=Hj (B2.out.trans (((Below.drew (Below.refl _ _)).trans hb).mono B2.out.size));obtain⟨j0,j1,j5,j4⟩:=KL.out w4 B4.out;clear hb))
     | fail)
    all_goals
     go_wp2
     go_ret
     exact⟨rfl,dR.out w4 B4.out,Tv.out.trans (Fr.of_below (S:=fun _=>False) B4.out) fun _ _ x=>x.elim⟩
set_option maxHeartbeats 2000000 in
theorem Xw (h:DD w0 w S g m) (hg:m.gone=false) (hb:∀i,i<3→m.b (3+i)=[]):
  Calls Tryz.prog 61 #[.pointer (some ⟨g,0,none⟩)] w fun e w'=>∃gl,e=.returned (.tuple #[.pointer (some ⟨gl,0,none⟩),.nilIface])∧DW w0 w' (ext S w w') g m gl ⟨0,1,[],[],false⟩∧Below w.heap.size w w':=by
 obtain⟨⟨O,⟨bv,wv,ws,hd⟩,ho⟩,hu,hh,hbl⟩:=h
 obtain⟨w1,hw1⟩:∃W,W=w.alloc (.cells #[.pointer (some ⟨g,0,none⟩),.int .i64 0,.int .i64 0,.slice none 0 0,.slice none 0 0,.int .i64 0,.bool false] 173):=⟨_,rfl⟩
 obtain⟨gl,hgl⟩:∃q,q=w.heap.size:=⟨_,rfl⟩
 have hb1:Below w.heap.size w w1:=by rw[hw1];exact(Below.refl _ w).alloc Kv _
 have hr1:w1.heap[gl]?=some (.cells #[.pointer (some ⟨g,0,none⟩),.int .i64 0,.int .i64 0,.slice none 0 0,.slice none 0 0,.int .i64 0,.bool false] 173 (0,0)):=by rw[hw1,hgl];exact heap_alloc_new w _
 have hO:¬O gl:=fun hk=>by have:=hh gl (ho gl hk);omega
 have HL:=Hj (load0 (hd.below hb1) hg hb hr1 hO)
 have HP:Hid (∀W,w1.heap.size≤W.heap.size→W.heap[gl]?=some (.cells #[.pointer (some ⟨g,0,none⟩),.int .i64 0,.int .i64 1,.slice none 0 0,.slice none 0 0,.int .i64 0,.bool false] 173 (0,0))→Fr (fun k=>k=gl) w1 W→aK W O g m bv wv ws∧DW w0 W (ext S w W) g m gl ⟨0,1,[],[],false⟩∧Below w.heap.size w W):=Hj fun W hs hr hf=>by
  have hd2:=(hd.below hb1).Z8 hf (fun k hk e=>hO (by rw[←e];exact hk))
  have hB:Below w.heap.size w W:=hb1.trans (hf.below hb1.size fun k _ hk=>by omega)
  have hgw:gl<W.heap.size:=(Cq hr)
  exact⟨hd2,⟨⟨O,fun k=>k=gl,⟨bv,wv,ws,hd2⟩,⟨.slice none 0 0,.slice none 0 0,[],hr,OB.nil _ _,ah.nil _ _ _ _,rfl,fun x hx=>(by cases hx),rfl,fun k hk=>(by cases hk),fun k hk=>(by cases hk),fun x hx=>(by cases hx)⟩,fun k hk=>.inl (ho k hk),fun k hk=>.inr ⟨by omega,by omega⟩,fun k hk e=>hO (by rw[←e];exact hk)⟩,jf hu hbl.size,kN hh hB.size,hbl.trans (hB.mono hbl.size)⟩,hB⟩
 have CU:Hid (∀W,aK W O g m bv wv ws→Calls Tryz.prog 102 #[.pointer (some ⟨g,0,none⟩),.int .i64 2] W fun e w'=>e=.returned (.int .i64 0)∧W=w'):=Hj fun W hW=>by
  have:=vG 2 (by decide) hW
  rw[hb 2 (by decide)] at this
  exact this
 have HW:=Hj (And.intro hw1 hgl)
 clear hg hb hu hh hbl ho hd hw1 hgl hb1 hr1 hO
 go_enter Tryz.func61,Tryz.ntmps61
 go_wp2_with (first
  | (go_at_call 101;rw[←HW.out.1,←HW.out.2];((with_reducible refine HL.out.mono ?_);rintro e w2 ⟨rfl,hr,hf⟩;obtain⟨p1,p2,p3⟩:=HP.out w2 hf.size hr hf;have P1:=Hj p1;have P2:=Hj (And.intro p2 p3);have HR:=Hj hr;have HF:=Hj hf;have c5:w2.cell? ⟨gl,5,none⟩=some (.int .i64 0):=Kq 5 hr;clear hr hf p1 p2 p3))
  | fail)
 go_region_held3 (fun w'=>w'.cell? ⟨gl,5,none⟩=some (.int .i64 0)) (first | assumption | go_keep) (first
  | (go_at_call 102;((with_reducible refine(CU.out w2.drew (P1.out.below (Below.drew (Below.refl _ _)))).mono ?_);rintro e w4 ⟨rfl,rfl⟩))
  | fail)
 all_goals
  go_wp2
  obtain⟨-,p2,p3⟩:=HP.out w2.drew HF.out.size HR.out HF.out.drew
  exact bodyPost_ret (results_tmp2 rfl _ _ _) rfl ⟨gl,rfl,p2,p3⟩
end
end Go.Proofs.YtdhbpajamlfacaaGreatDoor
