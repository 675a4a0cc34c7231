/- The document's store (layer 20): Open on a disk that nothing stands on. -/
import Derived.Test.YtdhbpajamlfacaaGreatDoorRf
set_option maxHeartbeats 4000000
set_option maxRecDepth 100000
namespace Go.Proofs.YtdhbpajamlfacaaGreatDoor
open Go.RowKit SO
section
variable {w w' w0:World} {D Z Q S X:Nat→Prop} {gs gl g:Nat} {m m':DM} {L L':LM} {M M':bQ} {room:Int}
theorem AllR0 (w:World):Cl 123 #[.slice none 0 0] w fun e w'=>∃q,e=.returned (.tuple #[.slice (some ⟨q,0,none⟩) 0 0,.int .i64 0])∧Bw w w':=by
 have B0:=Hj fun o=>(aj w.heap.size w).alloc Kv o
 go_enter Tryz.func123,Tryz.ntmps123
 go_wp2
 go_loopg [0,4] 0 (fun _ s0 s4 wr=>s0=.slice none 0 0∧∃q,s4=.slice (some ⟨q,0,none⟩) 0 0∧Bw w wr)
 case atStart=>exact⟨rfl,_,rfl,B0.out _⟩
 case round=>
  obtain⟨rfl,q,rfl,hb⟩:=hrel
  have HB:=Hj hb
  clear hb
  go_wp2
  exact bg (eG rfl _ _ _) rfl ⟨q,rfl,HB.out⟩
theorem Zd (a:Addr) (w:World):Cl 69 #[.pointer (some a),.slice none 0 0] w fun e w'=>e=.returned (.bool true)∧Bw w w':=by
 have HA:=Hj (AllR0 w)
 go_enter Tryz.func69,Tryz.ntmps69
 go_wp2_with (first
  | (go_at_call 123;((refine HA.out.mono ?_);rintro e w2 ⟨q,rfl,hb⟩;have HB:=Hj hb;clear hb))
  | fail)
 go_ret
 exact⟨rfl,HB.out⟩
theorem OpenR (hn:BP w0 w g room) (hL:Fit ⟨room,fun _=>0⟩ ⟨0,1,[]⟩):Cl 26 #[pt g] w fun e w'=>∃gs,e=.returned (.tuple #[pt gs,.int .i64 0])∧fG (fun _=>False) w0 w' (fun k=>w0.heap.size≤k∧k<w'.heap.size) gs ⟨room,fun _=>0⟩ ⟨0,1,[]⟩ st0:=by
 have HO:=Hj (YW hn)
 have HN:=Hj hn
 have HLk:=Hj hL
 clear hn hL
 go_enter Tryz.func26,Tryz.ntmps26
 go_wp2_with (first
  | (go_at_call 68;((refine HO.out.mono ?_);rintro e w1 ⟨gl,qa,rfl,ho⟩;have O1:=Hj ho;have p3:∀o,(w1.alloc o).cell? ⟨gl,3,none⟩=some (.slice none 0 0):=(fun o=>Kz ((aj _ w1).alloc Kv o) _ _ (Kq 3 ho.log));clear ho))
  | (go_at_call 69;((refine(Zd _ _).mono ?_);rintro e w2 ⟨rfl,hb⟩;have HB:=Hj hb;have p4:w2.cell? ⟨gl,4,none⟩=some (.slice none 0 0):=Kz hb _ _ (Kz ((aj _ w1).alloc Kv _) _ _ (Kq 4 O1.out.log));clear hb))
  | fail)
 go_loopg [34] 0 (fun _ s34 wr=>s34=.int .i64 0∧wr=w2)
 case atStart=>exact⟨rfl,rfl⟩
 case round=>
  obtain⟨rfl,rfl⟩:=hrel
  go_wp2
  refine bg (eG rfl _ _ _) rfl ⟨_,rfl,?_⟩
  have hb:=HB.out
  have hk:=((O1.out.kw HN.out).below ((aj _ w1).alloc Kv _)).below hb
  have hs:w1.heap.size+1≤wr.heap.size:=by have:=hb.size;simpa using this
  have h0:=HN.out.bel.size
  have h1:=O1.out.bel.size
  have hr:=(hb.block w1.heap.size (by simp)).trans (aA w1 (.cells #[pt gl,.slice none 0 0,.int .i64 0,.int .i64 0,.slice none 0 0] 90))
  refine⟨⟨_,fun k=>k=w1.heap.size,g,gl,.slice none 0 0,.slice none 0 0,[],[],hk,⟨hr,OL.nil _ _,rfl,?_,ah.nil _ _ _ _,rfl,?_,rfl,?_,?_,?_,?_⟩,HLk.out,fun k hk=>⟨hk.1,by omega⟩,fun k hk=>.inl ⟨by omega,by omega⟩,fun k hk hs=>by omega⟩,bQ.Bo (wu.nil 0) (by decide),fun k hk=>hk.1,fun k hk=>hk.2,⟨by omega,by omega⟩,fun k d=>d.elim⟩
  ·intro x hx;cases hx
  ·intro x hx;cases hx
  ·intro k hk;cases hk
  ·intro k hk;cases hk
  ·intro x hx;cases hx
  ·intro x hx;cases hx
end
theorem xY (v:OV) (w:World) (data:List UInt8) (hd:RB w v.A v.n data) (hn:v.n≤1000000):
  Cl 48 #[.agg (ov v)] w fun e w'=>∃A1 c1,e=.returned (.agg #[.int .i64 v.kind,.string v.space,.string v.name,.int .i64 v.ver,.slice A1 v.n c1])∧OB w' w.heap.size (.slice A1 v.n c1) data∧Bw w w':=by
 obtain⟨w1,hw1,B,hB,hb1,hr1⟩:=bI w v
 have HB1:=Hj hb1
 have dZ:=Hj hr1
 have HW1:=Hj hw1
 have kT:=Hj hB
 have uK:Hid (VB w1 B v):=Hj (VB.aK hr1)
 obtain⟨vb0,vb1,zX,Ah,Aj⟩:=uK.out
 clear hb1 hr1 hw1 hB
 have hb2:=(aj w1.heap.size w1).alloc Kv (.cells #[.int .i64 0,.string ⟨#[]⟩,.string ⟨#[]⟩,.int .i64 0,.slice none 0 0] 37)
 have hr2:=aA w1 (.cells #[.int .i64 0,.string ⟨#[]⟩,.string ⟨#[]⟩,.int .i64 0,.slice none 0 0] 37)
 obtain⟨w2,hw2⟩:∃W,W=w1.alloc (.cells #[.int .i64 0,.string ⟨#[]⟩,.string ⟨#[]⟩,.int .i64 0,.slice none 0 0] 37):=⟨_,rfl⟩
 rw[←hw2] at hb2 hr2
 have hs1:w1.heap.size=B+1:=by rw[HW1.out,kT.out];simp
 rw[hs1] at hr2
 have HB2:Hid (Bw w w2):=Hj (HB1.out.trans (hb2.mono HB1.out.size))
 have hrow2:w2.heap[B]?=some (.cells (ov v) 37 (0,0)):=(hb2.block B (Cq dZ.out)).trans dZ.out
 have HC:=Hj (dU v.A v.n v.c data w2 (hd.keep (Kz (HB2.out))) (by omega))
 have HDL:Hid (data.length=v.n):=Hj hd.1
 have HR2:=Hj hr2
 have Gq:=Hj hrow2
 have HW2:Hid (w2=(w.alloc (.cells (ov v) 37)).alloc (.cells #[.int .i64 0,.string ⟨#[]⟩,.string ⟨#[]⟩,.int .i64 0,.slice none 0 0] 37)):=Hj (by rw[hw2,HW1.out])
 obtain⟨b20,b21,b22,b23,Jt⟩:=VB.aK hrow2
 rw[HDL.out] at HC
 have xO:=Hj hs1
 clear hb2 hr2 hw2 hs1 hrow2 hd hn vb0 vb1 zX Ah Aj
 go_enter Tryz.func48,Tryz.ntmps48
 go_wp2_with (go_at_call 94;rw[←HW2.out];(with_reducible refine HC.out.mono ?_);rintro e w3 ⟨A1,c1,rfl,ho3,hb3⟩;have KQ:=Hj ho3;have HB3:=Hj hb3;have hrow3:=(hb3.block B (Cq Gq.out)).trans Gq.out;have HR3:=Hj ((hb3.block (B+1) (Cq HR2.out)).trans HR2.out);have QU:=Hj hrow3;obtain⟨b30,b31,b32,b33,b34⟩:=VB.aK hrow3;obtain⟨d30,d31,d32,d33,d34⟩:=VB.aK (v:=⟨0,⟨#[]⟩,⟨#[]⟩,0,none,0,0⟩) HR3.out;have f3:∀k,w3.frozen? ⟨B,k,none⟩=false:=(fun k=>Kj hrow3);have g3:∀k,w3.frozen? ⟨B+1,k,none⟩=false:=(fun k=>Kj HR3.out);rw[←kT.out];clear ho3 hb3 hrow3)
 have hF:Fr (fun k=>k=B∨k=B+1) w3 ((((((w3.setCell ⟨B,4,none⟩ (.slice A1 v.n c1)).setCell ⟨B+1,0,none⟩ (.int .i64 v.kind)).setCell ⟨B+1,1,none⟩ (.string v.space)).setCell ⟨B+1,2,none⟩ (.string v.name)).setCell ⟨B+1,3,none⟩ (.int .i64 v.ver)).setCell ⟨B+1,4,none⟩ (.slice A1 v.n c1)):=
  ((((((Fr.refl _ w3).setCell (p:=⟨B,4,none⟩) (fun _=>.inl rfl) _).setCell (p:=⟨B+1,0,none⟩) (fun _=>.inr rfl) _).setCell (p:=⟨B+1,1,none⟩) (fun _=>.inr rfl) _).setCell (p:=⟨B+1,2,none⟩) (fun _=>.inr rfl) _).setCell (p:=⟨B+1,3,none⟩) (fun _=>.inr rfl) _).setCell (p:=⟨B+1,4,none⟩) (fun _=>.inr rfl) _
 have Y3:=(Below.heap_setCell w3 ⟨B,4,none⟩ (.slice A1 v.n c1) (B+1) (fun e=>Nat.succ_ne_self B e)).trans HR3.out
 refine bg (nJ _ rfl rfl (OY Y3) Tryz.underlying37 iR) rfl ⟨A1,c1,rfl,?_,?_⟩
 ·refine OB.mono (OB.eY KQ.out fun k hk=>hF.block k (KQ.out.lt k hk).2 fun e=> ?_) HB2.out.size
  obtain⟨cur,hcur⟩:=au KQ.out hk
  rcases e with rfl | rfl
  ·exact absurd (ak hcur QU.out) (by decide)
  ·exact absurd (ak hcur HR3.out) (by decide)
 ·have hbw:=HB2.out.trans (HB3.out.mono HB2.out.size)
  exact hbw.trans (hF.below hbw.size fun i _ e=>by rw[←kT.out];omega)
/-- A watcher's key of an object. -/
def wkey (space name:ByteArray):ByteArray:=dG (space.data.toList++47::name.data.toList)
theorem Wv (space name:ByteArray) (w:World) (hs:space.size≤1000) (hn:name.size≤1000):Cl 54 #[.string space,.string name] w fun e w'=>e=.returned (.string (wkey space name))∧w'=w:=by
 have h1:¬9223372036854775807<space.size+1:=by omega
 have h2:¬9223372036854775807<space.size+1+name.size:=by omega
 go_enter Tryz.func54,Tryz.ntmps54
 go_wp2
 go_ret
 refine⟨?_,rfl⟩
 show Ending.returned (.string (space++{data:=#[47]}++name))=_
 congr 2
 apply kG
 simp[wkey,dG]
/-- Does a watcher follow it? -/
def iW (kind:Int) (space:ByteArray) (all:Bool) (v:OV):Bool:=decide (v.kind=kind)&&(all||decide (v.space=space))
/-- The block of a watcher. -/
def iY (w:World) (gw gt:Nat) (kind:Int) (space:ByteArray) (all:Bool) (cur:Nat):Prop:=w.heap[gw]?=some (.cells #[.int .i64 kind,.string space,.bool all,pt gt,.int .i64 (cur:Int)] 85 (0,0))
theorem Tq {w:World} {gw gt cur:Nat} {kind:Int} {space:ByteArray} {all:Bool} (h:iY w gw gt kind space all cur) (v:OV):
  Cl 85 #[pt gw,.agg (ov v)] w fun e w'=>e=.returned (.bool (iW kind space all v))∧Bw w w':=by
 obtain⟨w1,hw1,B,hB,hb1,hr1⟩:=bI w v
 have HB1:=Hj hb1
 have HW:=Hj (aB hw1 hB)
 obtain⟨x0,x1,x2,x3,x4⟩:VB w1 B v:=VB.aK hr1
 have hr:=(hb1.block gw (Cq h)).trans h
 have y0:w1.cell? ⟨gw,0,none⟩=some (.int .i64 kind):=Kq 0 hr
 have y1:w1.cell? ⟨gw,1,none⟩=some (.string space):=Kq 1 hr
 have y2:w1.cell? ⟨gw,2,none⟩=some (.bool all):=Kq 2 hr
 clear hw1 hB hb1 hr1 hr h
 by_cases hk:v.kind=kind
 ·have hk2:(v.kind==kind)=true:=by rw[hk];simp
  cases all with
  | true=>
   have HF:Hid (iW kind space true v=true):=Hj (by unfold iW;rw[aZ hk];rfl)
   rw[HF.out]
   clear hk
   go_enter Tryz.func85,Tryz.ntmps85
   go_wp2
   rw[←HW.out.1,←HW.out.2]
   go_quiet (fail)
   go_wp2
   go_ret
   exact⟨rfl,HB1.out.trans (below_drewN (aj _ _) nq |>.mono HB1.out.size)⟩
  | false=>
   by_cases hs:v.space=space
   ·have HF:Hid (iW kind space false v=true):=Hj (by unfold iW;rw[aZ hk,aZ hs];rfl)
    have hs2:(v.space.toList==space.toList)=true:=by rw[hs];simp
    rw[HF.out]
    clear hk hs
    go_enter Tryz.func85,Tryz.ntmps85
    go_wp2
    rw[←HW.out.1,←HW.out.2]
    go_quiet (fail)
    go_wp2
    go_ret
    exact⟨rfl,HB1.out.trans (below_drewN (aj _ _) nq |>.mono HB1.out.size)⟩
   ·have HF:Hid (iW kind space false v=false):=Hj (by unfold iW;rw[aZ hk,aQ hs];rfl)
    have hs2:(v.space.toList==space.toList)=false:=by rw[gQ];exact fun e=>hs (lY e)
    rw[HF.out]
    clear hk hs
    go_enter Tryz.func85,Tryz.ntmps85
    go_wp2
    rw[←HW.out.1,←HW.out.2]
    go_quiet (fail)
    go_wp2
    go_ret
    exact⟨rfl,HB1.out.trans (below_drewN (aj _ _) nq |>.mono HB1.out.size)⟩
 ·have hk2:(v.kind==kind)=false:=by rw[gQ];exact hk
  have HF:Hid (iW kind space all v=false):=Hj (by unfold iW;rw[aQ hk];rfl)
  rw[HF.out]
  clear hk
  go_enter Tryz.func85,Tryz.ntmps85
  go_wp2
  rw[←HW.out.1,←HW.out.2]
  go_quiet (fail)
  go_wp2
  go_ret
  exact⟨rfl,HB1.out.trans (below_drewN (aj _ _) nq |>.mono HB1.out.size)⟩
theorem next0 (A:Option Addr) (c:Nat) (gen n:Int) (w:World):Cl 161 #[.slice A 0 c,.int .i64 gen,.int .i64 n] w fun e w'=>e=.returned (.tuple #[.slice none 0 0,.bool false])∧Bw w w':=by
 go_enter Tryz.func161,Tryz.ntmps161
 go_wp2
 exact bg (eG rfl _ _ _) rfl ⟨rfl,aj _ _⟩
theorem TB:(Tryz.prog.info? 171).map (·.size)=some 3:=by kernel_rfl
theorem good0 (slot:Int) (A:Option Addr) (c:Nat) (w:World):Cl 160 #[.int .i64 slot,.slice A 0 c] w fun e w'=>e=.returned (.tuple #[.agg #[.int .i64 0,.int .i64 0,.slice none 0 0],.bool false])∧Bw w w':=by
 go_enter Tryz.func160,Tryz.ntmps160
 go_wp2
 exact bg (dn _ rfl rfl (aA w _) Tryz.underlying171 TB) rfl ⟨rfl,(aj _ w).alloc Kv _⟩
structure DD (w0 w:World) (S:Nat→Prop) (g:Nat) (m:DM):Prop where
 d:∃O d,gu w O g d∧Quiet d m∧∀k,O k→S k
 up:∀k,S k→w0.heap.size≤k
 hi:∀k,S k→k<w.heap.size
 bel:Bw w0 w
section
variable {w w' w0:World} {O S:Nat→Prop} {g gl:Nat} {m:DK} {room:Int} {bv:Nat→Value} {wv:Value} {ws:List (jG×Value)}
theorem Wy (a:Nat) (ha:a<3) (h:aY w O g m bv wv ws) (hl:(m.b (3+a)).length≤1048576):Cl 159 #[pt g,.int .i64 (a:Int)] w fun e w'=>∃v,e=.returned (.tuple #[v,.nilIface])∧OB w' w.heap.size v (m.b (3+a))∧Bw w w':=by
 have HD:Hid (decide (0≤(a:Int)∧(a:Int)<3)=true):=Hj (aZ (by omega))
 have c10:w.cell? ⟨g,10,none⟩=some (.bool false):=h.cell 10
 obtain⟨A,c,e1,h1,h2,hr⟩:=(h.eH (3+a) (by omega)).form
 have hd:=aY.Ql m bv wv (j:=3+a) (by omega)
 rw[e1] at hd
 have c0:w.cell? ⟨g,4+a,none⟩=some (.slice A (m.b (3+a)).length c):=by rw[h.cell,show 4+a=1+(3+a) by omega];exact hd
 have a0:(0:Int)≤(a:Int):=by omega
 have a1:(a:Int)<3:=by omega
 have HR:=Hj hr
 clear h hd e1 hr
 go_enter Tryz.func159,Tryz.ntmps159
 go_wp2_with (first
  | (go_at_call 162;refine(Dw _ _).mono ?_;rw[HD.out];rintro e w' ⟨rfl,rfl⟩)
  | (go_at_call 94;refine(dU _ _ _ _ _ HR.out (by omega)).mono ?_;rintro e w' ⟨A2,c2,rfl,hv,hbv⟩))
 go_ret2
 exact⟨_,rfl,hv,hbv⟩
theorem load0 (d:aY w O g m bv wv ws) (hb:∀i,i<3→m.b (3+i)=[]) (hr:w.heap[gl]?=some (.cells #[pt g,.int .i64 0,.int .i64 0,.slice none 0 0,.slice none 0 0,.int .i64 0,.bool false] 173 (0,0))) (hO:¬O gl):
  Cl 101 #[pt gl] w fun e w'=>e=.returned .nilIface∧w'.heap[gl]?=some (.cells #[pt g,.int .i64 0,.int .i64 1,.slice none 0 0,.slice none 0 0,.int .i64 0,.bool false] 173 (0,0))∧Fr (fun k=>k=gl) w w':=by
 obtain⟨w1,hw1⟩:∃W,W=w.setCell ⟨gl,2,none⟩ (.int .i64 1):=⟨_,rfl⟩
 have hf1:Fr (fun k=>k=gl) w w1:=by rw[hw1];exact(Fr.refl (fun k=>k=gl) w).setCell (p:=⟨gl,2,none⟩) (fun _=>rfl) _
 have hr1:w1.heap[gl]?=some (.cells #[pt g,.int .i64 0,.int .i64 1,.slice none 0 0,.slice none 0 0,.int .i64 0,.bool false] 173 (0,0)):=by rw[hw1];exact aI _ _ 2 _ _ _ hr
 have c2:w.cell? ⟨gl,2,none⟩=some (.int .i64 0):=Kq 2 hr
 have f2:w.frozen? ⟨gl,2,none⟩=false:=Kj hr
 have dZ:Hid (∀W,Bw w1 W→W.heap[gl]?=some (.cells #[pt g,.int .i64 0,.int .i64 1,.slice none 0 0,.slice none 0 0,.int .i64 0,.bool false] 173 (0,0))):=Hj fun W hW=>(hW.block gl (Cq hr1)).trans hr1
 have KL:Hid (∀W,Bw w1 W→W.cell? ⟨gl,0,none⟩=some (pt g)∧W.cell? ⟨gl,1,none⟩=some (.int .i64 0)∧W.cell? ⟨gl,5,none⟩=some (.int .i64 0)∧W.cell? ⟨gl,4,none⟩=some (.slice none 0 0)):=Hj fun W hW=>⟨Kq 0 (dZ.out W hW),Kq 1 (dZ.out W hW),Kq 5 (dZ.out W hW),Kq 4 (dZ.out W hW)⟩
 have HRd:Hid (∀W,Bw w1 W→∀a:Nat,a<3→Cl 159 #[pt g,.int .i64 (a:Int)] W fun e w'=>∃A c,e=.returned (.tuple #[.slice A 0 c,.nilIface])∧Bw W w'):=Hj fun W hW a ha=>by
  have d1:=(d.frW hf1 (fun k hk e=>hO (by rw[←e];exact hk))).below hW
  refine(Wy a ha d1 (by rw[hb a ha];simp)).mono ?_
  rintro e w' ⟨v,rfl,ho,hbl⟩
  rw[hb a ha] at ho
  obtain⟨A,c,rfl,-⟩:=ho.form
  exact⟨A,c,rfl,hbl⟩
 have HF1:=Hj hf1
 have HW1:=Hj hw1
 clear d hb hr hO hf1 hr1 hw1
 obtain⟨k0,k1,k5,k4⟩:=KL.out w1 (aj _ _)
 go_enter Tryz.func101,Tryz.ntmps101
 go_wp2
 rw[←HW1.out]
 go_loopg [16] 2 (fun k s16 wr=>∃i:Nat,s16=.int .i64 (i:Int)∧i+k=2∧Bw w1 wr)
 case atStart=>exact⟨0,rfl,rfl,aj _ _⟩
 case round=>
  obtain⟨i,rfl,hi,hbel⟩:=hrel
  have jD:=Hj hbel
  clear hbel k0 k1 k5 k4
  obtain⟨k0,k1,k5,k4⟩:=KL.out wr jD.out
  by_cases hlt:i<2
  ·have hr:=HRd.out wr jD.out i (by omega)
   have HRi:=Hj hr
   have q1:(i:Int)<2:=by omega
   have HT:Hid (i+gk=2∧i<2):=Hj ⟨hi,hlt⟩
   clear hr hi hlt
   go_wp2_with (first
    | (go_at_call 159;((refine HRi.out.mono ?_);rintro e w2 ⟨A2,c2',rfl,hb⟩;have B2:=Hj (jD.out.trans (hb.mono jD.out.size));clear hb))
    | (go_at_call 160;((refine(good0 _ _ _ w2).mono ?_);rintro e w3 ⟨rfl,hb⟩;have B3:=Hj (B2.out.trans (hb.mono B2.out.size));clear hb))
    | fail)
   have H3:=Hj (B3.out.alloc B3.out.size)
   go_quiet (fail)
   go_wp2
   go_roundg (gk-1)
   case measure=>have:=HT.out;omega
   case rel=>exact⟨i+1,by go_num,by have:=HT.out;omega,below_drewN (H3.out _) nq⟩
  ·have hr:Cl 159 #[pt g,.int .i64 2] wr fun e w'=>∃A c,e=.returned (.tuple #[.slice A 0 c,.nilIface])∧Bw wr w':=HRd.out wr jD.out 2 (by omega)
   have HRi:=Hj hr
   obtain rfl:i=2:=by omega
   clear hr hi hlt
   go_wp2_with (first
    | (go_at_call 159;((refine HRi.out.mono ?_);rintro e w2 ⟨A2,c2',rfl,hb⟩;have B2:=Hj (jD.out.trans (hb.mono jD.out.size));clear hb))
    | fail)
   go_loopg [10] 0 (fun _ s10 wr=>wr=w2)
   case atStart=>exact rfl
   case round=>
    subst hrel
    obtain⟨j0,j1,j5,j4⟩:=KL.out wr B2.out
    go_wp2
    go_region_held3 (fun w'=>w'.cell? ⟨gl,1,none⟩=some (.int .i64 0)∧w'.cell? ⟨gl,5,none⟩=some (.int .i64 0)∧w'.cell? ⟨gl,4,none⟩=some (.slice none 0 0)) (first | exact⟨by assumption,by assumption,by assumption⟩ | go_keep) (first
     | (go_at_call 161;((refine(next0 _ _ _ _ _).mono ?_);rintro e w4 ⟨rfl,hb⟩;have B4:=Hj (B2.out.trans (((bV (aj _ _)).trans hb).mono B2.out.size));obtain⟨j0,j1,j5,j4⟩:=KL.out w4 B4.out;clear hb))
     | fail)
    all_goals
     go_wp2
     go_ret
     exact⟨rfl,dZ.out w4 B4.out,HF1.out.trans (Fr.of_below (S:=fun _=>False) B4.out) fun _ _ x=>x.elim⟩
theorem Zx (h:DD w0 w S g ⟨room,fun _=>0⟩):
  Cl 61 #[pt g] w fun e w'=>∃gl,e=.returned (.tuple #[pt gl,.nilIface])∧DQ w0 w' (ext S w w') g ⟨room,fun _=>0⟩ gl ⟨0,1,[]⟩∧w'.heap[gl]?=some (.cells #[pt g,.int .i64 0,.int .i64 1,.slice none 0 0,.slice none 0 0,.int .i64 0,.bool false] 173 (0,0))∧Bw w w':=by
 obtain⟨⟨O,m,⟨bv,wv,ws,hd⟩,hq,ho⟩,hu,hh,hbl⟩:=h
 have hb:∀i,i<3→m.b (3+i)=[]:=fun i hi=>mP (hq.seen i hi)
 obtain⟨w1,hw1⟩:∃W,W=w.alloc (.cells #[pt g,.int .i64 0,.int .i64 0,.slice none 0 0,.slice none 0 0,.int .i64 0,.bool false] 173):=⟨_,rfl⟩
 obtain⟨gl,hgl⟩:∃q,q=w.heap.size:=⟨_,rfl⟩
 have hb1:Bw w w1:=by rw[hw1];exact(aj _ w).alloc Kv _
 have hr1:w1.heap[gl]?=some (.cells #[pt g,.int .i64 0,.int .i64 0,.slice none 0 0,.slice none 0 0,.int .i64 0,.bool false] 173 (0,0)):=by rw[hw1,hgl];exact aA w _
 have hO:¬O gl:=fun hk=>by have:=hh gl (ho gl hk);omega
 have HL:=Hj (load0 (hd.below hb1) hb hr1 hO)
 have HP:Hid (∀W,w1.heap.size≤W.heap.size→W.heap[gl]?=some (.cells #[pt g,.int .i64 0,.int .i64 1,.slice none 0 0,.slice none 0 0,.int .i64 0,.bool false] 173 (0,0))→Fr (fun k=>k=gl) w1 W→aY W O g m bv wv ws∧DQ w0 W (ext S w W) g ⟨room,fun _=>0⟩ gl ⟨0,1,[]⟩∧Bw w W):=Hj fun W hs hr hf=>by
  have hd2:=(hd.below hb1).frW hf (fun k hk e=>hO (by rw[←e];exact hk))
  have hB:Bw w W:=hb1.trans (hf.below hb1.size fun k _ hk=>by omega)
  have hgw:gl<W.heap.size:=(Cq hr)
  exact⟨hd2,⟨⟨O,fun k=>k=gl,m,⟨bv,wv,ws,hd2⟩,⟨.slice none 0 0,.slice none 0 0,[],hr,ah.nil _ _ _ _,rfl,fun k hk=>(by cases hk)⟩,fun k hk=>.inl (ho k hk),fun k hk=>.inr ⟨by omega,by omega⟩,fun k hk e=>hO (by rw[←e];exact hk),hq⟩,mV hu hbl.size,qy hh hB.size,hbl.trans (hB.mono hbl.size)⟩,hB⟩
 have Ux:Hid (∀W,aY W O g m bv wv ws→Cl 102 #[pt g,.int .i64 2] W fun e w'=>e=.returned (.int .i64 0)∧W=w'):=Hj fun W hW=>by
  have:=xM 2 (by decide) hW
  rw[hb 2 (by decide)] at this
  exact this
 have HW:=Hj (aB hw1 hgl)
 clear hq hb hu hh hbl ho hd hw1 hgl hb1 hr1 hO
 go_enter Tryz.func61,Tryz.ntmps61
 go_wp2_with (first
  | (go_at_call 101;rw[←HW.out.1,←HW.out.2];((refine HL.out.mono ?_);rintro e w2 ⟨rfl,hr,hf⟩;obtain⟨p1,p2,p3⟩:=HP.out w2 hf.size hr hf;have P1:=Hj p1;have P2:=Hj (aB p2 p3);have HR:=Hj hr;have HF:=Hj hf;have c5:w2.cell? ⟨gl,5,none⟩=some (.int .i64 0):=Kq 5 hr;clear hr hf p1 p2 p3))
  | fail)
 go_region_held3 (fun w'=>w'.cell? ⟨gl,5,none⟩=some (.int .i64 0)) (first | assumption | go_keep) (first
  | (go_at_call 102;((refine(Ux.out w2.drew (P1.out.below (bV (aj _ _)))).mono ?_);rintro e w4 ⟨rfl,rfl⟩))
  | fail)
 all_goals
  go_wp2
  obtain⟨-,p2,p3⟩:=HP.out w2.drew HF.out.size HR.out HF.out.drew
  exact bg (eG rfl _ _ _) rfl ⟨gl,rfl,p2,HR.out,p3⟩
end
section
variable {w w' w0 v0:World} {D O P Q S X Z:Nat→Prop} {g gl gs gt k n:Nat} {m:DM} {L:LM} {M:bQ} {T:DT} {G:LM} {tv rv av ev v:Value}
theorem LS.narrow (h:LS w O v n):LS w (fun k=>O k∧aH w k) v n:=⟨h.1,fun q hq=>⟨h.2 q hq,let ⟨⟨_,_,h1⟩,_⟩:=h;aH.own h1 (by decide) hq⟩⟩
theorem wH.narrow {room:Int} {A:Nat→Option Addr} {kk s:Nat→Nat} (h:wH w O g room A kk s v):wH w (fun k=>O k∧aH w k) g room A kk s v:=⟨h.cells,fun i hi=>(h.eH i hi).narrow,h.fits,h.room,h.own,aH.of h.cells (by decide)⟩
theorem ER.narrow (h:ER w O g T):ER w (fun k=>O k∧aH w k) g T:=by
 unfold ER at h ⊢
 split at h
 ·obtain ⟨A,k,h⟩:=h;exact⟨A,k,h.narrow⟩
 ·obtain ⟨A,k,wv,v,p,h0,h1,h2,h3,h4⟩:=h
  exact⟨A,k,wv,v,p,h0,h1.narrow,h2,h3.narrow,fun q hq=>⟨h4 q hq,aH.own h2 (by decide) hq⟩⟩
theorem iV.narrow {ws:List (Nat×Value)} (h:iV w P gl g G tv rv ws):iV w (fun k=>P k∧aH w k) gl g G tv rv ws:=
 ⟨h.cells,let ⟨n,e⟩:=h.text;⟨n,e.narrow⟩,h.recs,h.eq,fun x hx=>(h.each x hx).narrow,⟨h.jv,aH.of h.cells (by decide)⟩,fun k hk=>⟨h.AL k hk,aH.own h.recs (by decide) hk⟩⟩
theorem KW.narrow (h:KW w0 w S g T gl G):KW w0 w (fun k=>S k∧aH w k) g T gl G:=by
 obtain⟨⟨O,P,h1,⟨tv,rv,ws,h2⟩,h3,h4,h5⟩,up,hi,bel⟩:=h
 exact⟨⟨_,_,h1.narrow,⟨tv,rv,ws,h2.narrow⟩,fun k hk=>⟨h3 k hk.1,hk.2⟩,fun k hk=>⟨h4 k hk.1,hk.2⟩,fun k a b=>h5 k a.1 b.1⟩,fun k hk=>up k hk.1,fun k hk=>hi k hk.1,bel⟩
theorem dD.nn {v:OV} {o:aC} (h:dD w v o) (hk:(sl v).ownBlock=some k):aH w k:=aH.own h.data (by decide) hk
theorem RV.narrow {xs:List (OV×aC)} {ys:List (Bool×(OV×aC))} (h:RV w Z gs gl av ev xs ys M):RV w (fun k=>Z k∧aH w k) gs gl av ev xs ys M:=
 ⟨h.cells,h.all,h.allM,h.each,h.evs,h.IE,h.kY,⟨h.zs,aH.of h.cells (by decide)⟩,fun k hk=>⟨h.za k hk,aH.own h.all (by decide) hk⟩,fun k hk=>⟨h.ze k hk,aH.own h.evs (by decide) hk⟩,fun x hx k hk=>⟨h.zx x hx k hk,(h.each x hx).nn hk⟩,fun y hy k hk=>⟨h.zy y hy k hk,(h.kY y hy).nn hk⟩⟩
theorem SV.narrow {sh:Code} {xs:List (ByteArray×(OV×aC))} {ys:List (Bool×(OV×aC))} (h:SV w Z gl gs gt sh ev xs ys M):SV w (fun k=>Z k∧aH w k) gl gs gt sh ev xs ys M:=by
 obtain⟨p,ht,_⟩:=h.tab
 exact⟨h.cells,h.tab,h.nD,h.each,h.evs,h.IE,h.kY,h.ok,⟨h.zs,aH.of h.cells (by decide)⟩,⟨h.zt,aH.of ht (by decide)⟩,fun k hk=>⟨h.ze k hk,aH.own h.evs (by decide) hk⟩,fun x hx k hk=>⟨h.zx x hx k hk,(h.each x hx).nn hk⟩,fun y hy k hk=>⟨h.zy y hy k hk,(h.kY y hy).nn hk⟩⟩
theorem SW.narrow (h:SW w0 w Q g m gs L M):SW w0 w (fun k=>Q k∧aH w k) g m gs L M:=by
 obtain⟨⟨S,Z,gl,gt,sh,ev,xs,ys,h1,h2,h3,h4,h5,h6⟩,up,hi⟩:=h
 exact⟨⟨S,_,gl,gt,sh,ev,xs,ys,h1,h2.narrow,fun k hk=>⟨h3 k hk,h6 k hk⟩,fun k hk=>⟨h4 k hk.1,hk.2⟩,fun k hk=>h5 k hk.1,h6⟩,fun k hk=>up k hk.1,fun k hk=>hi k hk.1⟩
theorem fG.narrow (h:fG D w0 w Q gs m L M):fG D w0 w (fun k=>Q k∧aH w k) gs m L M:=by
 obtain⟨⟨S,Z,g,gl,av,ev,xs,ys,h1,h2,h3,h4,h5,h6⟩,ok,up,hi,gq,dd⟩:=h
 exact⟨⟨_,_,g,gl,av,ev,xs,ys,h1.narrow,h2.narrow,h3,fun k hk=>⟨h4 k hk.1,hk.2⟩,fun k hk=>(h5 k hk.1).imp (fun h=>⟨h,hk.2⟩) id,fun k a b=>h6 k a.1 b.1⟩,ok,fun k hk=>up k hk.1,fun k hk=>hi k hk.1,⟨gq,aH.of h2.cells (by decide)⟩,fun k d=>⟨fun hk=>(dd k d).1 hk.1,(dd k d).2⟩⟩
theorem SW.base (h:SW w0 w Q g m gs L M) (hb:Bw v0 w0):SW v0 w Q g m gs L M:=by
 obtain⟨⟨S,Z,gl,gt,sh,ev,xs,ys,h1,h2⟩,up,hi⟩:=h
 exact⟨⟨S,Z,gl,gt,sh,ev,xs,ys,⟨⟨h1.q.dl,fun k hk=>Cz hb.size (h1.q.up k hk),h1.q.hi,hb.trans (h1.q.bel.mono hb.size)⟩,h1.fit⟩,h2⟩,fun k hk=>Cz hb.size (up k hk),hi⟩
theorem fG.base (h:fG D w0 w Q gs m L M) (hb:Bw v0 w0):fG D v0 w Q gs m L M:=by
 obtain⟨⟨S,Z,g,gl,av,ev,xs,ys,h1,h2⟩,ok,up,hi,gq,dd⟩:=h
 exact⟨⟨S,Z,g,gl,av,ev,xs,ys,⟨h1.dl,fun k hk=>Cz hb.size (h1.up k hk),h1.hi,hb.trans (h1.bel.mono hb.size)⟩,h2⟩,ok,fun k hk=>Cz hb.size (up k hk),hi,gq,dd⟩
end
end Go.Proofs.YtdhbpajamlfacaaGreatDoor
