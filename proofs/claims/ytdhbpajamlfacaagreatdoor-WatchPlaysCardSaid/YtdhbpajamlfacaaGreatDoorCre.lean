/- Layer 20 (store): current, Update. -/
import Derived.Test.YtdhbpajamlfacaaGreatDoorChg
import Derived.Test.YtdhbpajamlfacaaGreatDoorCnt
set_option maxHeartbeats 8000000
set_option maxRecDepth 100000
namespace Go.Proofs.YtdhbpajamlfacaaGreatDoor
open Go.RowKit SO
/-- What an object's version is asked. -/
def gV (M:bQ) (v:OV):Nat:=match getM M v.kind v.space v.name with
 | none=>18
 | some o=>if (o.ver:Int)=v.ver then 0 else 20
section
variable {w w0:World} {Q:Nat→Prop} {g gs:Nat} {m:DM} {L:LM} {M:bQ} {ea:Nat→Addr}
theorem Dp (v:OV) (h:SW w0 w Q g m gs L M) (he:Errs w0 ea) (hk:v.kind≤9223372036854775807) (hs:v.space.size≤1000) (hn:v.name.size≤1000) (hg:getM M v.kind v.space v.name=none):
  Cl 76 #[pt gs,.agg (ov v)] w fun e w'=>e=.returned (jC ea 18)∧Bw w w':=by
 obtain⟨w1,hw1,B,hB,hb1,hr1⟩:=bI w v
 have iL:=Hj (VB.all hr1)
 have lH:=Hj (h.Bq he hb1)
 have IY:=Hj (h.st1 hb1)
 have qY:=Hj h
 have HB1:=Hj hb1
 have HW1:=Hj hw1
 have kT:=Hj hB
 obtain⟨vb0,vb1,zX,Ah,Aj⟩:=iL.out w1 (aj _ _)
 have pJ:Hid (Cl 56 #[pt gs,.int .i64 v.kind,.string v.space,.string v.name] w1 fun e w'=>∃x:OV,e=.returned (.tuple #[.agg (ov x),.bool false])∧True∧Bw w1 w'):=Hj ((Dq v.kind v.space v.name (h.below hb1) hk hs hn).mono fun e w'=>by
  rw[hg]
  rintro⟨x,rfl,hx,hb⟩
  exact⟨x,rfl,trivial,hb⟩)
 clear h he hk hs hn hg hb1 hr1 hw1 hB
 go_enter Tryz.func76,Tryz.ntmps76
 go_wp2_with (go_at_call 56;(rw[←HW1.out];(with_reducible refine pJ.out.mono ?_);rintro e w2 ⟨x,rfl,hx,hb2⟩;have HB2:=Hj hb2;have hal:∀ob,Bw w1 (w2.alloc ob):=(fun ob=>hb2.alloc hb2.size ob);have e18:∀ob,(w2.alloc ob).cell? ⟨17,0,none⟩=some (.iface 368 (.pointer (some (ea 18)))):=(fun ob=>(lH.out _ (hal ob)).cell 18 (by decide) (by decide));have e20:∀ob,(w2.alloc ob).cell? ⟨19,0,none⟩=some (.iface 368 (.pointer (some (ea 20)))):=(fun ob=>(lH.out _ (hal ob)).cell 20 (by decide) (by decide));have a3:∀ob,(w2.alloc ob).cell? ⟨B,3,none⟩=some (.int .i64 v.ver):=(fun ob=>(iL.out _ (hal ob)).2.2.2.1);try rw[←kT.out];clear hx;clear hb2 hal))
 go_ret
 exact⟨rfl,HB1.out.trans ((HB2.out.alloc HB2.out.size _).mono HB1.out.size)⟩
theorem Am (v:OV) (h:SW w0 w Q g m gs L M) (he:Errs w0 ea) (hk:v.kind≤9223372036854775807) (hs:v.space.size≤1000) (hn:v.name.size≤1000) (o:aC) (hg:getM M v.kind v.space v.name=some o) (hv:¬(o.ver:Int)=v.ver):
  Cl 76 #[pt gs,.agg (ov v)] w fun e w'=>e=.returned (jC ea 20)∧Bw w w':=by
 obtain⟨w1,hw1,B,hB,hb1,hr1⟩:=bI w v
 have iL:=Hj (VB.all hr1)
 have lH:=Hj (h.Bq he hb1)
 have IY:=Hj (h.st1 hb1)
 have qY:=Hj h
 have HB1:=Hj hb1
 have HW1:=Hj hw1
 have kT:=Hj hB
 obtain⟨vb0,vb1,zX,Ah,Aj⟩:=iL.out w1 (aj _ _)
 have pJ:Hid (Cl 56 #[pt gs,.int .i64 v.kind,.string v.space,.string v.name] w1 fun e w'=>∃x:OV,e=.returned (.tuple #[.agg (ov x),.bool true])∧x.ver=(o.ver:Int)∧Bw w1 w'):=Hj ((Dq v.kind v.space v.name (h.below hb1) hk hs hn).mono fun e w'=>by
  rw[hg]
  rintro⟨x,rfl,hx,hb⟩
  exact⟨x,rfl,(hx o rfl).1.ver,hb⟩)
 have hv2:((o.ver:Int) !=v.ver)=true:=by simpa using hv
 clear h he hk hs hn hg hb1 hr1 hw1 hB hv
 go_enter Tryz.func76,Tryz.ntmps76
 go_wp2_with (go_at_call 56;(rw[←HW1.out];(with_reducible refine pJ.out.mono ?_);rintro e w2 ⟨x,rfl,hx,hb2⟩;have HB2:=Hj hb2;have hal:∀ob,Bw w1 (w2.alloc ob):=(fun ob=>hb2.alloc hb2.size ob);have e18:∀ob,(w2.alloc ob).cell? ⟨17,0,none⟩=some (.iface 368 (.pointer (some (ea 18)))):=(fun ob=>(lH.out _ (hal ob)).cell 18 (by decide) (by decide));have e20:∀ob,(w2.alloc ob).cell? ⟨19,0,none⟩=some (.iface 368 (.pointer (some (ea 20)))):=(fun ob=>(lH.out _ (hal ob)).cell 20 (by decide) (by decide));have a3:∀ob,(w2.alloc ob).cell? ⟨B,3,none⟩=some (.int .i64 v.ver):=(fun ob=>(iL.out _ (hal ob)).2.2.2.1);try rw[←kT.out];clear hb2 hal))
 go_ret
 exact⟨rfl,HB1.out.trans ((HB2.out.alloc HB2.out.size _).mono HB1.out.size)⟩
theorem IZ (v:OV) (h:SW w0 w Q g m gs L M) (he:Errs w0 ea) (hk:v.kind≤9223372036854775807) (hs:v.space.size≤1000) (hn:v.name.size≤1000) (o:aC) (hg:getM M v.kind v.space v.name=some o) (hv:(o.ver:Int)=v.ver):
  Cl 76 #[pt gs,.agg (ov v)] w fun e w'=>e=.returned (jC ea 0)∧Bw w w':=by
 obtain⟨w1,hw1,B,hB,hb1,hr1⟩:=bI w v
 have iL:=Hj (VB.all hr1)
 have lH:=Hj (h.Bq he hb1)
 have IY:=Hj (h.st1 hb1)
 have qY:=Hj h
 have HB1:=Hj hb1
 have HW1:=Hj hw1
 have kT:=Hj hB
 obtain⟨vb0,vb1,zX,Ah,Aj⟩:=iL.out w1 (aj _ _)
 have pJ:Hid (Cl 56 #[pt gs,.int .i64 v.kind,.string v.space,.string v.name] w1 fun e w'=>∃x:OV,e=.returned (.tuple #[.agg (ov x),.bool true])∧x.ver=(o.ver:Int)∧Bw w1 w'):=Hj ((Dq v.kind v.space v.name (h.below hb1) hk hs hn).mono fun e w'=>by
  rw[hg]
  rintro⟨x,rfl,hx,hb⟩
  exact⟨x,rfl,(hx o rfl).1.ver,hb⟩)
 have hv2:((o.ver:Int) !=v.ver)=false:=by simpa using hv
 clear h he hk hs hn hg hb1 hr1 hw1 hB hv
 go_enter Tryz.func76,Tryz.ntmps76
 go_wp2_with (go_at_call 56;(rw[←HW1.out];(with_reducible refine pJ.out.mono ?_);rintro e w2 ⟨x,rfl,hx,hb2⟩;have HB2:=Hj hb2;have hal:∀ob,Bw w1 (w2.alloc ob):=(fun ob=>hb2.alloc hb2.size ob);have e18:∀ob,(w2.alloc ob).cell? ⟨17,0,none⟩=some (.iface 368 (.pointer (some (ea 18)))):=(fun ob=>(lH.out _ (hal ob)).cell 18 (by decide) (by decide));have e20:∀ob,(w2.alloc ob).cell? ⟨19,0,none⟩=some (.iface 368 (.pointer (some (ea 20)))):=(fun ob=>(lH.out _ (hal ob)).cell 20 (by decide) (by decide));have a3:∀ob,(w2.alloc ob).cell? ⟨B,3,none⟩=some (.int .i64 v.ver):=(fun ob=>(iL.out _ (hal ob)).2.2.2.1);try rw[←kT.out];clear hb2 hal))
 go_ret
 exact⟨rfl,HB1.out.trans ((HB2.out.alloc HB2.out.size _).mono HB1.out.size)⟩
theorem wC (v:OV) (h:SW w0 w Q g m gs L M) (he:Errs w0 ea) (hk:v.kind≤9223372036854775807) (hs:v.space.size≤1000) (hn:v.name.size≤1000):
  Cl 76 #[pt gs,.agg (ov v)] w fun e w'=>e=.returned (jC ea (gV M v))∧Bw w w':=by
 unfold gV
 cases hg:getM M v.kind v.space v.name with
 | none=>exact Dp v h he hk hs hn hg
 | some o=>
  by_cases hv:(o.ver:Int)=v.ver
  ·simp only[if_pos hv]
   exact IZ v h he hk hs hn o hg hv
  ·simp only[if_neg hv]
   exact Am v h he hk hs hn o hg hv
/-- The object that a call puts. -/
def fU (M:bQ) (v:OV) (data:List UInt8):aC:=⟨v.kind.toNat,v.space,v.name,M.rev+1,data⟩
theorem kK {v:OV} {data:List UInt8} (ha:dL v=0) (hd:v.n=data.length) (hr:M.rev<1099511627776):M.Can (false,fU M v data)∧v.kind=((fU M v data).kind:Int):=by
 unfold dL at ha
 split at ha
 ·rename_i hn
  split at ha
  ·cases ha
  ·obtain ⟨p1,p2,-⟩:=oz hn
   have e:(v.kind.toNat:Int)=v.kind:=Int.toNat_of_nonneg (by omega)
   refine⟨⟨⟨by show dJ (v.kind.toNat:Int) v.space v.name=true;rw[e];exact hn,by show data.length≤8192;omega⟩,rfl,by show M.rev+1≤_;omega,fun x=>(by cases x)⟩,e.symm⟩
 ·cases ha
/-- What a call that puts answers, and what it leaves. -/
def Puts (M:bQ) (L:LM) (m:DM) (p:Nat) (e:Bool×aC) (n E:Nat) (M':bQ) (L':LM) (m':DM):Prop:=
 (p≠0∧n=0∧E=p∧M'=M∧L'=L∧m'=m)∨(p=0∧Nb M L m e n E M' L' m')
def oC (M:bQ) (v:OV):Nat:=if dL v=0 then gV M v else dL v
theorem I4 (v:OV) (data:List UInt8) (h:SW w0 w Q g m gs L M) (he:Errs w0 ea) (hE:EW w0 ea) (hrb:RB w v.A v.n data) (hk:v.kind≤9223372036854775807) (hs:v.space.size≤1000) (hn:v.name.size≤1000) (hr:M.rev<1099511627776) (hl:M.tab.length≤90) (hl2:M.evs.length≤100000):
  Cl 31 #[pt gs,.agg (ov v)] w fun en w'=>∃n E M' L' m',en=.returned (.tuple #[.int .i64 ((n:Nat):Int),jC ea E])∧Puts M L m (oC M v) (false,fU M v data) n E M' L' m'∧SW w0 w' (ext Q w w') g m' gs L' M'∧Fr Q w w':=by
 obtain⟨w1,hw1,B,hB,hb1,hr1⟩:=bI w v
 have iL:=Hj (VB.all hr1)
 have lH:=Hj (h.Bq he hb1)
 have IY:=Hj (h.st1 hb1)
 have qY:=Hj h
 have HB1:=Hj hb1
 have HW:=Hj (aB hw1 hB)
 obtain⟨vb0,vb1,zX,Ah,Aj⟩:=iL.out w1 (aj _ _)
 have jY:Hid (Cl 55 #[.agg (ov v)] w1 fun e w'=>e=.returned (jC ea (dL v))∧Bw w1 w'):=Hj (by rw[←tY];exact uY v w1 ea (lH.out w1 (aj _ _)))
 have mF:Hid (∀W,Bw w1 W→Cl 76 #[pt gs,.agg (ov v)] W fun e w'=>e=.returned (jC ea (gV M v))∧Bw W w'):=Hj fun W hW=>wC v (IY.out W hW) he hk hs hn
 have Aq:Hid (dL v=0→∀W,Bw w1 W→Cl 60 #[pt gs,.agg (ov v),.bool false] W fun en w'=>∃n E M' L' m',en=.returned (.tuple #[.int .i64 ((n:Nat):Int),jC ea E])∧Nb M L m (false,fU M v data) n E M' L' m'∧SW w0 w' (ext Q W w') g m' gs L' M'∧Fr Q W w'):=Hj fun ha W hW=>by
  obtain⟨hcan,hkk⟩:=kK (M:=M) (data:=data) ha hrb.1.symm hr
  exact rY v (fU M v data) false (IY.out W hW) he hE ((hrb.keep (Kz hb1)).keep (Kz hW)) ⟨hkk,rfl,rfl⟩ hcan hr hl hl2
 have Fh:Hid (∀W E,Bw w1 W→oC M v=E→E≠0→Puts M L m (oC M v) (false,fU M v data) 0 E M L m∧SW w0 W (ext Q w W) g m gs L M∧Fr Q w W):=Hj fun W E hW h1 h2=>⟨.inl ⟨by rw[h1];exact h2,rfl,h1.symm,rfl,rfl,rfl⟩,qY.out.made (HB1.out.trans (hW.mono HB1.out.size))⟩
 have HP:Hid (∀x,x=(if dL v=0 then gV M v else dL v)→oC M v=x):=Hj fun x hx=>hx.symm
 clear h he hE hrb hk hs hn hr hl hl2 hb1 hr1 hw1 hB
 generalize dL v=a at jY Aq HP
 generalize gV M v=c at mF HP
 by_cases ha:a=0
 ·by_cases hc:c=0
  ·subst ha
   subst hc
   rw[iF] at jY mF
   go_enter Tryz.func31,Tryz.ntmps31
   go_wp2_with (first
    | (go_at_call 55;rw[←HW.out.1,←HW.out.2];(refine jY.out.mono ?_);rintro e w2 ⟨rfl,hb2⟩;have HB2:=Hj hb2;obtain⟨v20,v21,v22,v23,v24⟩:=iL.out w2 hb2;clear hb2)
    | (go_at_call 76;(refine(mF.out w2 HB2.out).mono ?_);rintro e w3 ⟨rfl,hb3⟩;have HB3:=Hj (HB2.out.trans (hb3.mono HB2.out.size));obtain⟨v30,v31,v32,v33,v34⟩:=iL.out w3 HB3.out;clear hb3)
    | (go_at_call 60;(refine(Aq.out (by trivial) w3 HB3.out).mono ?_);rintro e w9 ⟨n,E,M',L',m',rfl,hch,hs9,xw⟩;have I7:=Hj (aB hch (aB hs9 xw));clear hch hs9 xw)
    | fail)
   go_ret2
   exact⟨n,E,M',L',m',rfl,.inr ⟨HP.out 0 (by simp),I7.out.1⟩,qY.out.behind (HB1.out.trans (HB3.out.mono HB1.out.size)) ⟨I7.out.2.1,I7.out.2.2⟩⟩
  ·subst ha
   rw[iF] at jY
   rw[dM ea hc] at mF
   go_enter Tryz.func31,Tryz.ntmps31
   go_wp2_with (first
    | (go_at_call 55;rw[←HW.out.1,←HW.out.2];(refine jY.out.mono ?_);rintro e w2 ⟨rfl,hb2⟩;have HB2:=Hj hb2;obtain⟨v20,v21,v22,v23,v24⟩:=iL.out w2 hb2;clear hb2)
    | (go_at_call 76;(refine(mF.out w2 HB2.out).mono ?_);rintro e w3 ⟨rfl,hb3⟩;have HB3:=Hj (HB2.out.trans (hb3.mono HB2.out.size));obtain⟨v30,v31,v32,v33,v34⟩:=iL.out w3 HB3.out;clear hb3)
    | fail)
   go_ret2
   exact⟨0,c,M,L,m,by rw[dM ea hc];rfl,Fh.out w3 c HB3.out (HP.out c (by simp)) hc⟩
 ·rw [dM ea ha] at jY
  go_enter Tryz.func31,Tryz.ntmps31
  go_wp2_with (first
   | (go_at_call 55;rw[←HW.out.1,←HW.out.2];(refine jY.out.mono ?_);rintro e w2 ⟨rfl,hb2⟩;have HB2:=Hj hb2;obtain⟨v20,v21,v22,v23,v24⟩:=iL.out w2 hb2;clear hb2)
   | fail)
  go_ret2
  exact⟨0,a,M,L,m,by rw[dM ea ha];rfl,Fh.out w2 a HB2.out (HP.out a (by simp[ha])) ha⟩
end
section
variable {w w0:World} {Q:Nat→Prop} {g gs:Nat} {m:DM} {L:LM} {M:bQ} {ea:Nat→Addr}
/-- Is something in the namespace? -/
def tZ (M:bQ) (v:OV):Bool:=decide (0<jW M 5 v.name)||decide (0<jW M 6 v.name)
def mG (M:bQ) (v:OV):Nat:=if dL ⟨v.kind,v.space,v.name,v.ver,none,0,0⟩=0 then (if gV M v=0 then (if v.kind=1∧tZ M v=true then 24 else 0) else gV M v) else dL ⟨v.kind,v.space,v.name,v.ver,none,0,0⟩
theorem yB {v:OV} (ha:dL ⟨v.kind,v.space,v.name,v.ver,none,0,0⟩=0) (hp:gV M v=0) (hr:M.rev<1099511627776):M.Can (true,fU M v [])∧v.kind=((fU M v []).kind:Int):=by
 obtain⟨h1,h2⟩:=kK (M:=M) (data:=[]) ha rfl hr
 refine⟨⟨h1.ok,h1.ver,h1.most,fun _=>⟨rfl,?_⟩⟩,h2⟩
 have e:aW (fU M v [])=jr v.kind v.space v.name:=by
  have h3:v.kind=((fU M v []).kind:Int):=h2
  unfold aW
  rw[←h3]
  rfl
 show (look aS (aW (fU M v [])) M.tab).isSome=true
 rw[e]
 unfold gV getM at hp
 cases hl:look aS (jr v.kind v.space v.name) M.tab with
 | none=>rw[hl] at hp;cases hp
 | some o=>rfl
theorem I8 (v:OV) (h:SW w0 w Q g m gs L M) (he:Errs w0 ea) (hE:EW w0 ea) (hk:v.kind≤9223372036854775807) (hs:v.space.size≤1000) (hn:v.name.size≤1000) (hr:M.rev<1099511627776) (hl:M.tab.length≤90) (hl2:M.evs.length≤100000):
  Cl 33 #[pt gs,.agg (ov v)] w fun en w'=>∃n E M' L' m',en=.returned (.tuple #[.int .i64 ((n:Nat):Int),jC ea E])∧Puts M L m (mG M v) (true,fU M v []) n E M' L' m'∧SW w0 w' (ext Q w w') g m' gs L' M'∧Fr Q w w':=by
 obtain⟨w1,hw1,B,hB,hb1,hr1⟩:=bI w ⟨v.kind,v.space,v.name,v.ver,none,0,0⟩
 have iL:=Hj (VB.all hr1)
 have lH:=Hj (h.Bq he hb1)
 have IY:=Hj (h.st1 hb1)
 have qY:=Hj h
 have HB1:=Hj hb1
 have HW:=Hj (aB hw1 hB)
 obtain⟨vb0,vb1,zX,Ah,Aj⟩:=iL.out w1 (aj _ _)
 have jY:Hid (Cl 55 #[.agg #[.int .i64 v.kind,.string v.space,.string v.name,.int .i64 v.ver,.slice none 0 0]] w1 fun e w'=>e=.returned (jC ea (dL ⟨v.kind,v.space,v.name,v.ver,none,0,0⟩))∧Bw w1 w'):=Hj (by rw[←tY];exact uY ⟨v.kind,v.space,v.name,v.ver,none,0,0⟩ w1 ea (lH.out w1 (aj _ _)))
 have mF:Hid (∀W,Bw w1 W→Cl 76 #[pt gs,.agg #[.int .i64 v.kind,.string v.space,.string v.name,.int .i64 v.ver,.slice none 0 0]] W fun e w'=>e=.returned (jC ea (gV M v))∧Bw W w'):=Hj fun W hW=>wC ⟨v.kind,v.space,v.name,v.ver,none,0,0⟩ (IY.out W hW) he hk hs hn
 have HUse:Hid (∀W,Bw w1 W→Cl 78 #[pt gs,.string v.name] W fun e w'=>e=.returned (.bool (tZ M v))∧Bw W w'):=Hj fun W hW=>P8 v.name (IY.out W hW) hn (by omega)
 have Aq:Hid (dL ⟨v.kind,v.space,v.name,v.ver,none,0,0⟩=0→gV M v=0→∀W,Bw w1 W→Cl 60 #[pt gs,.agg #[.int .i64 v.kind,.string v.space,.string v.name,.int .i64 v.ver,.slice none 0 0],.bool true] W fun en w'=>∃n E M' L' m',en=.returned (.tuple #[.int .i64 ((n:Nat):Int),jC ea E])∧Nb M L m (true,fU M v []) n E M' L' m'∧SW w0 w' (ext Q W w') g m' gs L' M'∧Fr Q W w'):=Hj fun ha hp W hW=>by
  obtain⟨hcan,hkk⟩:=yB ha hp hr
  exact rY ⟨v.kind,v.space,v.name,v.ver,none,0,0⟩ (fU M v []) true (IY.out W hW) he hE (RB.nil _ _) ⟨hkk,rfl,rfl⟩ hcan hr hl hl2
 have Fh:Hid (∀W E,Bw w1 W→mG M v=E→E≠0→Puts M L m (mG M v) (true,fU M v []) 0 E M L m∧SW w0 W (ext Q w W) g m gs L M∧Fr Q w W):=Hj fun W E hW h1 h2=>⟨.inl ⟨by rw[h1];exact h2,rfl,h1.symm,rfl,rfl,rfl⟩,qY.out.made (HB1.out.trans (hW.mono HB1.out.size))⟩
 have HP:Hid (∀x,x=(if dL ⟨v.kind,v.space,v.name,v.ver,none,0,0⟩=0 then (if gV M v=0 then (if v.kind=1∧tZ M v=true then 24 else 0) else gV M v) else dL ⟨v.kind,v.space,v.name,v.ver,none,0,0⟩)→mG M v=x):=Hj fun x hx=>hx.symm
 clear h he hE hk hs hn hr hl hl2 hb1 hr1 hw1 hB
 dsimp only at vb0 vb1 zX Ah Aj HW
 generalize dL ⟨v.kind,v.space,v.name,v.ver,none,0,0⟩=a at jY Aq HP
 generalize gV M v=c at mF Aq HP
 generalize tZ M v=u at HUse HP
 by_cases ha:a=0
 ·by_cases hc:c=0
  ·subst ha
   subst hc
   rw[iF] at jY mF
   have hsp:((v.kind==1)=true∧v.kind=1∧(u=true∨u=false))∨((v.kind==1)=false∧¬v.kind=1):=by
    by_cases h1:v.kind=1
    ·exact .inl ⟨by rw[h1];rfl,h1,by cases u<;>simp⟩
    ·exact .inr ⟨gQ.2 h1,h1⟩
   rcases hsp with ⟨k1,k2,rfl | rfl⟩ | ⟨k1,k2⟩
   all_goals
    have HK:=Hj k2
    clear k2
    go_enter Tryz.func33,Tryz.ntmps33
    go_wp2_with (first
     | (go_at_call 55;rw[←HW.out.1,←HW.out.2];(refine jY.out.mono ?_);rintro e w2 ⟨rfl,hb2⟩;have HB2:=Hj hb2;obtain⟨v20,v21,v22,v23,v24⟩:=iL.out w2 hb2;dsimp only at v20 v21 v22 v23 v24;clear hb2)
     | (go_at_call 76;(refine(mF.out w2 HB2.out).mono ?_);rintro e w3 ⟨rfl,hb3⟩;have HB3:=Hj (HB2.out.trans (hb3.mono HB2.out.size));obtain⟨v30,v31,v32,v33,v34⟩:=iL.out w3 HB3.out;dsimp only at v30 v31 v32 v33 v34;clear hb3)
     | (go_at_call 78;(refine(HUse.out w3 HB3.out).mono ?_);rintro e w5 ⟨rfl,hb5⟩;have nH:=Hj (HB3.out.trans (hb5.mono HB3.out.size));obtain⟨v50,v51,v52,v53,v54⟩:=iL.out w5 nH.out;dsimp only at v50 v51 v52 v53 v54;have e24:w5.cell? ⟨23,0,none⟩=some (.iface 368 (.pointer (some (ea 24)))):=(lH.out w5 nH.out).cell 24 (by decide) (by decide);clear hb5)
     | (go_at_call 60;first
        | ((with_reducible refine(Aq.out (by trivial) (by trivial) w5 nH.out).mono ?_);rintro e w9 ⟨n,E,M',L',m',rfl,hch,hs9,xw⟩;have I7:=Hj (aB hch (qY.out.behind (HB1.out.trans (nH.out.mono HB1.out.size)) ⟨hs9,xw⟩));clear hch hs9 xw)
        | ((with_reducible refine(Aq.out (by trivial) (by trivial) w3 HB3.out).mono ?_);rintro e w9 ⟨n,E,M',L',m',rfl,hch,hs9,xw⟩;have I7:=Hj (aB hch (qY.out.behind (HB1.out.trans (HB3.out.mono HB1.out.size)) ⟨hs9,xw⟩));clear hch hs9 xw))
     | fail)
    first
    | (go_ret2
       exact⟨n,E,M',L',m',rfl,.inr ⟨HP.out 0 (by simp[HK.out]),I7.out.1⟩,I7.out.2⟩)
    | (go_quiet (fail)
       go_wp2
       go_ret2
       exact⟨0,24,M,L,m,rfl,Fh.out _ 24 (below_drewN nH.out _) (HP.out 24 (by simp[HK.out])) (by decide)⟩)
  ·subst ha
   rw[iF] at jY
   rw[dM ea hc] at mF
   go_enter Tryz.func33,Tryz.ntmps33
   go_wp2_with (first
    | (go_at_call 55;rw[←HW.out.1,←HW.out.2];(refine jY.out.mono ?_);rintro e w2 ⟨rfl,hb2⟩;have HB2:=Hj hb2;obtain⟨v20,v21,v22,v23,v24⟩:=iL.out w2 hb2;dsimp only at v20 v21 v22 v23 v24;clear hb2)
    | (go_at_call 76;(refine(mF.out w2 HB2.out).mono ?_);rintro e w3 ⟨rfl,hb3⟩;have HB3:=Hj (HB2.out.trans (hb3.mono HB2.out.size));obtain⟨v30,v31,v32,v33,v34⟩:=iL.out w3 HB3.out;dsimp only at v30 v31 v32 v33 v34;clear hb3)
    | fail)
   go_ret2
   exact⟨0,c,M,L,m,by rw[dM ea hc];rfl,Fh.out w3 c HB3.out (HP.out c (by simp[hc])) hc⟩
 ·rw [dM ea ha] at jY
  go_enter Tryz.func33,Tryz.ntmps33
  go_wp2_with (first
   | (go_at_call 55;rw[←HW.out.1,←HW.out.2];(refine jY.out.mono ?_);rintro e w2 ⟨rfl,hb2⟩;have HB2:=Hj hb2;obtain⟨v20,v21,v22,v23,v24⟩:=iL.out w2 hb2;dsimp only at v20 v21 v22 v23 v24;clear hb2)
   | fail)
  go_ret2
  exact⟨0,a,M,L,m,by rw[dM ea ha];rfl,Fh.out w2 a HB2.out (HP.out a (by simp[ha])) ha⟩
end
def jS (M:bQ) (v:OV):Nat:=
 if dL v=0 then (if fV v.kind=true∧(getM M 1 ⟨#[]⟩ v.space).isSome=false then 18 else if (getM M v.kind v.space v.name).isSome=true then 19 else if (if v.kind=1 then 8 else 32)≤jW M v.kind v.space then 21 else 0) else dL v
section
variable {w w0:World} {Q:Nat→Prop} {g gs:Nat} {m:DM} {L:LM} {M:bQ} {ea:Nat→Addr}
theorem rZ (v:OV) (data:List UInt8) (h:SW w0 w Q g m gs L M) (he:Errs w0 ea) (hE:EW w0 ea) (hrb:RB w v.A v.n data) (hk:v.kind≤9223372036854775807) (hs:v.space.size≤1000) (hn:v.name.size≤1000) (hr:M.rev<1099511627776) (hl:M.tab.length≤90) (hl2:M.evs.length≤100000):
  Cl 23 #[pt gs,.agg (ov v)] w fun en w'=>∃n E M' L' m',en=.returned (.tuple #[.int .i64 ((n:Nat):Int),jC ea E])∧Puts M L m (jS M v) (false,fU M v data) n E M' L' m'∧SW w0 w' (ext Q w w') g m' gs L' M'∧Fr Q w w':=by
 obtain⟨w1,hw1,B,hB,hb1,hr1⟩:=bI w v
 have iL:=Hj (VB.all hr1)
 have lH:=Hj (h.Bq he hb1)
 have IY:=Hj (h.st1 hb1)
 have qY:=Hj h
 have HB1:=Hj hb1
 have HW:=Hj (aB hw1 hB)
 obtain⟨vb0,vb1,zX,Ah,Aj⟩:=iL.out w1 (aj _ _)
 have jY:Hid (Cl 55 #[.agg (ov v)] w1 fun e w'=>e=.returned (jC ea (dL v))∧Bw w1 w'):=Hj (by rw[←tY];exact uY v w1 ea (lH.out w1 (aj _ _)))
 have HG:Hid (∀W kd sp nm,Bw w1 W→kd≤9223372036854775807→sp.size≤1000→nm.size≤1000→Cl 56 #[pt gs,.int .i64 kd,.string sp,.string nm] W fun e w'=>∃x:OV,e=.returned (.tuple #[.agg (ov x),.bool (getM M kd sp nm).isSome])∧Bw W w'):=Hj fun W kd sp nm hW a b c=>(Dq kd sp nm (IY.out W hW) a b c).mono fun e w' ⟨x,h1,_,h2⟩=>⟨x,h1,h2⟩
 have HG1:=Hj fun W (hW:Bw w1 W)=>HG.out W 1 ⟨#[]⟩ v.space hW (by decide) (by decide) hs
 have HG2:=Hj fun W (hW:Bw w1 W)=>HG.out W v.kind v.space v.name hW hk hs hn
 have tq:Hid (∀W,Cl 57 #[.int .i64 v.kind] W fun e w'=>e=.returned (.bool (fV v.kind))∧W=w'):=Hj fun W=>jF v.kind W
 obtain⟨q,hqe⟩:∃q:Int,q=if v.kind=1 then 8 else 32:=⟨_,rfl⟩
 obtain⟨c,hce⟩:∃c,c=jW M v.kind v.space:=⟨_,rfl⟩
 have HQu:Hid (∀W,Cl 59 #[.int .i64 v.kind] W fun e w'=>e=.returned (.int .i64 q)∧W=w'):=Hj fun W=>by rw[hqe];exact Nl v.kind W
 have HCt:Hid (∀W,Bw w1 W→Cl 58 #[pt gs,.int .i64 v.kind,.string v.space] W fun e w'=>e=.returned (.int .i64 c)∧Bw W w'):=Hj fun W hW=>by rw[hce];exact uU v.kind v.space (IY.out W hW) hk hs (by omega)
 have Aq:Hid (dL v=0→∀W,Bw w1 W→Cl 60 #[pt gs,.agg (ov v),.bool false] W fun en w'=>∃n E M' L' m',en=.returned (.tuple #[.int .i64 ((n:Nat):Int),jC ea E])∧Nb M L m (false,fU M v data) n E M' L' m'∧SW w0 w' (ext Q W w') g m' gs L' M'∧Fr Q W w'):=Hj fun ha W hW=>by
  obtain⟨hcan,hkk⟩:=kK (M:=M) (data:=data) ha hrb.1.symm hr
  exact rY v (fU M v data) false (IY.out W hW) he hE ((hrb.keep (Kz hb1)).keep (Kz hW)) ⟨hkk,rfl,rfl⟩ hcan hr hl hl2
 have Fh:Hid (∀W E,Bw w1 W→jS M v=E→E≠0→Puts M L m (jS M v) (false,fU M v data) 0 E M L m∧SW w0 W (ext Q w W) g m gs L M∧Fr Q w W):=Hj fun W E hW h1 h2=>⟨.inl ⟨by rw[h1];exact h2,rfl,h1.symm,rfl,rfl,rfl⟩,qY.out.made (HB1.out.trans (hW.mono HB1.out.size))⟩
 have HA:Hid (dL v≠0→jS M v=dL v):=Hj fun h=>by unfold jS;rw[aG h]
 have HP:Hid (∀x,dL v=0→x=(if fV v.kind=true∧(getM M 1 ⟨#[]⟩ v.space).isSome=false then 18 else if (getM M v.kind v.space v.name).isSome=true then 19 else if q≤c then 21 else 0)→jS M v=x):=Hj fun x ha hx=>by unfold jS;rw[aF ha,hx,hqe,hce]
 generalize hbi:fV v.kind=bi at tq HP
 generalize hbs:(getM M 1 ⟨#[]⟩ v.space).isSome=bs at HG1 HP
 generalize hbt:(getM M v.kind v.space v.name).isSome=bt at HG2 HP
 have hsplit:dL v≠0∨(dL v=0∧((bi=true∧bs=false)∨(((bi=true∧bs=true)∨bi=false)∧(bt=true∨(bt=false∧(q≤c∨¬q≤c)))))):=by
  by_cases ha:dL v=0
  ·cases bi<;>cases bs<;>cases bt<;>by_cases hq:q≤c<;>simp[ha,hq]
  ·exact .inl ha
 clear h he hE hrb hk hs hn hr hl hl2 hb1 hr1 hw1 hB hqe hce hbi hbs hbt HG
 generalize ha0:dL v=a at jY hsplit Aq HA HP
 rcases hsplit with ha | ⟨rfl,⟨rfl,rfl⟩ | ⟨⟨rfl,rfl⟩ | rfl,rfl | ⟨rfl,hq | hq⟩⟩⟩
 case inl=>
  rw[dM ea ha] at jY
  go_enter Tryz.func23,Tryz.ntmps23
  go_wp2_with (first
   | (go_at_call 55;(rw[←HW.out.1,←HW.out.2];(refine jY.out.mono ?_);rintro e w2 ⟨rfl,hb2⟩;have HB2:=Hj hb2;obtain⟨v20,v21,v22,v23,v24⟩:=iL.out w2 hb2;clear hb2))
   | fail)
  go_ret2
  exact⟨0,a,M,L,m,by rw[dM ea ha];rfl,Fh.out w2 a HB2.out (HA.out ha) ha⟩
 all_goals
  rw[iF] at jY
  go_enter Tryz.func23,Tryz.ntmps23
  go_wp2_with (first
   | (go_at_call 55;(rw[←HW.out.1,←HW.out.2];(refine jY.out.mono ?_);rintro e w2 ⟨rfl,hb2⟩;have HB2:=Hj hb2;obtain⟨v20,v21,v22,v23,v24⟩:=iL.out w2 hb2;clear hb2))
   | (go_at_call 56;((with_reducible refine(HG1.out w2 HB2.out).mono ?_);rintro e w3 ⟨x1,rfl,hb3⟩;have HB3:=Hj (HB2.out.trans (hb3.mono HB2.out.size));have b3:=(fun ob=>iL.out (w3.alloc ob) (HB3.out.alloc HB3.out.size ob));have b30:=fun ob=>(b3 ob).1;have b31:=fun ob=>(b3 ob).2.1;have b32:=fun ob=>(b3 ob).2.2.1;clear b3 hb3))
   | (go_at_call 56;((with_reducible refine(HG2.out _ (HB3.out.alloc HB3.out.size _)).mono ?_);rintro e w4 ⟨x2,rfl,hb4⟩;have HB4:=Hj ((HB3.out.alloc HB3.out.size _).trans (hb4.mono (HB3.out.alloc HB3.out.size _).size));have b4:=(fun ob=>iL.out (w4.alloc ob) (HB4.out.alloc HB4.out.size ob));have b40:=fun ob=>(b4 ob).1;clear b4 hb4 b30 b31 b32))
   | (go_at_call 57;(obtain⟨wb,hwb⟩:∃W,W=w4.alloc (.cells (ov x2) 37):=⟨_,rfl⟩;rw[←hwb];(refine(tq.out wb).mono ?_);rintro e w' ⟨rfl,rfl⟩;have Fj:Hid (Bw w1 wb):=Hj (by rw[hwb];exact HB4.out.alloc HB4.out.size _);obtain⟨vw0,vw1,vw2,vw3,vw4⟩:=iL.out wb Fj.out;have hc:=(lH.out wb Fj.out).cell;have e18:wb.cell? ⟨17,0,none⟩=some (.iface 368 (.pointer (some (ea 18)))):=hc 18 (by decide) (by decide);have e19:wb.cell? ⟨18,0,none⟩=some (.iface 368 (.pointer (some (ea 19)))):=hc 19 (by decide) (by decide);clear hwb b40 hc))
   | fail)
  first
  | (go_quiet (fail)
     go_wp2
     go_ret2
     first
     | exact⟨0,18,M,L,m,rfl,Fh.out _ 18 (below_drewN Fj.out _) (HP.out 18 (by trivial) (by simp)) (by decide)⟩
     | exact⟨0,19,M,L,m,rfl,Fh.out _ 19 (below_drewN Fj.out _) (HP.out 19 (by trivial) (by simp)) (by decide)⟩)
  | (clear vw2 vw3 vw4 e18 e19
     go_region_held3 (fun w'=>w'.cell? ⟨B,0,none⟩=some (.int .i64 v.kind)∧w'.cell? ⟨B,1,none⟩=some (.string v.space)) (first | exact⟨by assumption,by assumption⟩ | go_keep) (first
      | (go_at_call 58;(refine(HCt.out wb.drew (aJ Fj.out)).mono ?_);rintro e wk ⟨rfl,hbk⟩;have pV:Hid (Bw w1 wk):=Hj ((aJ Fj.out).trans (hbk.mono Fj.out.size));obtain⟨vk0,vk1,vk2,vk3,vk4⟩:=iL.out wk pV.out;have e21:wk.cell? ⟨20,0,none⟩=some (.iface 368 (.pointer (some (ea 21)))):=(lH.out wk pV.out).cell 21 (by decide) (by decide);clear hbk)
      | (go_at_call 59;(refine(HQu.out wk).mono ?_);rintro e w' ⟨rfl,rfl⟩)
      | fail)
     go_wp2_with (first
      | (go_at_call 60;(refine(Aq.out (by trivial) wk pV.out).mono ?_);rintro e w9 ⟨n,E,M',L',m',rfl,hch,hs9,xw⟩;have I7:=Hj (aB hch (aB hs9 xw));clear hch hs9 xw)
      | fail)
     first
     | (go_ret2
        exact⟨n,E,M',L',m',rfl,.inr ⟨HP.out 0 (by trivial) (by simp[hq]),I7.out.1⟩,qY.out.behind (HB1.out.trans (pV.out.mono HB1.out.size)) ⟨I7.out.2.1,I7.out.2.2⟩⟩)
     | (go_quiet (fail)
        go_wp2
        go_ret2
        exact⟨0,21,M,L,m,rfl,Fh.out _ 21 (below_drewN pV.out _) (HP.out 21 (by trivial) (by simp[hq])) (by decide)⟩))
end
end Go.Proofs.YtdhbpajamlfacaaGreatDoor
