/- Layer 20 (store): current, Update. -/
import Derived.Test.YtdhbpajamlfacaaGreatDoorChg
import Derived.Test.YtdhbpajamlfacaaGreatDoorCnt
namespace Go.Proofs.YtdhbpajamlfacaaGreatDoor
open Go.RowKit SO
/-- What an object's version is asked. -/
def eY (M:aY) (v:OV):Nat:=match getM M v.kind v.space v.name with
 | none=>18
 | some o=>if (o.ver:Int)=v.ver then 0 else 20
section
variable {w w0:World} {Q:Nat→Prop} {g gs:Nat} {m:DM} {L:LM} {M:aY} {ea:Nat→Addr}
set_option maxHeartbeats 1000000 in
theorem zX (v:OV) (h:SW w0 w Q g m gs L M) (he:Errs w0 ea) (hk:v.kind≤9223372036854775807) (hs:v.space.size≤1000) (hn:v.name.size≤1000) (hg:getM M v.kind v.space v.name=none):
  Calls Tryz.prog 76 #[.pointer (some ⟨gs,0,none⟩),.agg #[.int .i64 v.kind,.string v.space,.string v.name,.int .i64 v.ver,.slice v.A v.n v.c]] w fun e w'=>e=.returned (bK ea 18)∧Below w.heap.size w w':=by
 obtain⟨w1,hw1,B,hB,hb1,hr1⟩:=aX w v
 have gG:=Hj (VB.all hr1)
 have jG:=Hj (h.yR he hb1)
 have xZ:=Hj (h.st1 hb1)
 have ng:=Hj h
 have HB1:=Hj hb1
 have HW1:=Hj hw1
 have jB:=Hj hB
 obtain⟨vb0,vb1,xK,x9,yc⟩:=gG.out w1 (Below.refl _ _)
 have mQ:Hid (Calls Tryz.prog 56 #[.pointer (some ⟨gs,0,none⟩),.int .i64 v.kind,.string v.space,.string v.name] w1 fun e w'=>∃x:OV,e=.returned (.tuple #[.agg #[.int .i64 x.kind,.string x.space,.string x.name,.int .i64 x.ver,.slice x.A x.n x.c],.bool false])∧True∧Below w1.heap.size w1 w'):=Hj ((zY v.kind v.space v.name (h.below hb1) hk hs hn).mono fun e w'=>by
  rw[hg]
  rintro⟨x,rfl,hx,hb⟩
  exact⟨x,rfl,trivial,hb⟩)
 clear h he hk hs hn hg hb1 hr1 hw1 hB
 go_enter Tryz.func76,Tryz.ntmps76
 go_wp2_with (go_at_call 56;(rw[←HW1.out];(with_reducible refine mQ.out.mono ?_);rintro e w2 ⟨x,rfl,hx,hb2⟩;have HB2:=Hj hb2;have hal:∀ob,Below w1.heap.size w1 (w2.alloc ob):=(fun ob=>hb2.alloc hb2.size ob);have e18:∀ob,(w2.alloc ob).cell? ⟨17,0,none⟩=some (.iface 368 (.pointer (some (ea 18)))):=(fun ob=>(jG.out _ (hal ob)).cell 18 (by decide) (by decide));have e20:∀ob,(w2.alloc ob).cell? ⟨19,0,none⟩=some (.iface 368 (.pointer (some (ea 20)))):=(fun ob=>(jG.out _ (hal ob)).cell 20 (by decide) (by decide));have a3:∀ob,(w2.alloc ob).cell? ⟨B,3,none⟩=some (.int .i64 v.ver):=(fun ob=>(gG.out _ (hal ob)).2.2.2.1);try rw[←jB.out];clear hx;clear hb2 hal))
 go_ret
 exact⟨rfl,HB1.out.trans ((HB2.out.alloc HB2.out.size _).mono HB1.out.size)⟩
set_option maxHeartbeats 1000000 in
theorem yg (v:OV) (h:SW w0 w Q g m gs L M) (he:Errs w0 ea) (hk:v.kind≤9223372036854775807) (hs:v.space.size≤1000) (hn:v.name.size≤1000) (o:aH) (hg:getM M v.kind v.space v.name=some o) (hv:¬(o.ver:Int)=v.ver):
  Calls Tryz.prog 76 #[.pointer (some ⟨gs,0,none⟩),.agg #[.int .i64 v.kind,.string v.space,.string v.name,.int .i64 v.ver,.slice v.A v.n v.c]] w fun e w'=>e=.returned (bK ea 20)∧Below w.heap.size w w':=by
 obtain⟨w1,hw1,B,hB,hb1,hr1⟩:=aX w v
 have gG:=Hj (VB.all hr1)
 have jG:=Hj (h.yR he hb1)
 have xZ:=Hj (h.st1 hb1)
 have ng:=Hj h
 have HB1:=Hj hb1
 have HW1:=Hj hw1
 have jB:=Hj hB
 obtain⟨vb0,vb1,xK,x9,yc⟩:=gG.out w1 (Below.refl _ _)
 have mQ:Hid (Calls Tryz.prog 56 #[.pointer (some ⟨gs,0,none⟩),.int .i64 v.kind,.string v.space,.string v.name] w1 fun e w'=>∃x:OV,e=.returned (.tuple #[.agg #[.int .i64 x.kind,.string x.space,.string x.name,.int .i64 x.ver,.slice x.A x.n x.c],.bool true])∧x.ver=(o.ver:Int)∧Below w1.heap.size w1 w'):=Hj ((zY v.kind v.space v.name (h.below hb1) hk hs hn).mono fun e w'=>by
  rw[hg]
  rintro⟨x,rfl,hx,hb⟩
  exact⟨x,rfl,(hx o rfl).1.ver,hb⟩)
 have hv2:((o.ver:Int) !=v.ver)=true:=by simpa using hv
 clear h he hk hs hn hg hb1 hr1 hw1 hB hv
 go_enter Tryz.func76,Tryz.ntmps76
 go_wp2_with (go_at_call 56;(rw[←HW1.out];(with_reducible refine mQ.out.mono ?_);rintro e w2 ⟨x,rfl,hx,hb2⟩;have HB2:=Hj hb2;have hal:∀ob,Below w1.heap.size w1 (w2.alloc ob):=(fun ob=>hb2.alloc hb2.size ob);have e18:∀ob,(w2.alloc ob).cell? ⟨17,0,none⟩=some (.iface 368 (.pointer (some (ea 18)))):=(fun ob=>(jG.out _ (hal ob)).cell 18 (by decide) (by decide));have e20:∀ob,(w2.alloc ob).cell? ⟨19,0,none⟩=some (.iface 368 (.pointer (some (ea 20)))):=(fun ob=>(jG.out _ (hal ob)).cell 20 (by decide) (by decide));have a3:∀ob,(w2.alloc ob).cell? ⟨B,3,none⟩=some (.int .i64 v.ver):=(fun ob=>(gG.out _ (hal ob)).2.2.2.1);try rw[←jB.out];clear hb2 hal))
 go_ret
 exact⟨rfl,HB1.out.trans ((HB2.out.alloc HB2.out.size _).mono HB1.out.size)⟩
set_option maxHeartbeats 1000000 in
theorem FP (v:OV) (h:SW w0 w Q g m gs L M) (he:Errs w0 ea) (hk:v.kind≤9223372036854775807) (hs:v.space.size≤1000) (hn:v.name.size≤1000) (o:aH) (hg:getM M v.kind v.space v.name=some o) (hv:(o.ver:Int)=v.ver):
  Calls Tryz.prog 76 #[.pointer (some ⟨gs,0,none⟩),.agg #[.int .i64 v.kind,.string v.space,.string v.name,.int .i64 v.ver,.slice v.A v.n v.c]] w fun e w'=>e=.returned (bK ea 0)∧Below w.heap.size w w':=by
 obtain⟨w1,hw1,B,hB,hb1,hr1⟩:=aX w v
 have gG:=Hj (VB.all hr1)
 have jG:=Hj (h.yR he hb1)
 have xZ:=Hj (h.st1 hb1)
 have ng:=Hj h
 have HB1:=Hj hb1
 have HW1:=Hj hw1
 have jB:=Hj hB
 obtain⟨vb0,vb1,xK,x9,yc⟩:=gG.out w1 (Below.refl _ _)
 have mQ:Hid (Calls Tryz.prog 56 #[.pointer (some ⟨gs,0,none⟩),.int .i64 v.kind,.string v.space,.string v.name] w1 fun e w'=>∃x:OV,e=.returned (.tuple #[.agg #[.int .i64 x.kind,.string x.space,.string x.name,.int .i64 x.ver,.slice x.A x.n x.c],.bool true])∧x.ver=(o.ver:Int)∧Below w1.heap.size w1 w'):=Hj ((zY v.kind v.space v.name (h.below hb1) hk hs hn).mono fun e w'=>by
  rw[hg]
  rintro⟨x,rfl,hx,hb⟩
  exact⟨x,rfl,(hx o rfl).1.ver,hb⟩)
 have hv2:((o.ver:Int) !=v.ver)=false:=by simpa using hv
 clear h he hk hs hn hg hb1 hr1 hw1 hB hv
 go_enter Tryz.func76,Tryz.ntmps76
 go_wp2_with (go_at_call 56;(rw[←HW1.out];(with_reducible refine mQ.out.mono ?_);rintro e w2 ⟨x,rfl,hx,hb2⟩;have HB2:=Hj hb2;have hal:∀ob,Below w1.heap.size w1 (w2.alloc ob):=(fun ob=>hb2.alloc hb2.size ob);have e18:∀ob,(w2.alloc ob).cell? ⟨17,0,none⟩=some (.iface 368 (.pointer (some (ea 18)))):=(fun ob=>(jG.out _ (hal ob)).cell 18 (by decide) (by decide));have e20:∀ob,(w2.alloc ob).cell? ⟨19,0,none⟩=some (.iface 368 (.pointer (some (ea 20)))):=(fun ob=>(jG.out _ (hal ob)).cell 20 (by decide) (by decide));have a3:∀ob,(w2.alloc ob).cell? ⟨B,3,none⟩=some (.int .i64 v.ver):=(fun ob=>(gG.out _ (hal ob)).2.2.2.1);try rw[←jB.out];clear hb2 hal))
 go_ret
 exact⟨rfl,HB1.out.trans ((HB2.out.alloc HB2.out.size _).mono HB1.out.size)⟩
theorem tN (v:OV) (h:SW w0 w Q g m gs L M) (he:Errs w0 ea) (hk:v.kind≤9223372036854775807) (hs:v.space.size≤1000) (hn:v.name.size≤1000):
  Calls Tryz.prog 76 #[.pointer (some ⟨gs,0,none⟩),.agg #[.int .i64 v.kind,.string v.space,.string v.name,.int .i64 v.ver,.slice v.A v.n v.c]] w fun e w'=>e=.returned (bK ea (eY M v))∧Below w.heap.size w w':=by
 unfold eY
 cases hg:getM M v.kind v.space v.name with
 | none=>exact zX v h he hk hs hn hg
 | some o=>
  by_cases hv:(o.ver:Int)=v.ver
  ·simp only[if_pos hv]
   exact FP v h he hk hs hn o hg hv
  ·simp only[if_neg hv]
   exact yg v h he hk hs hn o hg hv
/-- The object that a call puts. -/
def dW (M:aY) (v:OV) (data:List UInt8):aH:=⟨v.kind.toNat,v.space,v.name,M.rev+1,data⟩
theorem jl {v:OV} {data:List UInt8} (ha:bG v=0) (hd:v.n=data.length) (hr:M.rev<1099511627776):M.Can (false,dW M v data)∧v.kind=((dW M v data).kind:Int):=by
 unfold bG at ha
 split at ha
 ·rename_i hn
  split at ha
  ·cases ha
  ·obtain ⟨p1,p2,-⟩:=jP hn
   have e:(v.kind.toNat:Int)=v.kind:=Int.toNat_of_nonneg (by omega)
   refine⟨⟨⟨by show bU (v.kind.toNat:Int) v.space v.name=true;rw[e];exact hn,by show data.length≤8192;omega⟩,rfl,by show M.rev+1≤_;omega,fun x=>(by cases x)⟩,e.symm⟩
 ·cases ha
/-- What a call that puts answers, and what it leaves. -/
def Puts (M:aY) (L:LM) (m:DM) (p:Nat) (e:Bool×aH) (n E:Nat) (M':aY) (L':LM) (m':DM):Prop:=
 (p≠0∧n=0∧E=p∧M'=M∧L'=L∧m'=m)∨(p=0∧Ir M L m e n E M' L' m')
def mV (M:aY) (v:OV):Nat:=if bG v=0 then eY M v else bG v
set_option maxHeartbeats 4000000 in
theorem FQ (v:OV) (data:List UInt8) (h:SW w0 w Q g m gs L M) (he:Errs w0 ea) (hE:EW w0 ea) (hok:m.Ok) (hL:L.Ok) (hw:m.waits.length≤900) (hrb:RB w v.A v.n data) (hk:v.kind≤9223372036854775807) (hs:v.space.size≤1000) (hn:v.name.size≤1000) (hr:M.rev<1099511627776) (hl:M.tab.length≤90) (hl2:M.evs.length≤100000):
  Calls Tryz.prog 31 #[.pointer (some ⟨gs,0,none⟩),.agg #[.int .i64 v.kind,.string v.space,.string v.name,.int .i64 v.ver,.slice v.A v.n v.c]] w fun en w'=>∃n E M' L' m',en=.returned (.tuple #[.int .i64 ((n:Nat):Int),bK ea E])∧Puts M L m (mV M v) (false,dW M v data) n E M' L' m'∧SW w0 w' (ext Q w w') g m' gs L' M'∧Fr Q w w':=by
 obtain⟨w1,hw1,B,hB,hb1,hr1⟩:=aX w v
 have gG:=Hj (VB.all hr1)
 have jG:=Hj (h.yR he hb1)
 have xZ:=Hj (h.st1 hb1)
 have ng:=Hj h
 have HB1:=Hj hb1
 have HW:=Hj (And.intro hw1 hB)
 obtain⟨vb0,vb1,xK,x9,yc⟩:=gG.out w1 (Below.refl _ _)
 have iZ:Hid (Calls Tryz.prog 55 #[.agg #[.int .i64 v.kind,.string v.space,.string v.name,.int .i64 v.ver,.slice v.A v.n v.c]] w1 fun e w'=>e=.returned (bK ea (bG v))∧Below w1.heap.size w1 w'):=Hj (by rw[←qF];exact sD v w1 ea (jG.out w1 (Below.refl _ _)))
 have jY:Hid (∀W,Below w1.heap.size w1 W→Calls Tryz.prog 76 #[.pointer (some ⟨gs,0,none⟩),.agg #[.int .i64 v.kind,.string v.space,.string v.name,.int .i64 v.ver,.slice v.A v.n v.c]] W fun e w'=>e=.returned (bK ea (eY M v))∧Below W.heap.size W w'):=Hj fun W hW=>tN v (xZ.out W hW) he hk hs hn
 have yj:Hid (bG v=0→∀W,Below w1.heap.size w1 W→Calls Tryz.prog 60 #[.pointer (some ⟨gs,0,none⟩),.agg #[.int .i64 v.kind,.string v.space,.string v.name,.int .i64 v.ver,.slice v.A v.n v.c],.bool false] W fun en w'=>∃n E M' L' m',en=.returned (.tuple #[.int .i64 ((n:Nat):Int),bK ea E])∧Ir M L m (false,dW M v data) n E M' L' m'∧SW w0 w' (ext Q W w') g m' gs L' M'∧Fr Q W w'):=Hj fun ha W hW=>by
  obtain⟨hcan,hkk⟩:=jl (M:=M) (data:=data) ha hrb.1.symm hr
  exact o7 v (dW M v data) false (xZ.out W hW) he hE hok hL hw ((hrb.keep (Kz hb1)).keep (Kz hW)) ⟨hkk,rfl,rfl⟩ hcan hr hl hl2
 have Nv:Hid (∀W E,Below w1.heap.size w1 W→mV M v=E→E≠0→Puts M L m (mV M v) (false,dW M v data) 0 E M L m∧SW w0 W (ext Q w W) g m gs L M∧Fr Q w W):=Hj fun W E hW h1 h2=>⟨.inl ⟨by rw[h1];exact h2,rfl,h1.symm,rfl,rfl,rfl⟩,ng.out.made (HB1.out.trans (hW.mono HB1.out.size))⟩
 have HP:Hid (∀x,x=(if bG v=0 then eY M v else bG v)→mV M v=x):=Hj fun x hx=>hx.symm
 clear h he hE hok hL hw hrb hk hs hn hr hl hl2 hb1 hr1 hw1 hB
 generalize bG v=a at iZ yj HP
 generalize eY M v=c at jY HP
 by_cases ha:a=0
 ·by_cases hc:c=0
  ·subst ha
   subst hc
   rw[bQ] at iZ jY
   go_enter Tryz.func31,Tryz.ntmps31
   go_wp2_with (first
    | (go_at_call 55;rw[←HW.out.1,←HW.out.2];(with_reducible refine iZ.out.mono ?_);rintro e w2 ⟨rfl,hb2⟩;have HB2:=Hj hb2;obtain⟨v20,v21,v22,v23,v24⟩:=gG.out w2 hb2;clear hb2)
    | (go_at_call 76;(with_reducible refine(jY.out w2 HB2.out).mono ?_);rintro e w3 ⟨rfl,hb3⟩;have HB3:=Hj (HB2.out.trans (hb3.mono HB2.out.size));obtain⟨v30,v31,v32,v33,v34⟩:=gG.out w3 HB3.out;clear hb3)
    | (go_at_call 60;(with_reducible refine(yj.out (by trivial) w3 HB3.out).mono ?_);rintro e w9 ⟨n,E,M',L',m',rfl,hch,hs9,uQ⟩;have FT:=Hj (And.intro hch (And.intro hs9 uQ));clear hch hs9 uQ)
    | fail)
   go_ret2
   exact⟨n,E,M',L',m',rfl,.inr ⟨HP.out 0 (by simp),FT.out.1⟩,ng.out.behind (HB1.out.trans (HB3.out.mono HB1.out.size)) ⟨FT.out.2.1,FT.out.2.2⟩⟩
  ·subst ha
   rw[bQ] at iZ
   rw[bM ea hc] at jY
   go_enter Tryz.func31,Tryz.ntmps31
   go_wp2_with (first
    | (go_at_call 55;rw[←HW.out.1,←HW.out.2];(with_reducible refine iZ.out.mono ?_);rintro e w2 ⟨rfl,hb2⟩;have HB2:=Hj hb2;obtain⟨v20,v21,v22,v23,v24⟩:=gG.out w2 hb2;clear hb2)
    | (go_at_call 76;(with_reducible refine(jY.out w2 HB2.out).mono ?_);rintro e w3 ⟨rfl,hb3⟩;have HB3:=Hj (HB2.out.trans (hb3.mono HB2.out.size));obtain⟨v30,v31,v32,v33,v34⟩:=gG.out w3 HB3.out;clear hb3)
    | fail)
   go_ret2
   exact⟨0,c,M,L,m,by rw[bM ea hc];rfl,Nv.out w3 c HB3.out (HP.out c (by simp)) hc⟩
 ·rw [bM ea ha] at iZ
  go_enter Tryz.func31,Tryz.ntmps31
  go_wp2_with (first
   | (go_at_call 55;rw[←HW.out.1,←HW.out.2];(with_reducible refine iZ.out.mono ?_);rintro e w2 ⟨rfl,hb2⟩;have HB2:=Hj hb2;obtain⟨v20,v21,v22,v23,v24⟩:=gG.out w2 hb2;clear hb2)
   | fail)
  go_ret2
  exact⟨0,a,M,L,m,by rw[bM ea ha];rfl,Nv.out w2 a HB2.out (HP.out a (by simp[ha])) ha⟩
end
section
variable {w w0:World} {Q:Nat→Prop} {g gs:Nat} {m:DM} {L:LM} {M:aY} {ea:Nat→Addr}
/-- Is something in the namespace? -/
def vX (M:aY) (v:OV):Bool:=decide (0<iR M 5 v.name)||decide (0<iR M 6 v.name)
def kL (M:aY) (v:OV):Nat:=if bG ⟨v.kind,v.space,v.name,v.ver,none,0,0⟩=0 then (if eY M v=0 then (if v.kind=1∧vX M v=true then 24 else 0) else eY M v) else bG ⟨v.kind,v.space,v.name,v.ver,none,0,0⟩
theorem vY {v:OV} (ha:bG ⟨v.kind,v.space,v.name,v.ver,none,0,0⟩=0) (hp:eY M v=0) (hr:M.rev<1099511627776):M.Can (true,dW M v [])∧v.kind=((dW M v []).kind:Int):=by
 obtain⟨h1,h2⟩:=jl (M:=M) (data:=[]) ha rfl hr
 refine⟨⟨h1.ok,h1.ver,h1.most,fun _=>⟨rfl,?_⟩⟩,h2⟩
 have e:aN (dW M v [])=ji v.kind v.space v.name:=by
  have h3:v.kind=((dW M v []).kind:Int):=h2
  unfold aN
  rw[←h3]
  rfl
 show (look aJ (aN (dW M v [])) M.tab).isSome=true
 rw[e]
 unfold eY getM at hp
 cases hl:look aJ (ji v.kind v.space v.name) M.tab with
 | none=>rw[hl] at hp;cases hp
 | some o=>rfl
set_option maxHeartbeats 8000000 in
theorem FU (v:OV) (h:SW w0 w Q g m gs L M) (he:Errs w0 ea) (hE:EW w0 ea) (hok:m.Ok) (hL:L.Ok) (hw:m.waits.length≤900) (hk:v.kind≤9223372036854775807) (hs:v.space.size≤1000) (hn:v.name.size≤1000) (hr:M.rev<1099511627776) (hl:M.tab.length≤90) (hl2:M.evs.length≤100000):
  Calls Tryz.prog 33 #[.pointer (some ⟨gs,0,none⟩),.agg #[.int .i64 v.kind,.string v.space,.string v.name,.int .i64 v.ver,.slice v.A v.n v.c]] w fun en w'=>∃n E M' L' m',en=.returned (.tuple #[.int .i64 ((n:Nat):Int),bK ea E])∧Puts M L m (kL M v) (true,dW M v []) n E M' L' m'∧SW w0 w' (ext Q w w') g m' gs L' M'∧Fr Q w w':=by
 obtain⟨w1,hw1,B,hB,hb1,hr1⟩:=aX w ⟨v.kind,v.space,v.name,v.ver,none,0,0⟩
 have gG:=Hj (VB.all hr1)
 have jG:=Hj (h.yR he hb1)
 have xZ:=Hj (h.st1 hb1)
 have ng:=Hj h
 have HB1:=Hj hb1
 have HW:=Hj (And.intro hw1 hB)
 obtain⟨vb0,vb1,xK,x9,yc⟩:=gG.out w1 (Below.refl _ _)
 have iZ:Hid (Calls Tryz.prog 55 #[.agg #[.int .i64 v.kind,.string v.space,.string v.name,.int .i64 v.ver,.slice none 0 0]] w1 fun e w'=>e=.returned (bK ea (bG ⟨v.kind,v.space,v.name,v.ver,none,0,0⟩))∧Below w1.heap.size w1 w'):=Hj (by rw[←qF];exact sD ⟨v.kind,v.space,v.name,v.ver,none,0,0⟩ w1 ea (jG.out w1 (Below.refl _ _)))
 have jY:Hid (∀W,Below w1.heap.size w1 W→Calls Tryz.prog 76 #[.pointer (some ⟨gs,0,none⟩),.agg #[.int .i64 v.kind,.string v.space,.string v.name,.int .i64 v.ver,.slice none 0 0]] W fun e w'=>e=.returned (bK ea (eY M v))∧Below W.heap.size W w'):=Hj fun W hW=>tN ⟨v.kind,v.space,v.name,v.ver,none,0,0⟩ (xZ.out W hW) he hk hs hn
 have YI:Hid (∀W,Below w1.heap.size w1 W→Calls Tryz.prog 78 #[.pointer (some ⟨gs,0,none⟩),.string v.name] W fun e w'=>e=.returned (.bool (vX M v))∧Below W.heap.size W w'):=Hj fun W hW=>Nr v.name (xZ.out W hW) hn (by omega)
 have yj:Hid (bG ⟨v.kind,v.space,v.name,v.ver,none,0,0⟩=0→eY M v=0→∀W,Below w1.heap.size w1 W→Calls Tryz.prog 60 #[.pointer (some ⟨gs,0,none⟩),.agg #[.int .i64 v.kind,.string v.space,.string v.name,.int .i64 v.ver,.slice none 0 0],.bool true] W fun en w'=>∃n E M' L' m',en=.returned (.tuple #[.int .i64 ((n:Nat):Int),bK ea E])∧Ir M L m (true,dW M v []) n E M' L' m'∧SW w0 w' (ext Q W w') g m' gs L' M'∧Fr Q W w'):=Hj fun ha hp W hW=>by
  obtain⟨hcan,hkk⟩:=vY ha hp hr
  exact o7 ⟨v.kind,v.space,v.name,v.ver,none,0,0⟩ (dW M v []) true (xZ.out W hW) he hE hok hL hw (RB.nil _ _) ⟨hkk,rfl,rfl⟩ hcan hr hl hl2
 have Nv:Hid (∀W E,Below w1.heap.size w1 W→kL M v=E→E≠0→Puts M L m (kL M v) (true,dW M v []) 0 E M L m∧SW w0 W (ext Q w W) g m gs L M∧Fr Q w W):=Hj fun W E hW h1 h2=>⟨.inl ⟨by rw[h1];exact h2,rfl,h1.symm,rfl,rfl,rfl⟩,ng.out.made (HB1.out.trans (hW.mono HB1.out.size))⟩
 have HP:Hid (∀x,x=(if bG ⟨v.kind,v.space,v.name,v.ver,none,0,0⟩=0 then (if eY M v=0 then (if v.kind=1∧vX M v=true then 24 else 0) else eY M v) else bG ⟨v.kind,v.space,v.name,v.ver,none,0,0⟩)→kL M v=x):=Hj fun x hx=>hx.symm
 clear h he hE hok hL hw hk hs hn hr hl hl2 hb1 hr1 hw1 hB
 dsimp only at vb0 vb1 xK x9 yc HW
 generalize bG ⟨v.kind,v.space,v.name,v.ver,none,0,0⟩=a at iZ yj HP
 generalize eY M v=c at jY yj HP
 generalize vX M v=u at YI HP
 by_cases ha:a=0
 ·by_cases hc:c=0
  ·subst ha
   subst hc
   rw[bQ] at iZ jY
   have hsp:((v.kind==1)=true∧v.kind=1∧(u=true∨u=false))∨((v.kind==1)=false∧¬v.kind=1):=by
    by_cases h1:v.kind=1
    ·exact .inl ⟨by rw[h1];rfl,h1,by cases u<;>simp⟩
    ·exact .inr ⟨beq_eq_false_iff_ne.2 h1,h1⟩
   rcases hsp with ⟨k1,k2,rfl | rfl⟩ | ⟨k1,k2⟩
   all_goals
    have HK:=Hj k2
    clear k2
    go_enter Tryz.func33,Tryz.ntmps33
    go_wp2_with (first
     | (go_at_call 55;rw[←HW.out.1,←HW.out.2];(with_reducible refine iZ.out.mono ?_);rintro e w2 ⟨rfl,hb2⟩;have HB2:=Hj hb2;obtain⟨v20,v21,v22,v23,v24⟩:=gG.out w2 hb2;dsimp only at v20 v21 v22 v23 v24;clear hb2)
     | (go_at_call 76;(with_reducible refine(jY.out w2 HB2.out).mono ?_);rintro e w3 ⟨rfl,hb3⟩;have HB3:=Hj (HB2.out.trans (hb3.mono HB2.out.size));obtain⟨v30,v31,v32,v33,v34⟩:=gG.out w3 HB3.out;dsimp only at v30 v31 v32 v33 v34;clear hb3)
     | (go_at_call 78;(with_reducible refine(YI.out w3 HB3.out).mono ?_);rintro e w5 ⟨rfl,hb5⟩;have kT:=Hj (HB3.out.trans (hb5.mono HB3.out.size));obtain⟨v50,v51,v52,v53,v54⟩:=gG.out w5 kT.out;dsimp only at v50 v51 v52 v53 v54;have e24:w5.cell? ⟨23,0,none⟩=some (.iface 368 (.pointer (some (ea 24)))):=(jG.out w5 kT.out).cell 24 (by decide) (by decide);clear hb5)
     | (go_at_call 60;first
        | ((with_reducible refine(yj.out (by trivial) (by trivial) w5 kT.out).mono ?_);rintro e w9 ⟨n,E,M',L',m',rfl,hch,hs9,uQ⟩;have FT:=Hj (And.intro hch (ng.out.behind (HB1.out.trans (kT.out.mono HB1.out.size)) ⟨hs9,uQ⟩));clear hch hs9 uQ)
        | ((with_reducible refine(yj.out (by trivial) (by trivial) w3 HB3.out).mono ?_);rintro e w9 ⟨n,E,M',L',m',rfl,hch,hs9,uQ⟩;have FT:=Hj (And.intro hch (ng.out.behind (HB1.out.trans (HB3.out.mono HB1.out.size)) ⟨hs9,uQ⟩));clear hch hs9 uQ))
     | fail)
    first
    | (go_ret2
       exact⟨n,E,M',L',m',rfl,.inr ⟨HP.out 0 (by simp[HK.out]),FT.out.1⟩,FT.out.2⟩)
    | (go_quiet (fail)
       go_wp2
       go_ret2
       exact⟨0,24,M,L,m,rfl,Nv.out _ 24 (below_drewN kT.out _) (HP.out 24 (by simp[HK.out])) (by decide)⟩)
  ·subst ha
   rw[bQ] at iZ
   rw[bM ea hc] at jY
   go_enter Tryz.func33,Tryz.ntmps33
   go_wp2_with (first
    | (go_at_call 55;rw[←HW.out.1,←HW.out.2];(with_reducible refine iZ.out.mono ?_);rintro e w2 ⟨rfl,hb2⟩;have HB2:=Hj hb2;obtain⟨v20,v21,v22,v23,v24⟩:=gG.out w2 hb2;dsimp only at v20 v21 v22 v23 v24;clear hb2)
    | (go_at_call 76;(with_reducible refine(jY.out w2 HB2.out).mono ?_);rintro e w3 ⟨rfl,hb3⟩;have HB3:=Hj (HB2.out.trans (hb3.mono HB2.out.size));obtain⟨v30,v31,v32,v33,v34⟩:=gG.out w3 HB3.out;dsimp only at v30 v31 v32 v33 v34;clear hb3)
    | fail)
   go_ret2
   exact⟨0,c,M,L,m,by rw[bM ea hc];rfl,Nv.out w3 c HB3.out (HP.out c (by simp[hc])) hc⟩
 ·rw [bM ea ha] at iZ
  go_enter Tryz.func33,Tryz.ntmps33
  go_wp2_with (first
   | (go_at_call 55;rw[←HW.out.1,←HW.out.2];(with_reducible refine iZ.out.mono ?_);rintro e w2 ⟨rfl,hb2⟩;have HB2:=Hj hb2;obtain⟨v20,v21,v22,v23,v24⟩:=gG.out w2 hb2;dsimp only at v20 v21 v22 v23 v24;clear hb2)
   | fail)
  go_ret2
  exact⟨0,a,M,L,m,by rw[bM ea ha];rfl,Nv.out w2 a HB2.out (HP.out a (by simp[ha])) ha⟩
end
def dD (M:aY) (v:OV):Nat:=
 if bG v=0 then (if iH v.kind=true∧(getM M 1 ⟨#[]⟩ v.space).isSome=false then 18 else if (getM M v.kind v.space v.name).isSome=true then 19 else if (if v.kind=1 then 8 else 32)≤iR M v.kind v.space then 21 else 0) else bG v
section
variable {w w0:World} {Q:Nat→Prop} {g gs:Nat} {m:DM} {L:LM} {M:aY} {ea:Nat→Addr}
set_option maxHeartbeats 8000000 in
set_option maxRecDepth 100000 in
theorem pq (v:OV) (data:List UInt8) (h:SW w0 w Q g m gs L M) (he:Errs w0 ea) (hE:EW w0 ea) (hok:m.Ok) (hL:L.Ok) (hw:m.waits.length≤900) (hrb:RB w v.A v.n data) (hk:v.kind≤9223372036854775807) (hs:v.space.size≤1000) (hn:v.name.size≤1000) (hr:M.rev<1099511627776) (hl:M.tab.length≤90) (hl2:M.evs.length≤100000):
  Calls Tryz.prog 23 #[.pointer (some ⟨gs,0,none⟩),.agg #[.int .i64 v.kind,.string v.space,.string v.name,.int .i64 v.ver,.slice v.A v.n v.c]] w fun en w'=>∃n E M' L' m',en=.returned (.tuple #[.int .i64 ((n:Nat):Int),bK ea E])∧Puts M L m (dD M v) (false,dW M v data) n E M' L' m'∧SW w0 w' (ext Q w w') g m' gs L' M'∧Fr Q w w':=by
 obtain⟨w1,hw1,B,hB,hb1,hr1⟩:=aX w v
 have gG:=Hj (VB.all hr1)
 have jG:=Hj (h.yR he hb1)
 have xZ:=Hj (h.st1 hb1)
 have ng:=Hj h
 have HB1:=Hj hb1
 have HW:=Hj (And.intro hw1 hB)
 obtain⟨vb0,vb1,xK,x9,yc⟩:=gG.out w1 (Below.refl _ _)
 have iZ:Hid (Calls Tryz.prog 55 #[.agg #[.int .i64 v.kind,.string v.space,.string v.name,.int .i64 v.ver,.slice v.A v.n v.c]] w1 fun e w'=>e=.returned (bK ea (bG v))∧Below w1.heap.size w1 w'):=Hj (by rw[←qF];exact sD v w1 ea (jG.out w1 (Below.refl _ _)))
 have HG:Hid (∀W kd sp nm,Below w1.heap.size w1 W→kd≤9223372036854775807→sp.size≤1000→nm.size≤1000→Calls Tryz.prog 56 #[.pointer (some ⟨gs,0,none⟩),.int .i64 kd,.string sp,.string nm] W fun e w'=>∃x:OV,e=.returned (.tuple #[.agg #[.int .i64 x.kind,.string x.space,.string x.name,.int .i64 x.ver,.slice x.A x.n x.c],.bool (getM M kd sp nm).isSome])∧Below W.heap.size W w'):=Hj fun W kd sp nm hW a b c=>(zY kd sp nm (xZ.out W hW) a b c).mono fun e w' ⟨x,h1,_,h2⟩=>⟨x,h1,h2⟩
 have Nw:=Hj fun W (hW:Below w1.heap.size w1 W)=>HG.out W 1 ⟨#[]⟩ v.space hW (by decide) (by decide) hs
 have HG2:=Hj fun W (hW:Below w1.heap.size w1 W)=>HG.out W v.kind v.space v.name hW hk hs hn
 have rG:Hid (∀W,Calls Tryz.prog 57 #[.int .i64 v.kind] W fun e w'=>e=.returned (.bool (iH v.kind))∧W=w'):=Hj fun W=>iI v.kind W
 obtain⟨q,hqe⟩:∃q:Int,q=if v.kind=1 then 8 else 32:=⟨_,rfl⟩
 obtain⟨c,hce⟩:∃c,c=iR M v.kind v.space:=⟨_,rfl⟩
 have YJ:Hid (∀W,Calls Tryz.prog 59 #[.int .i64 v.kind] W fun e w'=>e=.returned (.int .i64 q)∧W=w'):=Hj fun W=>by rw[hqe];exact JL v.kind W
 have XT:Hid (∀W,Below w1.heap.size w1 W→Calls Tryz.prog 58 #[.pointer (some ⟨gs,0,none⟩),.int .i64 v.kind,.string v.space] W fun e w'=>e=.returned (.int .i64 c)∧Below W.heap.size W w'):=Hj fun W hW=>by rw[hce];exact rX v.kind v.space (xZ.out W hW) hk hs (by omega)
 have yj:Hid (bG v=0→∀W,Below w1.heap.size w1 W→Calls Tryz.prog 60 #[.pointer (some ⟨gs,0,none⟩),.agg #[.int .i64 v.kind,.string v.space,.string v.name,.int .i64 v.ver,.slice v.A v.n v.c],.bool false] W fun en w'=>∃n E M' L' m',en=.returned (.tuple #[.int .i64 ((n:Nat):Int),bK ea E])∧Ir M L m (false,dW M v data) n E M' L' m'∧SW w0 w' (ext Q W w') g m' gs L' M'∧Fr Q W w'):=Hj fun ha W hW=>by
  obtain⟨hcan,hkk⟩:=jl (M:=M) (data:=data) ha hrb.1.symm hr
  exact o7 v (dW M v data) false (xZ.out W hW) he hE hok hL hw ((hrb.keep (Kz hb1)).keep (Kz hW)) ⟨hkk,rfl,rfl⟩ hcan hr hl hl2
 have Nv:Hid (∀W E,Below w1.heap.size w1 W→dD M v=E→E≠0→Puts M L m (dD M v) (false,dW M v data) 0 E M L m∧SW w0 W (ext Q w W) g m gs L M∧Fr Q w W):=Hj fun W E hW h1 h2=>⟨.inl ⟨by rw[h1];exact h2,rfl,h1.symm,rfl,rfl,rfl⟩,ng.out.made (HB1.out.trans (hW.mono HB1.out.size))⟩
 have HA:Hid (bG v≠0→dD M v=bG v):=Hj fun h=>by unfold dD;rw[if_neg h]
 have HP:Hid (∀x,bG v=0→x=(if iH v.kind=true∧(getM M 1 ⟨#[]⟩ v.space).isSome=false then 18 else if (getM M v.kind v.space v.name).isSome=true then 19 else if q≤c then 21 else 0)→dD M v=x):=Hj fun x ha hx=>by unfold dD;rw[if_pos ha,hx,hqe,hce]
 generalize hbi:iH v.kind=bi at rG HP
 generalize hbs:(getM M 1 ⟨#[]⟩ v.space).isSome=bs at Nw HP
 generalize hbt:(getM M v.kind v.space v.name).isSome=bt at HG2 HP
 have hsplit:bG v≠0∨(bG v=0∧((bi=true∧bs=false)∨(((bi=true∧bs=true)∨bi=false)∧(bt=true∨(bt=false∧(q≤c∨¬q≤c)))))):=by
  by_cases ha:bG v=0
  ·cases bi<;>cases bs<;>cases bt<;>by_cases hq:q≤c<;>simp[ha,hq]
  ·exact .inl ha
 clear h he hE hok hL hw hrb hk hs hn hr hl hl2 hb1 hr1 hw1 hB hqe hce hbi hbs hbt HG
 generalize ha0:bG v=a at iZ hsplit yj HA HP
 rcases hsplit with ha | ⟨rfl,⟨rfl,rfl⟩ | ⟨⟨rfl,rfl⟩ | rfl,rfl | ⟨rfl,hq | hq⟩⟩⟩
 case inl=>
  rw[bM ea ha] at iZ
  go_enter Tryz.func23,Tryz.ntmps23
  go_wp2_with (first
   | (go_at_call 55;(rw[←HW.out.1,←HW.out.2];(with_reducible refine iZ.out.mono ?_);rintro e w2 ⟨rfl,hb2⟩;have HB2:=Hj hb2;obtain⟨v20,v21,v22,v23,v24⟩:=gG.out w2 hb2;clear hb2))
   | fail)
  go_ret2
  exact⟨0,a,M,L,m,by rw[bM ea ha];rfl,Nv.out w2 a HB2.out (HA.out ha) ha⟩
 all_goals
  rw[bQ] at iZ
  go_enter Tryz.func23,Tryz.ntmps23
  go_wp2_with (first
   | (go_at_call 55;(rw[←HW.out.1,←HW.out.2];(with_reducible refine iZ.out.mono ?_);rintro e w2 ⟨rfl,hb2⟩;have HB2:=Hj hb2;obtain⟨v20,v21,v22,v23,v24⟩:=gG.out w2 hb2;clear hb2))
   | (go_at_call 56;((with_reducible refine(Nw.out w2 HB2.out).mono ?_);rintro e w3 ⟨x1,rfl,hb3⟩;have HB3:=Hj (HB2.out.trans (hb3.mono HB2.out.size));have b3:=(fun ob=>gG.out (w3.alloc ob) (HB3.out.alloc HB3.out.size ob));have b30:=fun ob=>(b3 ob).1;have b31:=fun ob=>(b3 ob).2.1;have b32:=fun ob=>(b3 ob).2.2.1;clear b3 hb3))
   | (go_at_call 56;((with_reducible refine(HG2.out _ (HB3.out.alloc HB3.out.size _)).mono ?_);rintro e w4 ⟨x2,rfl,hb4⟩;have HB4:=Hj ((HB3.out.alloc HB3.out.size _).trans (hb4.mono (HB3.out.alloc HB3.out.size _).size));have b4:=(fun ob=>gG.out (w4.alloc ob) (HB4.out.alloc HB4.out.size ob));have b40:=fun ob=>(b4 ob).1;clear b4 hb4 b30 b31 b32))
   | (go_at_call 57;(obtain⟨wb,hwb⟩:∃W,W=w4.alloc (.cells #[.int .i64 x2.kind,.string x2.space,.string x2.name,.int .i64 x2.ver,.slice x2.A x2.n x2.c] 37):=⟨_,rfl⟩;rw[←hwb];(with_reducible refine(rG.out wb).mono ?_);rintro e w' ⟨rfl,rfl⟩;have Dk:Hid (Below w1.heap.size w1 wb):=Hj (by rw[hwb];exact HB4.out.alloc HB4.out.size _);obtain⟨vw0,vw1,vw2,vw3,vw4⟩:=gG.out wb Dk.out;have hc:=(jG.out wb Dk.out).cell;have e18:wb.cell? ⟨17,0,none⟩=some (.iface 368 (.pointer (some (ea 18)))):=hc 18 (by decide) (by decide);have e19:wb.cell? ⟨18,0,none⟩=some (.iface 368 (.pointer (some (ea 19)))):=hc 19 (by decide) (by decide);clear hwb b40 hc))
   | fail)
  first
  | (go_quiet (fail)
     go_wp2
     go_ret2
     first
     | exact⟨0,18,M,L,m,rfl,Nv.out _ 18 (below_drewN Dk.out _) (HP.out 18 (by trivial) (by simp)) (by decide)⟩
     | exact⟨0,19,M,L,m,rfl,Nv.out _ 19 (below_drewN Dk.out _) (HP.out 19 (by trivial) (by simp)) (by decide)⟩)
  | (clear vw2 vw3 vw4 e18 e19
     go_region_held3 (fun w'=>w'.cell? ⟨B,0,none⟩=some (.int .i64 v.kind)∧w'.cell? ⟨B,1,none⟩=some (.string v.space)) (first | exact⟨by assumption,by assumption⟩ | go_keep) (first
      | (go_at_call 58;(with_reducible refine(XT.out wb.drew (aB Dk.out)).mono ?_);rintro e wk ⟨rfl,hbk⟩;have qj:Hid (Below w1.heap.size w1 wk):=Hj ((aB Dk.out).trans (hbk.mono Dk.out.size));obtain⟨vk0,vk1,vk2,vk3,vk4⟩:=gG.out wk qj.out;have e21:wk.cell? ⟨20,0,none⟩=some (.iface 368 (.pointer (some (ea 21)))):=(jG.out wk qj.out).cell 21 (by decide) (by decide);clear hbk)
      | (go_at_call 59;(with_reducible refine(YJ.out wk).mono ?_);rintro e w' ⟨rfl,rfl⟩)
      | fail)
     go_wp2_with (first
      | (go_at_call 60;(with_reducible refine(yj.out (by trivial) wk qj.out).mono ?_);rintro e w9 ⟨n,E,M',L',m',rfl,hch,hs9,uQ⟩;have FT:=Hj (And.intro hch (And.intro hs9 uQ));clear hch hs9 uQ)
      | fail)
     first
     | (go_ret2
        exact⟨n,E,M',L',m',rfl,.inr ⟨HP.out 0 (by trivial) (by simp[hq]),FT.out.1⟩,ng.out.behind (HB1.out.trans (qj.out.mono HB1.out.size)) ⟨FT.out.2.1,FT.out.2.2⟩⟩)
     | (go_quiet (fail)
        go_wp2
        go_ret2
        exact⟨0,21,M,L,m,rfl,Nv.out _ 21 (below_drewN qj.out _) (HP.out 21 (by trivial) (by simp[hq])) (by decide)⟩))
end
end Go.Proofs.YtdhbpajamlfacaaGreatDoor
