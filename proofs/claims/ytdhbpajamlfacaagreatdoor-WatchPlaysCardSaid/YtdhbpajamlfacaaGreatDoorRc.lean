/- The document's store (layer 20): change. -/
import Derived.Test.YtdhbpajamlfacaaGreatDoorRg
set_option maxHeartbeats 20000000
set_option maxRecDepth 100000
namespace Go.Proofs.YtdhbpajamlfacaaGreatDoor
open Go.RowKit SO
section
variable {w w' w0:World} {D Q S X:Nat→Prop} {gs:Nat} {m m':DM} {L L':LM} {M M':bQ}
theorem fG.append (h:fG D w0 w Q gs m L M) (t:List UInt8) (ht:t.length≤16384):∃gl,w.cell? ⟨gs,0,none⟩=some (pt gl)∧∀(A:Option Addr) (c:Nat),LR w (.slice A t.length c) t.length→(0<t.length→Off Q A)→
  Cl 133 #[pt gl,.slice A t.length c] w fun e w'=>e=.returned (.int .i64 (L.yj m t:Int))∧fG D w0 w' (ext Q w w') gs (L.uS m t) (L.app m t) M∧Fr Q w w':=by
 obtain⟨S,g,gl,hk,hL,c0,hSQ,hSg,hback⟩:=h.log
 refine⟨gl,c0,fun A c hb hA=>(ap_D hk hL t ht A c hb fun hn p hp hs=>hA hn p hp (hSQ _ hs)).mono ?_⟩
 rintro e w' ⟨rfl,k1,k3⟩
 exact⟨rfl,hback w' _ _ k1 (hL.app t) k3⟩
theorem fG.rev (h:fG D w0 w Q gs m L M):w.cell? ⟨gs,2,none⟩=some (.int .i64 (M.rev:Int)):=by
 obtain⟨Z,gl,av,ev,xs,ys,hv,-,-⟩:=h.use
 exact Kq 2 hv.cells
theorem fG.apply {v:OV} {o:aC} (h:fG D w0 w Q gs m L M) (hl:M.tab.length≤100000) (hl2:M.evs.length≤100000) (d:Bool) (hv:dD w v o) (hc:M.Can (d,o)) (hd:d=true→(getM M (o.kind:Int) o.space o.name).isSome=true) (hY:∀k,(sl v).ownBlock=some k→¬Q k∧¬D k∧w0.heap.size≤k):
  Cl 71 #[pt gs,.agg #[.int .i64 (o.ver:Int),.bool d,.int .i64 v.kind,.string v.space,.string v.name,.int .i64 v.ver,.slice v.A v.n v.c]] w fun en w'=>en=.returned (.tuple #[])∧fG D w0 w' (fun k=>ext Q w w' k∨(sl v).ownBlock=some k) gs m L (M.app (d,o))∧Fr Q w w':=by
 obtain⟨Z,gl,av,ev,xs,ys,hr,hZ,hback⟩:=h.use
 refine(Za hr h.ok (by rw[hr.len.1];exact hl) (by rw[hr.len.2];exact hl2) d o hv hc hd).mono ?_
 rintro e w' ⟨rfl,LP,ev',xs',ys',h1,h2⟩
 exact⟨rfl,hback w' _ _ _ _ _ _ (fun k=>(sl v).ownBlock=some k) h1 (h.ok.app hc) h2 (fun k hk=>⟨(hY k hk).1,(hY k hk).2.1,(hY k hk).2.2,(OB.lt hv.data k hk).2⟩) fun k hk=>hk.elim (fun hk=>hk.imp id .inl) fun hk=>.inr (.inr hk)⟩
/-- The text of a change. -/
theorem textD {v:OV} {o:aC} (d:Bool) (h:dD w v o) (ho:o.Ok) (hv:o.ver≤1099511627776) (hd:d=true→o.data=[]):
 Cl 132 #[.int .i64 (if d=true then 2 else 1),.agg #[.int .i64 v.kind,.string v.space,.string v.name,.int .i64 v.ver,.slice v.A v.n v.c],.int .i64 v.ver] w fun e w'=>∃A c,e=.returned (.slice A (jV (d,o)).length c)∧LB w' w.heap.size (.slice A (jV (d,o)).length c) (jV (d,o)).length∧Bw w w':=by
 cases d with
 | false=>exact XB h ho hv
 | true=>
  obtain⟨p1,p2,p3,p4,p5⟩:=ho.parts
  have hd:=hd rfl
  have hn:v.n=0:=by rw[h.num,hd];rfl
  have:=Rf 2 o.kind o.ver v w (.inr ⟨rfl,hn⟩) h.kind (by omega) (by omega) (by rw[h.space];omega) (by rw[h.name];omega) (by omega) (LR.of h.rb)
  rw[XD ho hv,←h.space,←h.name]
  rw[hn] at this
  rw[h.ver] at this ⊢
  rw[hn]
  exact this
theorem LB.off2 {B n c:Nat} {A:Option Addr} (h:LB w B (.slice A n c) n) (hS:∀k,S k→k<B∨w.heap.size≤k):0<n→Off S A:=fun hn p hp hk=>by
 obtain⟨l,e,h⟩:=h
 have hl:(ay l).length=l.length*1:=h.1
 obtain⟨b,o,cap,e,hb,hlt,_⟩:=ah.cells h (by omega)
 injection e with e1 _ _
 rw[e1] at hp
 injection hp with hp
 subst hp
 have:=hS b hk
 omega
/-- What a change keeps beside the log. -/
theorem Zb {w4 w5:World} {B n c:Nat} {A5:Option Addr} {u:OV} {o:aC} (h:fG D w0 w Q gs m L M) (hb4:Bw w w4) (hb5:Bw w4 w5) (hB:w.heap.size≤B) (hr:w4.heap[B]?=some (.cells #[.int .i64 u.kind,.string u.space,.string u.name,.int .i64 u.ver,.slice u.A u.n u.c] 37 (0,0))) (hi:dD w4 u o) (ho:OB w4 w.heap.size (sl u) o.data) (hl:LB w5 w4.heap.size (.slice A5 n c) n):
 Hid (∀k,(sl u).ownBlock=some k→¬Q k∧k<w5.heap.size∧w.heap.size≤k)∧Hid (∀W,Fr (fun k=>Q k∨w5.heap.size≤k) w5 W→VB W B u∧dD W u o∧LR W (.slice A5 n c) n)∧Hid (∀S:Nat→Prop,(∀k,S k→Q k∨w5.heap.size≤k)→0<n→Off S A5):=by
 have hY:∀k,(sl u).ownBlock=some k→¬Q k∧k<w5.heap.size∧w.heap.size≤k:=fun k hk=>by
  obtain⟨h1,h2⟩:=OB.lt ho k hk
  have:=hb5.size
  exact⟨fun hq=>by have:=h.hi k hq;omega,by omega,h1⟩
 have hO:∀S:Nat→Prop,(∀k,S k→Q k∨w5.heap.size≤k)→0<n→Off S A5:=fun S hS=>hl.off2 fun k hk=>(hS k hk).imp (fun hq=>by have:=h.hi k hq;have:=hb4.size;omega) id
 have hB4:=(Cq hr)
 have Le:=(hb5.block B hB4).trans hr
 have hB5:=(Cq Le)
 refine⟨Hj hY,Hj fun W hW=>⟨VB.aK ((hW.block B hB5 fun hk=> ?_).trans Le),(hi.below hb5).fr hW fun k hk hd=> ?_,hl.lr.Pn hW (hO _ fun k hk=>hk)⟩,Hj hO⟩
 ·rcases hk with hk | hk
  ·have:=h.hi B hk;omega
  ·omega
 ·obtain ⟨a,b,c⟩:=hY k hk
  rcases hd with hd | hd
  ·exact a hd
  ·omega
theorem xR {w5 W:World} {Q':Nat→Prop} (h:fG D w0 w Q gs m L M) (hb5:Bw w w5) (hr:fG D w0 W Q' gs m' L' M') (hQ:∀k,Q' k→Q k∨w.heap.size≤k) (hf:Fr (fun k=>Q k∨w5.heap.size≤k) w5 W):fG D w0 W (ext Q w W) gs m' L' M'∧Fr Q w W:=by
 have hF:Fr Q w W:=(Fr.of_below (S:=Q) hb5).trans hf fun i hi hk=>hk.elim id fun hk=>by have:=hb5.size;omega
 exact⟨hr.mono (fun k hk=>(hQ k hk).imp id fun hq=>⟨hq,hr.hi k hk⟩) (fun k hk=>gX h.up h.hi h.bel.size hF.size hk) h.xd,hF⟩
theorem i26:((26:Nat):Int)=26:=rfl
theorem i0:((0:Nat):Int)=0:=rfl
theorem Ee {w5 wa wb:World} {Q':Nat→Prop} (hD:∀k,Q' k→Q k∨w5.heap.size≤k) (hF:Fr (fun k=>Q k∨w5.heap.size≤k) w5 wa) (hf:Fr Q' wa wb):Hid (Fr (fun k=>Q k∨w5.heap.size≤k) w5 wb)∧∀k,ext Q' wa wb k→Q k∨w5.heap.size≤k:=
 ⟨Hj (hF.trans hf fun i _ hk=>hD i hk),fun k hk=>hk.elim (hD k) fun h=>.inr (Cz hF.size h.1)⟩
theorem LQ (v:OV) (o:aC) (del:Bool) (h:fG D w0 w Q gs m L M) (hrb:RB w v.A v.n o.data) (hk:v.kind=(o.kind:Int)∧v.space=o.space∧v.name=o.name) (hc:M.Can (del,o)) (hd:del=true→(getM M (o.kind:Int) o.space o.name).isSome=true) (hr:M.rev<1099511627776) (hl:M.tab.length≤90) (hl2:M.evs.length≤100000):
  Cl 75 #[pt gs,.int .i64 (if del=true then 2 else 1),.agg #[.int .i64 v.kind,.string v.space,.string v.name,.int .i64 v.ver,.slice v.A v.n v.c]] w fun en w'=>∃n E M' L' m',en=.returned (.tuple #[.int .i64 ((n:Nat):Int),.int .i64 ((E:Nat):Int)])∧Nb M L m (del,o) n E M' L' m'∧fG D w0 w' (ext Q w w') gs m' L' M'∧Fr Q w w':=by
 have hge:¬(1099511627776:Int)≤(M.rev:Int):=by omega
 have Ac:o.ver=M.rev+1:=hc.ver
 have hwr:IntKind.i64.wrap ((M.rev:Int)+1)=(M.rev:Int)+1:=cO _ (by omega)
 have hrv:(M.rev:Int)+1=(o.ver:Int):=by omega
 obtain⟨bb,hbb⟩:∃b,b=jV (del,o):=⟨_,rfl⟩
 have hbl:bb.length≤16384:=by rw[hbb];exact Cz (qK hc.ok hc.most) (by omega)
 obtain⟨w2,hw2,B,hB,hb2,hr2⟩:=bI w ⟨v.kind,v.space,v.name,(o.ver:Int),v.A,v.n,v.c⟩
 have g2:∀o',(w.alloc o').cell? ⟨gs,2,none⟩=some (.int .i64 (M.rev:Int)):=fun o'=>(h.below ((aj _ w).alloc Kv o')).rev
 rw[hrv] at hwr
 have HW2:=Hj (aB hw2 hB)
 have HQ:Hid (B+1=w2.heap.size):=Hj (by rw[hw2,hB];simp)
 have HR2:=Hj hr2
 have HB2:=Hj hb2
 have EX:=Hj (hrb.keep (Kz hb2))
 have HD:Hid (o.data.length≤8192∧o.data.length=v.n):=Hj ⟨hc.ok.data,hrb.1⟩
 have HS:=Hj h
 have UO:Hid (∀W (u:OV),dD W u o→Cl 132 #[.int .i64 (if del=true then 2 else 1),.agg #[.int .i64 u.kind,.string u.space,.string u.name,.int .i64 u.ver,.slice u.A u.n u.c],.int .i64 u.ver] W fun e w'=>∃A c,e=.returned (.slice A bb.length c)∧LB w' W.heap.size (.slice A bb.length c) bb.length∧Bw W w'):=Hj fun W u hu=>by rw[hbb];exact textD del hu hc.ok hc.most fun e=>(hc.del e).1
 have HMk:Hid (∀W A c,OB W w2.heap.size (.slice A v.n c) o.data→dD W ⟨v.kind,v.space,v.name,(o.ver:Int),A,v.n,c⟩ o):=Hj fun W A c ho=>⟨hk.1,hk.2.1,hk.2.2,rfl,hrb.1.symm,ho.mono (bU _)⟩
 have jD:=Hj hbl
 have jg:=Hj hbb
 have IU:=Hj hc
 have EU:=Hj hd
 have HR:=Hj (aB hr (aB hl hl2))
 clear hB hr2 hw2 hb2 hrb hk hc hd hr hl hl2 h hbl hbb Ac
 rcases jm L m bb with ⟨-,a1,a2,a3⟩ | ⟨-,a1,-,-⟩
 focus
  rcases lT L m (bY M.rev M.tab) with ⟨-,b1,b2,b3⟩ | ⟨-,b1,-,-⟩
  rotate_left
  focus
   rcases jm (L.cp m (bY M.rev M.tab)) (L.zV m (bY M.rev M.tab)) bb with ⟨-,d1,d2,d3⟩ | ⟨-,d1,-,-⟩
 all_goals
  cases del
 all_goals
  simp only[Bool.false_eq_true,if_false,if_true] at UO ⊢
  go_enter Tryz.func75,Tryz.ntmps75
  go_wp2_with (first
   | (at_builtin;(rw[←HW2.out.1,←HW2.out.2,HQ.out];refine aN rfl (.tmp 22) (.tmp 24) 35 rfl (ku (aA w2 _) Kv) rfl ((EX.out.keep (Kz ((aj _ w2).alloc Kv _))).src Tryz.underlying35) rfl (by have:=HD.out;simp;omega) (by simp) ?_;intro v3 w3 hown hgr _;rw[fP] at hown;obtain⟨A3,c3',e3,-,-⟩:=ah.form hown;rw[HD.out.2] at e3;subst e3;have hb3:=dH ((aj _ w2).alloc Kv _) hgr Kv;have hr3:=(hb3.block B (Cq HR2.out)).trans HR2.out;have O3:=Hj hown;have B3:=Hj hb3;have HR3:=Hj hr3;have y4:w3.cell? ⟨B,4,none⟩=some (.slice v.A v.n v.c):=Kq 4 hr3;have fz:w3.frozen? ⟨B,4,none⟩=false:=Kj hr3;have hr4:(w3.setCell ⟨B,4,none⟩ (.slice A3 v.n c3')).heap[B]?=_:=aI _ _ 4 _ _ _ hr3;have x0:=Kq 0 hr4;have x1:=Kq 1 hr4;have x2:=Kq 2 hr4;have x3:=Kq 3 hr4;have x4:=Kq 4 hr4;clear hown hgr hb3 hr3 hr4))
   | (go_at_call 132;(have hf4:Fr (fun k=>k=B) w3 (w3.setCell ⟨B,4,none⟩ (.slice A3 v.n c3')):=(Fr.refl (fun k=>k=B) w3).setCell (p:=⟨B,4,none⟩) (fun _=>rfl) _;have hs3:=B3.out.size;have hs2:=HQ.out;have o4:OB (w3.setCell ⟨B,4,none⟩ (.slice A3 v.n c3')) w2.heap.size (.slice A3 v.n c3') o.data:=ah.kept O3.out hf4 (fun k hk e=>by have:=(ah.lt O3.out k hk).1;omega);have hi4:=HMk.out _ A3 c3' o4;(with_reducible refine(UO.out _ ⟨v.kind,v.space,v.name,(o.ver:Int),A3,v.n,c3'⟩ hi4).mono ?_);rintro e w5 ⟨A5,c5,rfl,hlb,hb5⟩;have hb4:Bw w (w3.setCell ⟨B,4,none⟩ (.slice A3 v.n c3')):=(HB2.out.trans (B3.out.mono HB2.out.size)).setCell (p:=⟨B,4,none⟩) (by show w.heap.size≤B;rw[HW2.out.2];exact bZ _) _;have B5:=Hj (hb4.trans (hb5.mono hb4.size));have hr4:(w3.setCell ⟨B,4,none⟩ (.slice A3 v.n c3')).heap[B]?=_:=aI _ _ 4 _ _ _ HR3.out;obtain⟨HY,KP,OF⟩:=Zb HS.out hb4 hb5 (by rw[HW2.out.2];exact bZ _) hr4 hi4 (o4.mono HB2.out.size) hlb;obtain⟨gl,g0,hAp⟩:=(HS.out.below B5.out).append bb jD.out;(first | rw[a1,i26] at hAp | rw[a1,i0] at hAp);have F:=Hj (Fr.refl (fun k=>Q k∨w5.heap.size≤k) w5);have E:∀k,Q k→Q k∨w5.heap.size≤k:=(fun k hk=>.inl hk);have HAp:=Hj hAp;clear hf4 o4 hlb hb5 hb4 hr4 hAp))
   | (go_at_call 133;have hg2:=P6;clear hg2;((with_reducible refine(P6.out A5 c5 (KP.out w7 F.out).2.2 (OF.out _ E)).mono ?_);rintro e w8 ⟨rfl,hr,hf⟩;obtain⟨F,E⟩:=Ee E F.out hf;have R:=Hj hr;obtain⟨⟨y0,y1,y2,y3,y4⟩,hi6,-⟩:=KP.out w8 F.out;have HApl:=Hj (hr.apply (by have:=HR.out;show M.tab.length≤_;omega) (bU _) _ hi6 (qL IU.out) (fun e=>EU.out (by first | exact e | trivial)) (fun k hk=>⟨fun hq=>(HY.out k hk).elim fun a b=>(E k hq).elim a (by omega),fun d=>absurd (HS.out.dd k d).2 (Nat.not_lt.2 (HY.out k hk).2.2),Cz HS.out.bel.size (HY.out k hk).2.2⟩));clear hi6 hr hf))
   | (go_at_call 133;((with_reducible refine(HAp.out A5 c5 (KP.out w5 F.out).2.2 (OF.out _ E)).mono ?_);rintro e w6 ⟨rfl,hr,hf⟩;obtain⟨F,E⟩:=Ee E F.out hf;first
      | (rw[a2,a3] at hr;have hcp:=Gs hr HR.out.2.1;(first | rw[b1,i26,aG (by decide),b2,b3] at hcp | rw[b1,i0,aF rfl] at hcp);have OW:=Hj hcp;clear hcp hr hf)
      | (obtain⟨⟨y0,y1,y2,y3,y4⟩,hi6,-⟩:=KP.out w6 F.out;have HApl:=Hj (hr.apply (by have:=HR.out;omega) HR.out.2.2 _ hi6 IU.out (fun e=>EU.out (by first | exact e | trivial)) (fun k hk=>⟨fun hq=>(HY.out k hk).elim fun a b=>(E k hq).elim a (by omega),fun d=>absurd (HS.out.dd k d).2 (Nat.not_lt.2 (HY.out k hk).2.2),Cz HS.out.bel.size (HY.out k hk).2.2⟩));clear hi6 hr hf)))
   | (go_at_call 36;((with_reducible refine OW.out.mono ?_);rintro e w7 ⟨rfl,hr,hf⟩;obtain⟨F,E⟩:=Ee E F.out hf;have R:=Hj hr;try (obtain⟨gl2,g02,Vx⟩:=hr.append bb jD.out;(first | rw[d1,i26,d2,d3] at Vx | rw[d1,i0] at Vx);have P6:=Hj Vx;clear Vx));clear hr hf)
   | (go_at_call 71;((refine HApl.out.mono ?_);rintro e w9 ⟨rfl,hr,hf⟩;obtain⟨F,E⟩:=Ee E F.out hf;have R:=Hj hr;obtain⟨⟨z0,z1,z2,z3,z4⟩,-,-⟩:=KP.out w9 F.out;clear hr hf))
   | fail)
  refine bg (eG rfl _ _ _) rfl ?_
  first
  | exact⟨o.ver,0,_,_,_,rfl,.inr ⟨HR.out.1,.inl ⟨by rw[←jg.out];exact a1,rfl,rfl,rfl,rfl,rfl⟩⟩,by rw[←jg.out];exact xR HS.out B5.out R.out (fun k hk=>Or.elim hk (fun hk=>(E k hk).imp id fun h=>Cz B5.out.size h) fun hk=>Or.inr (HY.out k hk).2.2) F.out⟩
  | exact⟨o.ver,0,_,_,_,rfl,.inr ⟨HR.out.1,.inr ⟨by rw[←jg.out];exact a1,.inr ⟨b1,_,_,rfl,rfl,.inl ⟨by rw[←jg.out];exact d1,rfl,rfl,rfl,rfl,rfl⟩⟩⟩⟩,by rw[←jg.out];exact xR HS.out B5.out R.out (fun k hk=>Or.elim hk (fun hk=>(E k hk).imp id fun h=>Cz B5.out.size h) fun hk=>Or.inr (HY.out k hk).2.2) F.out⟩
  | exact⟨0,26,_,_,_,rfl,.inr ⟨HR.out.1,.inr ⟨by rw[←jg.out];exact a1,.inl ⟨b1,rfl,rfl,rfl,rfl,rfl⟩⟩⟩,xR HS.out B5.out R.out (fun k hk=>(E k hk).imp id fun h=>Cz B5.out.size h) F.out⟩
  | exact⟨0,26,_,_,_,rfl,.inr ⟨HR.out.1,.inr ⟨by rw[←jg.out];exact a1,.inr ⟨b1,_,_,rfl,rfl,.inr ⟨by rw[←jg.out];exact d1,rfl,rfl,rfl,rfl,rfl⟩⟩⟩⟩,xR HS.out B5.out R.out (fun k hk=>(E k hk).imp id fun h=>Cz B5.out.size h) F.out⟩
end
section
variable {w w' w0:World} {D Z Q S X:Nat→Prop} {gs gl:Nat} {m m':DM} {L L':LM} {M M':bQ} {av ev:Value} {xs:List (OV×aC)} {ys:List (Bool×(OV×aC))}
theorem Rh (h:RV w Z gs gl av ev xs ys M) (hM:M.Ok) (hl:xs.length≤100000) (v:OV):
  Cl 77 #[pt gs,.agg (ov v)] w fun e w'=>e=.returned (.int .i64 (gV M v:Int))∧Bw w w':=by
 obtain⟨w1,hw1,B,hB,hb1,hr1⟩:=bI w v
 have HB1:=Hj hb1
 have HW:=Hj (aB hw1 hB)
 have KW:Hid (∀W,Bw w1 W→VB W B v):=Hj fun W hW=>VB.aK ((hW.block B (Cq hr1)).trans hr1)
 have HV:Hid (∀W,Bw w1 W→RV W Z gs gl av ev xs ys M):=Hj fun W hW=>(h.below hb1).below hW
 have HF:=Hj (Gt (h.below hb1) hl v)
 have HA:=Hj h.allM
 have HLn:=Hj hl
 cases hg:getM M v.kind v.space v.name with
 | none=>
  have HN:Hid (gV M v=18):=Hj (by unfold gV;rw[hg])
  have HR:Hid (∀r,LU (M.tab.map fun x=>x.2) v.kind v.space v.name r→r= -1):=Hj fun r hf=>by
   rcases oP hM hf with ⟨e,-⟩ | ⟨i,o,-,-,hs,-⟩
   ·exact e
   ·rw [hg] at hs;cases hs
  rw[HN.out]
  clear h hM hl hw1 hB hb1 hr1 hg
  go_enter Tryz.func77,Tryz.ntmps77
  go_wp2_with (first
   | (go_at_call 29;rw[←HW.out.1];((refine HF.out.mono ?_);rintro e w2 ⟨r,rfl,hf,hb⟩;have hr:=HR.out r hf;subst hr;have HB2:=Hj hb;clear hb hf))
   | fail)
  go_ret
  exact⟨rfl,HB1.out.trans (HB2.out.mono HB1.out.size)⟩
 | some o=>
  have HR:Hid (∀r,LU (M.tab.map fun x=>x.2) v.kind v.space v.name r→∃(i:Nat) (x:OV×aC),r=(i:Int)∧xs[i]?=some x∧x.2=o):=Hj fun r hf=>by
   rcases oP hM hf with ⟨-,e⟩ | ⟨i,o',e,hi,hs,-⟩
   ·rw [hg] at e;cases e
   ·rw [hg] at hs
    injection hs with hs
    have hx:(xs.map fun x=>x.2)[i]?=some o':=by rw[←HA.out,dK,hi];rfl
    rw[dK] at hx
    cases hxi:xs[i]? with
    | none=>rw[hxi] at hx;cases hx
    | some y=>
     rw[hxi] at hx
     injection hx with hx
     exact⟨i,y,e,hxi,hx.trans hs.symm⟩
  have HE:Hid (∀x,x∈xs→x.2=o→x.1.ver=(o.ver:Int)):=Hj fun x hx e=>by rw[←e];exact(h.each x hx).ver
  have HN:Hid (gV M v=if (o.ver:Int)=v.ver then 0 else 20):=Hj (by unfold gV;rw[hg])
  rw[HN.out]
  clear h hM hl hw1 hB hb1 hr1 hg
  by_cases hv:(o.ver:Int)=v.ver
  all_goals
   first | rw[aF hv] | rw[aG hv]
   go_enter Tryz.func77,Tryz.ntmps77
   go_wp2_with (first
    | (go_at_call 29;rw[←HW.out.1,←HW.out.2];((refine HF.out.mono ?_);rintro e w2 ⟨r,rfl,hf,hb⟩;obtain⟨i,x,hr,hx,hxo⟩:=HR.out r hf;subst hr;have hi:=(fA.1 hx).1;obtain⟨A,cA,-,k1,hrow⟩:=(HV.out w2 hb).row;obtain⟨b,o',rfl,hcell⟩:=hrow (by omega);obtain⟨-,-,-,d3,-⟩:=hcell i x hx;rw[HE.out x (gJ hx) hxo] at d3;obtain⟨-,-,-,b3,-⟩:=KW.out w2 hb;have k0:(0:Int)≤(i:Int):=(by omega);have k2:(i:Int)<(xs.length:Int):=(by omega);have k3:(i:Int)≤100000:=(by have:=HLn.out;omega);have k4:¬(i:Int)<0:=(by omega);have HB2:=Hj hb;clear hb hf hcell hrow hx hxo hi))
    | fail)
   go_region_held3 (fun w'=>w'.cell? ⟨gs,1,none⟩=some (.slice (some ⟨b,o',none⟩) xs.length cA)∧w'.cell? ⟨b,o'+i*5+3,none⟩=some (.int .i64 (o.ver:Int))∧w'.cell? ⟨B,3,none⟩=some (.int .i64 v.ver)) (first | exact⟨by assumption,by assumption,by assumption⟩ | go_keep) (fail)
   go_wp2
   go_ret
   exact⟨rfl,HB1.out.trans ((bV HB2.out).mono HB1.out.size)⟩
theorem fG.current (h:fG D w0 w Q gs m L M) (hl:M.tab.length≤100000) (v:OV):
  Cl 77 #[pt gs,.agg (ov v)] w fun e w'=>e=.returned (.int .i64 (gV M v:Int))∧Bw w w':=by
 obtain⟨Z,gl,av,ev,xs,ys,hv,-,-⟩:=h.use
 exact Rh hv h.ok (by rw[hv.len.1];exact hl) v
/-- A change that puts, at a world that stands behind. -/
theorem fG.putting (h:fG D w0 w Q gs m L M) (v:OV) (data:List UInt8) (hrb:RB w v.A v.n data) (ha:dL v=0) (hr:M.rev<1099511627776) (hl:M.tab.length≤90) (hl2:M.evs.length≤100000) (W:World) (hW:Bw w W):
  Cl 75 #[pt gs,.int .i64 1,.agg (ov v)] W fun en w'=>∃n E M' L' m',en=.returned (.tuple #[.int .i64 ((n:Nat):Int),.int .i64 ((E:Nat):Int)])∧Nb M L m (false,fU M v data) n E M' L' m'∧fG D w0 w' (ext Q w w') gs m' L' M'∧Fr Q w w':=by
 obtain⟨hc,hk⟩:=kK (M:=M) (data:=data) ha hrb.1.symm hr
 refine(LQ v (fU M v data) false (h.below hW) (hrb.keep (Kz hW)) ⟨hk,rfl,rfl⟩ hc (fun e=>by cases e) hr hl hl2).mono ?_
 rintro e w' ⟨n,E,M',L',m',rfl,hC,r1,r2⟩
 exact⟨n,E,M',L',m',rfl,hC,h.behind hW ⟨r1,r2⟩⟩
theorem Vy (h:fG D w0 w Q gs m L M) (v:OV) (data:List UInt8) (hrb:RB w v.A v.n data) (hr:M.rev<1099511627776) (hl:M.tab.length≤90) (hl2:M.evs.length≤100000):
  Cl 32 #[pt gs,.agg (ov v)] w fun en w'=>∃n E M' L' m',en=.returned (.tuple #[.int .i64 ((n:Nat):Int),.int .i64 ((E:Nat):Int)])∧Puts M L m (oC M v) (false,fU M v data) n E M' L' m'∧fG D w0 w' (ext Q w w') gs m' L' M'∧Fr Q w w':=by
 obtain⟨w1,hw1,B,hB,hb1,hr1⟩:=bI w v
 have HB1:=Hj hb1
 have HW:=Hj (aB hw1 hB)
 have KW:Hid (∀W,Bw w1 W→VB W B v):=Hj fun W hW=>VB.aK ((hW.block B (Cq hr1)).trans hr1)
 have Gi:=Hj (Ef v w1)
 have HCu:Hid (∀W,Bw w W→_):=Hj fun W hW=>(h.below hW).current (by omega) v
 have XE:=Hj fun ha=>h.putting v data hrb ha hr hl hl2
 have HS:=Hj h
 clear h hrb hr hl hl2 hw1 hB hb1 hr1
 by_cases hn:dJ v.kind v.space v.name=true
 ·by_cases hv:8192<v.n
  ·have k1:(8192:Int)<(v.n:Int):=by omega
   have HU:Hid (oC M v=3):=Hj (by unfold oC dL;rw[aF hn,aF hv];rfl)
   go_enter Tryz.func32,Tryz.ntmps32
   go_wp2_with (first
    | (go_at_call 49;rw[←HW.out.1,←HW.out.2];((refine Gi.out.mono ?_);rintro e w2 ⟨rfl,hb⟩;obtain⟨x0,x1,x2,x3,x4⟩:=KW.out w2 hb;have HB2:=Hj (HB1.out.trans (hb.mono HB1.out.size));clear hb))
    | fail)
   exact bg (eG rfl _ _ _) rfl ⟨0,3,_,_,_,rfl,.inl ⟨by rw[HU.out];decide,rfl,HU.out.symm,rfl,rfl,rfl⟩,HS.out.made HB2.out⟩
  ·have k1:¬(8192:Int)<(v.n:Int):=by omega
   have ha:dL v=0:=by unfold dL;rw[aF hn,aG hv]
   have HU:Hid (oC M v=gV M v):=Hj (by unfold oC;rw[aF ha])
   have HA:=Hj ha
   clear ha
   by_cases hc:gV M v=0
   ·have q1:((gV M v:Nat):Int)=0:=by rw[hc];rfl
    have HC:=Hj hc
    clear hc
    go_enter Tryz.func32,Tryz.ntmps32
    go_wp2_with (first
     | (go_at_call 49;rw[←HW.out.1,←HW.out.2];((refine Gi.out.mono ?_);rintro e w2 ⟨rfl,hb⟩;obtain⟨x0,x1,x2,x3,x4⟩:=KW.out w2 hb;have HB2:=Hj (HB1.out.trans (hb.mono HB1.out.size));have Eh:=Hj hb;clear hb))
     | (go_at_call 77;((refine(HCu.out w2 HB2.out).mono ?_);rw[q1];rintro e w3 ⟨rfl,hb⟩;obtain⟨y0,y1,y2,y3,y4⟩:=KW.out w3 (Eh.out.trans (hb.mono Eh.out.size));have HB3:=Hj (HB2.out.trans (hb.mono HB2.out.size));clear hb))
     | (go_at_call 75;((refine(XE.out HA.out w3 HB3.out).mono ?_);rintro e w4 ⟨n,E,M',L',m',rfl,hC,hR,hF⟩;have HC4:=Hj hC;have HR4:=Hj hR;have HF4:=Hj hF;clear hC hR hF))
     | fail)
    exact bg (eG rfl _ _ _) rfl ⟨n,E,M',L',m',rfl,.inr ⟨by rw[HU.out];exact HC.out,HC4.out⟩,HR4.out,HF4.out⟩
   ·have q1:¬((gV M v:Nat):Int)=0:=by omega
    have HC:=Hj hc
    clear hc
    go_enter Tryz.func32,Tryz.ntmps32
    go_wp2_with (first
     | (go_at_call 49;rw[←HW.out.1,←HW.out.2];((refine Gi.out.mono ?_);rintro e w2 ⟨rfl,hb⟩;obtain⟨x0,x1,x2,x3,x4⟩:=KW.out w2 hb;have HB2:=Hj (HB1.out.trans (hb.mono HB1.out.size));have Eh:=Hj hb;clear hb))
     | (go_at_call 77;((refine(HCu.out w2 HB2.out).mono ?_);rintro e w3 ⟨rfl,hb⟩;have HB3:=Hj (HB2.out.trans (hb.mono HB2.out.size));clear hb))
     | fail)
    exact bg (eG rfl _ _ _) rfl ⟨0,gV M v,_,_,_,rfl,.inl ⟨by rw[HU.out];exact HC.out,rfl,HU.out.symm,rfl,rfl,rfl⟩,HS.out.made HB3.out⟩
 ·have hn2:dJ v.kind v.space v.name=false:=by simpa using hn
  have HU:Hid (oC M v=9):=Hj (by unfold oC dL;rw[aG hn];rfl)
  clear hn
  go_enter Tryz.func32,Tryz.ntmps32
  go_wp2_with (first
   | (go_at_call 49;rw[←HW.out.1];((refine Gi.out.mono ?_);rintro e w2 ⟨rfl,hb⟩;have HB2:=Hj (HB1.out.trans (hb.mono HB1.out.size));clear hb))
   | fail)
  exact bg (eG rfl _ _ _) rfl ⟨0,9,_,_,_,rfl,.inl ⟨by rw[HU.out];decide,rfl,HU.out.symm,rfl,rfl,rfl⟩,HS.out.made HB2.out⟩
end
end Go.Proofs.YtdhbpajamlfacaaGreatDoor
