/- The document's store (layer 20): change. -/
import Derived.Test.YtdhbpajamlfacaaGreatDoorRg
namespace Go.Proofs.YtdhbpajamlfacaaGreatDoor
open Go.RowKit SO
section
variable {w w' w0:World} {Q S X:Nat→Prop} {gs:Nat} {m m':DM} {L L':LM} {M M':aY}
theorem dO.append (h:dO w0 w Q gs m L M) (t:List UInt8) (ht:t.length≤16384):∃gl,w.cell? ⟨gs,0,none⟩=some (.pointer (some ⟨gl,0,none⟩))∧∀(A:Option Addr) (c:Nat),LR w (.slice A t.length c) t.length→(0<t.length→Off Q A)→
  Calls Tryz.prog 133 #[.pointer (some ⟨gl,0,none⟩),.slice A t.length c] w fun e w'=>e=.returned (.int .i64 (L.dQ m t:Int))∧dO w0 w' (ext Q w w') gs (L.iE m t) (L.app m t) M∧Fr Q w w':=by
 obtain⟨S,g,gl,s,G,hk,hL,c0,UM,X8,hback⟩:=h.log
 refine⟨gl,c0,fun A c hb hA=>(ap_D hk hL t ht A c hb fun hn p hp hs=>hA hn p hp (UM _ hs)).mono ?_⟩
 rintro e w' ⟨rfl,s',G',k1,k2,k3⟩
 exact⟨rfl,hback w' _ _ s' G' k1 k2 k3⟩
theorem dO.Tm (h:dO w0 w Q gs m L M) (t:List UInt8) (ht:t.length≤16384):(L.dQ m t=26∧L.iE m t=m∧L.app m t=L)∨L.dQ m t=0:=by
 obtain⟨S,g,gl,s,G,hk,hL,c0,UM,X8,hback⟩:=h.log
 exact(hL.app t ht).imp (fun h=>⟨h.1,h.2.2⟩) fun h=>h.1
theorem dO.Xa (h:dO w0 w Q gs m L M) (t:List UInt8):(L.mM m t=26∧L.lD m t=m∧L.cp m t=L)∨L.mM m t=0:=by
 obtain⟨S,g,gl,s,G,hk,hL,c0,UM,X8,hback⟩:=h.log
 exact(hL.cp t).imp (fun h=>⟨h.1,h.2.2⟩) fun h=>h.1
theorem dO.rev (h:dO w0 w Q gs m L M):w.cell? ⟨gs,2,none⟩=some (.int .i64 (M.rev:Int)):=by
 obtain⟨Z,gl,av,ev,xs,ys,hv,-,-⟩:=h.use
 exact Kq 2 hv.cells
theorem dO.apply {v:OV} {o:aH} (h:dO w0 w Q gs m L M) (hl:M.tab.length≤100000) (hl2:M.evs.length≤100000) (d:Bool) (hv:dI w v o) (hc:M.Can (d,o)) (hd:d=true→(getM M (o.kind:Int) o.space o.name).isSome=true) (hY:∀k,(sl v).ownBlock=some k→¬Q k∧w0.heap.size≤k):
  Calls Tryz.prog 71 #[.pointer (some ⟨gs,0,none⟩),.agg #[.int .i64 (o.ver:Int),.bool d,.int .i64 v.kind,.string v.space,.string v.name,.int .i64 v.ver,.slice v.A v.n v.c]] w fun en w'=>en=.returned (.tuple #[])∧dO w0 w' (fun k=>ext Q w w' k∨(sl v).ownBlock=some k) gs m L (M.app (d,o))∧Fr Q w w':=by
 obtain⟨Z,gl,av,ev,xs,ys,hr,hZ,hback⟩:=h.use
 refine(Xb hr h.ok (by rw[hr.len.1];exact hl) (by rw[hr.len.2];exact hl2) d o hv hc hd).mono ?_
 rintro e w' ⟨rfl,I9,ev',xs',ys',h1,h2⟩
 exact⟨rfl,hback w' _ _ _ _ _ _ (fun k=>(sl v).ownBlock=some k) h1 (h.ok.app hc) (h2.mono fun i _ e=>by subst e;exact hr.zs) (fun k hk=>⟨(hY k hk).1,(hY k hk).2,(OB.lt hv.data k hk).2⟩) fun k hk=>hk.elim (fun hk=>hk.imp id .inl) fun hk=>.inr (.inr hk)⟩
/-- The text of a change. -/
theorem Zn {v:OV} {o:aH} (d:Bool) (h:dI w v o) (ho:o.Ok) (hv:o.ver≤1099511627776) (hd:d=true→o.data=[]):
 Calls Tryz.prog 132 #[.int .i64 (if d=true then 2 else 1),.agg #[.int .i64 v.kind,.string v.space,.string v.name,.int .i64 v.ver,.slice v.A v.n v.c],.int .i64 v.ver] w fun e w'=>∃A c,e=.returned (.slice A (fQ (d,o)).length c)∧LB w' w.heap.size (.slice A (fQ (d,o)).length c) (fQ (d,o)).length∧Below w.heap.size w w':=by
 cases d with
 | false=>exact Vd h ho hv
 | true=>
  obtain⟨p1,p2,p3,p4,p5⟩:=ho.parts
  have hd:=hd rfl
  have hn:v.n=0:=by rw[h.num,hd];rfl
  have:=Pg 2 o.kind o.ver v w (.inr ⟨rfl,hn⟩) h.kind (by omega) (by omega) (by rw[h.space];omega) (by rw[h.name];omega) (by omega) (LR.of h.rb)
  rw[Ve ho hv,←h.space,←h.name]
  rw[hn] at this
  rw[h.ver] at this ⊢
  rw[hn]
  exact this
theorem LB.off2 {B n c:Nat} {A:Option Addr} (h:LB w B (.slice A n c) n) (hS:∀k,S k→k<B∨w.heap.size≤k):0<n→Off S A:=fun hn p hp hk=>by
 obtain⟨l,e,h⟩:=h
 have hl:(au l).length=l.length*1:=h.1
 obtain⟨b,o,cap,e,hb,hlt,_⟩:=ah.cells h (by omega)
 injection e with e1 _ _
 rw[e1] at hp
 injection hp with hp
 subst hp
 have:=hS b hk
 omega
theorem dO.Ph {t2:List UInt8} (h:dO w0 w Q gs m L M) (t:List UInt8) (ht:t.length≤16384) (h2:L.mM m t2=0):(L.cp m t2).dQ (L.lD m t2) t=26∨(L.cp m t2).dQ (L.lD m t2) t=0:=by
 obtain⟨S,g,gl,s,G,hk,hL,c0,UM,X8,hback⟩:=h.log
 rcases hL.cp t2 with ⟨e,_⟩ | ⟨_,_,hl,_⟩
 ·omega
 ·exact (hl.app t ht).imp (fun h=>h.1) fun h=>h.1
/-- What a change keeps beside the log. -/
theorem AY {w4 w5:World} {B n c:Nat} {A5:Option Addr} {u:OV} {o:aH} (h:dO w0 w Q gs m L M) (hb4:Below w.heap.size w w4) (hb5:Below w4.heap.size w4 w5) (hB:w.heap.size≤B) (hr:w4.heap[B]?=some (.cells #[.int .i64 u.kind,.string u.space,.string u.name,.int .i64 u.ver,.slice u.A u.n u.c] 37 (0,0))) (hi:dI w4 u o) (ho:OB w4 w.heap.size (sl u) o.data) (hl:LB w5 w4.heap.size (.slice A5 n c) n):
 Hid (∀k,(sl u).ownBlock=some k→¬Q k∧k<w5.heap.size∧w.heap.size≤k)∧Hid (∀W,Fr (fun k=>Q k∨w5.heap.size≤k) w5 W→VB W B u∧dI W u o∧LR W (.slice A5 n c) n)∧Hid (∀S:Nat→Prop,(∀k,S k→Q k∨w5.heap.size≤k)→0<n→Off S A5):=by
 have hY:∀k,(sl u).ownBlock=some k→¬Q k∧k<w5.heap.size∧w.heap.size≤k:=fun k hk=>by
  obtain⟨h1,h2⟩:=OB.lt ho k hk
  have:=hb5.size
  exact⟨fun hq=>by have:=h.hi k hq;omega,by omega,h1⟩
 have hO:∀S:Nat→Prop,(∀k,S k→Q k∨w5.heap.size≤k)→0<n→Off S A5:=fun S hS=>hl.off2 fun k hk=>(hS k hk).imp (fun hq=>by have:=h.hi k hq;have:=hb4.size;omega) id
 have hB4:=(Cq hr)
 have IG:=(hb5.block B hB4).trans hr
 have hB5:=(Cq IG)
 refine⟨Hj hY,Hj fun W hW=>⟨VB.aG ((hW.block B hB5 fun hk=> ?_).trans IG),(hi.below hb5).fr hW fun k hk hd=> ?_,hl.lr.MK hW (hO _ fun k hk=>hk)⟩,Hj hO⟩
 ·rcases hk with hk | hk
  ·have:=h.hi B hk;omega
  ·omega
 ·obtain ⟨a,b,c⟩:=hY k hk
  rcases hd with hd | hd
  ·exact a hd
  ·omega
theorem vJ {w5 W:World} {Q':Nat→Prop} (h:dO w0 w Q gs m L M) (hb5:Below w.heap.size w w5) (hr:dO w0 W Q' gs m' L' M') (hQ:∀k,Q' k→Q k∨w.heap.size≤k) (hf:Fr (fun k=>Q k∨w5.heap.size≤k) w5 W):dO w0 W (ext Q w W) gs m' L' M'∧Fr Q w W:=by
 have hF:Fr Q w W:=(Fr.of_below (S:=Q) hb5).trans hf fun i hi hk=>hk.elim id fun hk=>by have:=hb5.size;omega
 exact⟨hr.mono (fun k hk=>(hQ k hk).imp id fun hq=>⟨hq,hr.hi k hk⟩) fun k hk=>eU h.up h.hi h.bel.size hF.size hk,hF⟩
set_option maxHeartbeats 8000000 in
set_option maxRecDepth 100000 in
theorem Ja (v:OV) (o:aH) (del:Bool) (h:dO w0 w Q gs m L M) (hrb:RB w v.A v.n o.data) (hk:v.kind=(o.kind:Int)∧v.space=o.space∧v.name=o.name) (hc:M.Can (del,o)) (hd:del=true→(getM M (o.kind:Int) o.space o.name).isSome=true) (hr:M.rev<1099511627776) (hl:M.tab.length≤90) (hl2:M.evs.length≤100000):
  Calls Tryz.prog 75 #[.pointer (some ⟨gs,0,none⟩),.int .i64 (if del=true then 2 else 1),.agg #[.int .i64 v.kind,.string v.space,.string v.name,.int .i64 v.ver,.slice v.A v.n v.c]] w fun en w'=>∃n E M' L' m',en=.returned (.tuple #[.int .i64 ((n:Nat):Int),.int .i64 ((E:Nat):Int)])∧Ir M L m (del,o) n E M' L' m'∧dO w0 w' (ext Q w w') gs m' L' M'∧Fr Q w w':=by
 have hge:¬(1099511627776:Int)≤(M.rev:Int):=by omega
 have xU:o.ver=M.rev+1:=hc.ver
 have hwr:IntKind.i64.wrap ((M.rev:Int)+1)=(M.rev:Int)+1:=IntWalk.i64_in _ (by omega)
 have hrv:(M.rev:Int)+1=(o.ver:Int):=by omega
 obtain⟨bb,hbb⟩:∃b,b=fQ (del,o):=⟨_,rfl⟩
 have hbl:bb.length≤16384:=by rw[hbb];exact Cz (lI hc.ok hc.most) (by omega)
 obtain⟨w2,hw2,B,hB,hb2,hr2⟩:=aX w ⟨v.kind,v.space,v.name,(o.ver:Int),v.A,v.n,v.c⟩
 have g2:∀o',(w.alloc o').cell? ⟨gs,2,none⟩=some (.int .i64 (M.rev:Int)):=fun o'=>(h.below ((Below.refl _ w).alloc Kv o')).rev
 rw[hrv] at hwr
 have HW2:=Hj (And.intro hw2 hB)
 have HQ:Hid (B+1=w2.heap.size):=Hj (by rw[hw2,hB];simp)
 have HR2:=Hj hr2
 have HB2:=Hj hb2
 have yK:=Hj (hrb.keep (Kz hb2))
 have HD:Hid (o.data.length≤8192∧o.data.length=v.n):=Hj ⟨hc.ok.data,hrb.1⟩
 have HS:=Hj h
 have FN:Hid (∀W (u:OV),dI W u o→Calls Tryz.prog 132 #[.int .i64 (if del=true then 2 else 1),.agg #[.int .i64 u.kind,.string u.space,.string u.name,.int .i64 u.ver,.slice u.A u.n u.c],.int .i64 u.ver] W fun e w'=>∃A c,e=.returned (.slice A bb.length c)∧LB w' W.heap.size (.slice A bb.length c) bb.length∧Below W.heap.size W w'):=Hj fun W u hu=>by rw[hbb];exact Zn del hu hc.ok hc.most fun e=>(hc.del e).1
 have HMk:Hid (∀W A c,OB W w2.heap.size (.slice A v.n c) o.data→dI W ⟨v.kind,v.space,v.name,(o.ver:Int),A,v.n,c⟩ o):=Hj fun W A c ho=>⟨hk.1,hk.2.1,hk.2.2,rfl,hrb.1.symm,ho.mono (Nat.zero_le _)⟩
 have iQ:=Hj hbl
 have fH:=Hj hbb
 have xW:=Hj hc
 have CY:=Hj hd
 have HR:=Hj (And.intro hr (And.intro hl hl2))
 clear hB hr2 hw2 hb2 hrb hk hc hd hr hl hl2 h hbl hbb xU
 rcases HS.out.Tm bb iQ.out with ⟨eq1,em,el⟩ | eq1
 ·have q1:((L.dQ m bb:Nat):Int)=26:=by rw[eq1];rfl
  rcases HS.out.Xa (aP M.rev M.tab) with ⟨Tn,-,-⟩ | Tn
  ·have q2:((L.mM m (aP M.rev M.tab):Nat):Int)=26:=by rw[Tn];rfl
   have q2':(if L.mM m (aP M.rev M.tab)=0 then M.fresh else M)=M:=if_neg (by omega)
   cases del
   all_goals
    simp only[Bool.false_eq_true,if_false,if_true] at FN ⊢
    go_enter Tryz.func75,Tryz.ntmps75
    go_wp2_with (first
     | (at_builtin;(rw[←HW2.out.1,←HW2.out.2,HQ.out];refine aA rfl (.tmp 22) (.tmp 24) 35 rfl (eu (heap_alloc_new w2 _) Kv) rfl ((yK.out.keep (Kz ((Below.refl _ w2).alloc Kv _))).src Tryz.underlying35) rfl (by have:=HD.out;simp;omega) (by simp) ?_;intro v3 w3 hown hgr _;rw[List.nil_append] at hown;obtain⟨A3,c3',e3,-,-⟩:=ah.form hown;rw[HD.out.2] at e3;subst e3;have hb3:=bC ((Below.refl _ w2).alloc Kv _) hgr Kv;have hr3:=(hb3.block B (Cq HR2.out)).trans HR2.out;have O3:=Hj hown;have B3:=Hj hb3;have HR3:=Hj hr3;have y4:w3.cell? ⟨B,4,none⟩=some (.slice v.A v.n v.c):=Kq 4 hr3;have fz:w3.frozen? ⟨B,4,none⟩=false:=Kj hr3;have hr4:(w3.setCell ⟨B,4,none⟩ (.slice A3 v.n c3')).heap[B]?=_:=heap_setCell_same _ _ 4 _ _ _ hr3;have x0:=Kq 0 hr4;have x1:=Kq 1 hr4;have x2:=Kq 2 hr4;have x3:=Kq 3 hr4;have x4:=Kq 4 hr4;clear hown hgr hb3 hr3 hr4))
     | (go_at_call 132;(have hf4:Fr (fun k=>k=B) w3 (w3.setCell ⟨B,4,none⟩ (.slice A3 v.n c3')):=(Fr.refl (fun k=>k=B) w3).setCell (p:=⟨B,4,none⟩) (fun _=>rfl) _;have hs3:=B3.out.size;have hs2:=HQ.out;have o4:OB (w3.setCell ⟨B,4,none⟩ (.slice A3 v.n c3')) w2.heap.size (.slice A3 v.n c3') o.data:=ah.kept O3.out hf4 (fun k hk e=>by have:=(ah.lt O3.out k hk).1;omega);have hi4:=HMk.out _ A3 c3' o4;(with_reducible refine(FN.out _ ⟨v.kind,v.space,v.name,(o.ver:Int),A3,v.n,c3'⟩ hi4).mono ?_);rintro e w5 ⟨A5,c5,rfl,hlb,hb5⟩;have hb4:Below w.heap.size w (w3.setCell ⟨B,4,none⟩ (.slice A3 v.n c3')):=(HB2.out.trans (B3.out.mono HB2.out.size)).setCell (p:=⟨B,4,none⟩) (by show w.heap.size≤B;rw[HW2.out.2];exact Nat.le_refl _) _;have B5:=Hj (hb4.trans (hb5.mono hb4.size));have hr4:(w3.setCell ⟨B,4,none⟩ (.slice A3 v.n c3')).heap[B]?=_:=heap_setCell_same _ _ 4 _ _ _ HR3.out;obtain⟨HY,KP,OF⟩:=AY HS.out hb4 hb5 (by rw[HW2.out.2];exact Nat.le_refl _) hr4 hi4 (o4.mono HB2.out.size) hlb;obtain⟨gl,g0,GN⟩:=(HS.out.below B5.out).append bb iQ.out;rw[q1] at GN;have Rt:=Hj GN;clear hf4 o4 hlb hb5 hb4 hr4 GN))
     | (go_at_call 133;((with_reducible refine(Rt.out A5 c5 (KP.out w5 (Fr.refl _ _)).2.2 (OF.out _ fun k hk=>.inl hk)).mono ?_);rintro e w6 ⟨rfl,hr,hf⟩;have F6:Hid (Fr (fun k=>Q k∨w5.heap.size≤k) w5 w6):=Hj (hf.mono fun i _ hk=>.inl hk);have D6:∀k,ext Q w5 w6 k→(fun k=>Q k∨w5.heap.size≤k) k:=(fun k hk=>hk.imp id fun h=>h.1);rw[em,el] at hr;have hcp:=qU hr HR.out.2.1;rw[q2,q2'] at hcp;have Fj:=Hj hcp;clear hcp;clear hr hf))
     | (go_at_call 36;((with_reducible refine Fj.out.mono ?_);rintro e w7 ⟨rfl,hr,hf⟩;have F7:Hid (Fr (fun k=>Q k∨w5.heap.size≤k) w5 w7):=Hj (F6.out.trans hf fun i _ hk=>D6 i hk);have D7:∀k,ext (ext Q w5 w6) w6 w7 k→(fun k=>Q k∨w5.heap.size≤k) k:=(fun k hk=>hk.elim (D6 k) fun h=>.inr (Cz F6.out.size h.1));have R7:=Hj hr;clear hr hf))
     | fail)
    exact bodyPost_ret (results_tmp2 rfl _ _ _) rfl ⟨0,26,_,_,_,rfl,.inr ⟨HR.out.1,.inr (.inr ⟨by rw[←fH.out];exact eq1,.inl ⟨by rw[Tn];decide,rfl,Tn.symm,rfl,rfl,rfl⟩⟩)⟩,vJ HS.out B5.out R7.out (fun k hk=>(D7 k hk).imp id fun h=>Cz B5.out.size h) F7.out⟩
  ·have q2:((L.mM m (aP M.rev M.tab):Nat):Int)=0:=by rw[Tn];rfl
   have q2':(if L.mM m (aP M.rev M.tab)=0 then M.fresh else M)=M.fresh:=if_pos Tn
   rcases HS.out.Ph bb iQ.out Tn with X9 | X9
   ·have q3:(((L.cp m (aP M.rev M.tab)).dQ (L.lD m (aP M.rev M.tab)) bb:Nat):Int)=26:=by rw[X9];rfl
    cases del
    all_goals
     simp only[Bool.false_eq_true,if_false,if_true] at FN ⊢
     go_enter Tryz.func75,Tryz.ntmps75
     go_wp2_with (first
      | (at_builtin;(rw[←HW2.out.1,←HW2.out.2,HQ.out];refine aA rfl (.tmp 22) (.tmp 24) 35 rfl (eu (heap_alloc_new w2 _) Kv) rfl ((yK.out.keep (Kz ((Below.refl _ w2).alloc Kv _))).src Tryz.underlying35) rfl (by have:=HD.out;simp;omega) (by simp) ?_;intro v3 w3 hown hgr _;rw[List.nil_append] at hown;obtain⟨A3,c3',e3,-,-⟩:=ah.form hown;rw[HD.out.2] at e3;subst e3;have hb3:=bC ((Below.refl _ w2).alloc Kv _) hgr Kv;have hr3:=(hb3.block B (Cq HR2.out)).trans HR2.out;have O3:=Hj hown;have B3:=Hj hb3;have HR3:=Hj hr3;have y4:w3.cell? ⟨B,4,none⟩=some (.slice v.A v.n v.c):=Kq 4 hr3;have fz:w3.frozen? ⟨B,4,none⟩=false:=Kj hr3;have hr4:(w3.setCell ⟨B,4,none⟩ (.slice A3 v.n c3')).heap[B]?=_:=heap_setCell_same _ _ 4 _ _ _ hr3;have x0:=Kq 0 hr4;have x1:=Kq 1 hr4;have x2:=Kq 2 hr4;have x3:=Kq 3 hr4;have x4:=Kq 4 hr4;clear hown hgr hb3 hr3 hr4))
      | (go_at_call 132;(have hf4:Fr (fun k=>k=B) w3 (w3.setCell ⟨B,4,none⟩ (.slice A3 v.n c3')):=(Fr.refl (fun k=>k=B) w3).setCell (p:=⟨B,4,none⟩) (fun _=>rfl) _;have hs3:=B3.out.size;have hs2:=HQ.out;have o4:OB (w3.setCell ⟨B,4,none⟩ (.slice A3 v.n c3')) w2.heap.size (.slice A3 v.n c3') o.data:=ah.kept O3.out hf4 (fun k hk e=>by have:=(ah.lt O3.out k hk).1;omega);have hi4:=HMk.out _ A3 c3' o4;(with_reducible refine(FN.out _ ⟨v.kind,v.space,v.name,(o.ver:Int),A3,v.n,c3'⟩ hi4).mono ?_);rintro e w5 ⟨A5,c5,rfl,hlb,hb5⟩;have hb4:Below w.heap.size w (w3.setCell ⟨B,4,none⟩ (.slice A3 v.n c3')):=(HB2.out.trans (B3.out.mono HB2.out.size)).setCell (p:=⟨B,4,none⟩) (by show w.heap.size≤B;rw[HW2.out.2];exact Nat.le_refl _) _;have B5:=Hj (hb4.trans (hb5.mono hb4.size));have hr4:(w3.setCell ⟨B,4,none⟩ (.slice A3 v.n c3')).heap[B]?=_:=heap_setCell_same _ _ 4 _ _ _ HR3.out;obtain⟨HY,KP,OF⟩:=AY HS.out hb4 hb5 (by rw[HW2.out.2];exact Nat.le_refl _) hr4 hi4 (o4.mono HB2.out.size) hlb;obtain⟨gl,g0,GN⟩:=(HS.out.below B5.out).append bb iQ.out;rw[q1] at GN;have Rt:=Hj GN;clear hf4 o4 hlb hb5 hb4 hr4 GN))
      | (go_at_call 133;((with_reducible refine(Rt.out A5 c5 (KP.out w5 (Fr.refl _ _)).2.2 (OF.out _ fun k hk=>.inl hk)).mono ?_);rintro e w6 ⟨rfl,hr,hf⟩;have F6:Hid (Fr (fun k=>Q k∨w5.heap.size≤k) w5 w6):=Hj (hf.mono fun i _ hk=>.inl hk);have D6:∀k,ext Q w5 w6 k→(fun k=>Q k∨w5.heap.size≤k) k:=(fun k hk=>hk.imp id fun h=>h.1);rw[em,el] at hr;have hcp:=qU hr HR.out.2.1;rw[q2,q2'] at hcp;have Fj:=Hj hcp;clear hcp;clear hr hf))
      | (go_at_call 36;((with_reducible refine Fj.out.mono ?_);rintro e w7 ⟨rfl,hr,hf⟩;have F7:Hid (Fr (fun k=>Q k∨w5.heap.size≤k) w5 w7):=Hj (F6.out.trans hf fun i _ hk=>D6 i hk);have D7:∀k,ext (ext Q w5 w6) w6 w7 k→(fun k=>Q k∨w5.heap.size≤k) k:=(fun k hk=>hk.elim (D6 k) fun h=>.inr (Cz F6.out.size h.1));have R7:=Hj hr;obtain⟨gl2,g02,GR⟩:=hr.append bb iQ.out;rw[q3] at GR;have JG:=Hj GR;clear GR;clear hr hf))
      | (go_at_call 133;((with_reducible refine(JG.out A5 c5 (KP.out w7 F7.out).2.2 (OF.out _ D7)).mono ?_);rintro e w8 ⟨rfl,hr,hf⟩;have F8:Hid (Fr (fun k=>Q k∨w5.heap.size≤k) w5 w8):=Hj (F7.out.trans hf fun i _ hk=>D7 i hk);have D8:∀k,ext (ext (ext Q w5 w6) w6 w7) w7 w8 k→(fun k=>Q k∨w5.heap.size≤k) k:=(fun k hk=>hk.elim (D7 k) fun h=>.inr (Cz F7.out.size h.1));have R8:=Hj hr;skip;clear hr hf))
      | fail)
     exact bodyPost_ret (results_tmp2 rfl _ _ _) rfl ⟨0,26,_,_,_,rfl,.inr ⟨HR.out.1,.inr (.inr ⟨by rw[←fH.out];exact eq1,.inr ⟨Tn,_,_,rfl,rfl,.inr ⟨by rw[←fH.out,X9];decide,rfl,by rw[←fH.out];exact X9.symm,rfl,rfl,rfl⟩⟩⟩)⟩,by rw[←fH.out];exact vJ HS.out B5.out R8.out (fun k hk=>(D8 k hk).imp id fun h=>Cz B5.out.size h) F8.out⟩
   ·have q3:(((L.cp m (aP M.rev M.tab)).dQ (L.lD m (aP M.rev M.tab)) bb:Nat):Int)=0:=by rw[X9];rfl
    have Zo:Hid (M.fresh.Can (del,o)):=Hj ⟨xW.out.ok,xW.out.ver,xW.out.most,xW.out.del⟩
    cases del
    all_goals
     simp only[Bool.false_eq_true,if_false,if_true] at FN ⊢
     go_enter Tryz.func75,Tryz.ntmps75
     go_wp2_with (first
      | (at_builtin;(rw[←HW2.out.1,←HW2.out.2,HQ.out];refine aA rfl (.tmp 22) (.tmp 24) 35 rfl (eu (heap_alloc_new w2 _) Kv) rfl ((yK.out.keep (Kz ((Below.refl _ w2).alloc Kv _))).src Tryz.underlying35) rfl (by have:=HD.out;simp;omega) (by simp) ?_;intro v3 w3 hown hgr _;rw[List.nil_append] at hown;obtain⟨A3,c3',e3,-,-⟩:=ah.form hown;rw[HD.out.2] at e3;subst e3;have hb3:=bC ((Below.refl _ w2).alloc Kv _) hgr Kv;have hr3:=(hb3.block B (Cq HR2.out)).trans HR2.out;have O3:=Hj hown;have B3:=Hj hb3;have HR3:=Hj hr3;have y4:w3.cell? ⟨B,4,none⟩=some (.slice v.A v.n v.c):=Kq 4 hr3;have fz:w3.frozen? ⟨B,4,none⟩=false:=Kj hr3;have hr4:(w3.setCell ⟨B,4,none⟩ (.slice A3 v.n c3')).heap[B]?=_:=heap_setCell_same _ _ 4 _ _ _ hr3;have x0:=Kq 0 hr4;have x1:=Kq 1 hr4;have x2:=Kq 2 hr4;have x3:=Kq 3 hr4;have x4:=Kq 4 hr4;clear hown hgr hb3 hr3 hr4))
      | (go_at_call 132;(have hf4:Fr (fun k=>k=B) w3 (w3.setCell ⟨B,4,none⟩ (.slice A3 v.n c3')):=(Fr.refl (fun k=>k=B) w3).setCell (p:=⟨B,4,none⟩) (fun _=>rfl) _;have hs3:=B3.out.size;have hs2:=HQ.out;have o4:OB (w3.setCell ⟨B,4,none⟩ (.slice A3 v.n c3')) w2.heap.size (.slice A3 v.n c3') o.data:=ah.kept O3.out hf4 (fun k hk e=>by have:=(ah.lt O3.out k hk).1;omega);have hi4:=HMk.out _ A3 c3' o4;(with_reducible refine(FN.out _ ⟨v.kind,v.space,v.name,(o.ver:Int),A3,v.n,c3'⟩ hi4).mono ?_);rintro e w5 ⟨A5,c5,rfl,hlb,hb5⟩;have hb4:Below w.heap.size w (w3.setCell ⟨B,4,none⟩ (.slice A3 v.n c3')):=(HB2.out.trans (B3.out.mono HB2.out.size)).setCell (p:=⟨B,4,none⟩) (by show w.heap.size≤B;rw[HW2.out.2];exact Nat.le_refl _) _;have B5:=Hj (hb4.trans (hb5.mono hb4.size));have hr4:(w3.setCell ⟨B,4,none⟩ (.slice A3 v.n c3')).heap[B]?=_:=heap_setCell_same _ _ 4 _ _ _ HR3.out;obtain⟨HY,KP,OF⟩:=AY HS.out hb4 hb5 (by rw[HW2.out.2];exact Nat.le_refl _) hr4 hi4 (o4.mono HB2.out.size) hlb;obtain⟨gl,g0,GN⟩:=(HS.out.below B5.out).append bb iQ.out;rw[q1] at GN;have Rt:=Hj GN;clear hf4 o4 hlb hb5 hb4 hr4 GN))
      | (go_at_call 133;((with_reducible refine(Rt.out A5 c5 (KP.out w5 (Fr.refl _ _)).2.2 (OF.out _ fun k hk=>.inl hk)).mono ?_);rintro e w6 ⟨rfl,hr,hf⟩;have F6:Hid (Fr (fun k=>Q k∨w5.heap.size≤k) w5 w6):=Hj (hf.mono fun i _ hk=>.inl hk);have D6:∀k,ext Q w5 w6 k→(fun k=>Q k∨w5.heap.size≤k) k:=(fun k hk=>hk.imp id fun h=>h.1);rw[em,el] at hr;have hcp:=qU hr HR.out.2.1;rw[q2,q2'] at hcp;have Fj:=Hj hcp;clear hcp;clear hr hf))
      | (go_at_call 36;((with_reducible refine Fj.out.mono ?_);rintro e w7 ⟨rfl,hr,hf⟩;have F7:Hid (Fr (fun k=>Q k∨w5.heap.size≤k) w5 w7):=Hj (F6.out.trans hf fun i _ hk=>D6 i hk);have D7:∀k,ext (ext Q w5 w6) w6 w7 k→(fun k=>Q k∨w5.heap.size≤k) k:=(fun k hk=>hk.elim (D6 k) fun h=>.inr (Cz F6.out.size h.1));have R7:=Hj hr;obtain⟨gl2,g02,GR⟩:=hr.append bb iQ.out;rw[q3] at GR;have JG:=Hj GR;clear GR;clear hr hf))
      | (go_at_call 133;((with_reducible refine(JG.out A5 c5 (KP.out w7 F7.out).2.2 (OF.out _ D7)).mono ?_);rintro e w8 ⟨rfl,hr,hf⟩;have F8:Hid (Fr (fun k=>Q k∨w5.heap.size≤k) w5 w8):=Hj (F7.out.trans hf fun i _ hk=>D7 i hk);have D8:∀k,ext (ext (ext Q w5 w6) w6 w7) w7 w8 k→(fun k=>Q k∨w5.heap.size≤k) k:=(fun k hk=>hk.elim (D7 k) fun h=>.inr (Cz F7.out.size h.1));have R8:=Hj hr;obtain⟨⟨y0,y1,y2,y3,y4⟩,Zp,-⟩:=KP.out w8 F8.out;have Xc:=Hj (hr.apply (by have:=HR.out;show M.tab.length≤_;omega) (Nat.zero_le _) _ Zp Zo.out (fun e=>CY.out (by first | exact e | trivial)) (fun k hk=>⟨fun hq=>(HY.out k hk).elim fun a b=>(D8 k hq).elim a (by omega),Cz HS.out.bel.size (HY.out k hk).2.2⟩));clear Zp;clear hr hf))
      | (go_at_call 71;((with_reducible refine Xc.out.mono ?_);rintro e w9 ⟨rfl,hr,hf⟩;have F9:Hid (Fr (fun k=>Q k∨w5.heap.size≤k) w5 w9):=Hj (F8.out.trans hf fun i _ hk=>D8 i hk);have R9:=Hj hr;obtain⟨⟨z0,z1,z2,z3,z4⟩,-,-⟩:=KP.out w9 F9.out;clear hr hf))
      | fail)
     exact bodyPost_ret (results_tmp2 rfl _ _ _) rfl ⟨o.ver,0,_,_,_,rfl,.inr ⟨HR.out.1,.inr (.inr ⟨by rw[←fH.out];exact eq1,.inr ⟨Tn,_,_,rfl,rfl,.inl ⟨by rw[←fH.out];exact X9,rfl,rfl,rfl,rfl,rfl⟩⟩⟩)⟩,by rw[←fH.out];exact vJ HS.out B5.out R9.out (fun k hk=>Or.elim hk (fun hk=>(Or.elim hk (D8 k) fun h=>Or.inr (Cz F8.out.size h.1)).imp id fun h=>Cz B5.out.size h) fun hk=>Or.inr (HY.out k hk).2.2) F9.out⟩
 ·have q1:((L.dQ m bb:Nat):Int)=0:=by rw[eq1];rfl
  cases del
  all_goals
   simp only[Bool.false_eq_true,if_false,if_true] at FN ⊢
   go_enter Tryz.func75,Tryz.ntmps75
   go_wp2_with (first
    | (at_builtin;(rw[←HW2.out.1,←HW2.out.2,HQ.out];refine aA rfl (.tmp 22) (.tmp 24) 35 rfl (eu (heap_alloc_new w2 _) Kv) rfl ((yK.out.keep (Kz ((Below.refl _ w2).alloc Kv _))).src Tryz.underlying35) rfl (by have:=HD.out;simp;omega) (by simp) ?_;intro v3 w3 hown hgr _;rw[List.nil_append] at hown;obtain⟨A3,c3',e3,-,-⟩:=ah.form hown;rw[HD.out.2] at e3;subst e3;have hb3:=bC ((Below.refl _ w2).alloc Kv _) hgr Kv;have hr3:=(hb3.block B (Cq HR2.out)).trans HR2.out;have O3:=Hj hown;have B3:=Hj hb3;have HR3:=Hj hr3;have y4:w3.cell? ⟨B,4,none⟩=some (.slice v.A v.n v.c):=Kq 4 hr3;have fz:w3.frozen? ⟨B,4,none⟩=false:=Kj hr3;have hr4:(w3.setCell ⟨B,4,none⟩ (.slice A3 v.n c3')).heap[B]?=_:=heap_setCell_same _ _ 4 _ _ _ hr3;have x0:=Kq 0 hr4;have x1:=Kq 1 hr4;have x2:=Kq 2 hr4;have x3:=Kq 3 hr4;have x4:=Kq 4 hr4;clear hown hgr hb3 hr3 hr4))
    | (go_at_call 132;(have hf4:Fr (fun k=>k=B) w3 (w3.setCell ⟨B,4,none⟩ (.slice A3 v.n c3')):=(Fr.refl (fun k=>k=B) w3).setCell (p:=⟨B,4,none⟩) (fun _=>rfl) _;have hs3:=B3.out.size;have hs2:=HQ.out;have o4:OB (w3.setCell ⟨B,4,none⟩ (.slice A3 v.n c3')) w2.heap.size (.slice A3 v.n c3') o.data:=ah.kept O3.out hf4 (fun k hk e=>by have:=(ah.lt O3.out k hk).1;omega);have hi4:=HMk.out _ A3 c3' o4;(with_reducible refine(FN.out _ ⟨v.kind,v.space,v.name,(o.ver:Int),A3,v.n,c3'⟩ hi4).mono ?_);rintro e w5 ⟨A5,c5,rfl,hlb,hb5⟩;have hb4:Below w.heap.size w (w3.setCell ⟨B,4,none⟩ (.slice A3 v.n c3')):=(HB2.out.trans (B3.out.mono HB2.out.size)).setCell (p:=⟨B,4,none⟩) (by show w.heap.size≤B;rw[HW2.out.2];exact Nat.le_refl _) _;have B5:=Hj (hb4.trans (hb5.mono hb4.size));have hr4:(w3.setCell ⟨B,4,none⟩ (.slice A3 v.n c3')).heap[B]?=_:=heap_setCell_same _ _ 4 _ _ _ HR3.out;obtain⟨HY,KP,OF⟩:=AY HS.out hb4 hb5 (by rw[HW2.out.2];exact Nat.le_refl _) hr4 hi4 (o4.mono HB2.out.size) hlb;obtain⟨gl,g0,GN⟩:=(HS.out.below B5.out).append bb iQ.out;rw[q1] at GN;have Rt:=Hj GN;clear hf4 o4 hlb hb5 hb4 hr4 GN))
    | (go_at_call 133;((with_reducible refine(Rt.out A5 c5 (KP.out w5 (Fr.refl _ _)).2.2 (OF.out _ fun k hk=>.inl hk)).mono ?_);rintro e w6 ⟨rfl,hr,hf⟩;have F6:Hid (Fr (fun k=>Q k∨w5.heap.size≤k) w5 w6):=Hj (hf.mono fun i _ hk=>.inl hk);have D6:∀k,ext Q w5 w6 k→(fun k=>Q k∨w5.heap.size≤k) k:=(fun k hk=>hk.imp id fun h=>h.1);obtain⟨⟨y0,y1,y2,y3,y4⟩,Zp,-⟩:=KP.out w6 F6.out;have Xc:=Hj (hr.apply (by have:=HR.out;omega) HR.out.2.2 _ Zp xW.out (fun e=>CY.out (by first | exact e | trivial)) (fun k hk=>⟨fun hq=>(HY.out k hk).elim fun a b=>(D6 k hq).elim a (by omega),Cz HS.out.bel.size (HY.out k hk).2.2⟩));clear Zp;clear hr hf))
    | (go_at_call 71;((with_reducible refine Xc.out.mono ?_);rintro e w9 ⟨rfl,hr,hf⟩;have F9:Hid (Fr (fun k=>Q k∨w5.heap.size≤k) w5 w9):=Hj (F6.out.trans hf fun i _ hk=>D6 i hk);have R9:=Hj hr;obtain⟨⟨z0,z1,z2,z3,z4⟩,-,-⟩:=KP.out w9 F9.out;clear hr hf))
    | fail)
   exact bodyPost_ret (results_tmp2 rfl _ _ _) rfl ⟨o.ver,0,_,_,_,rfl,.inr ⟨HR.out.1,.inl ⟨by rw[←fH.out];exact eq1,rfl,rfl,rfl,rfl,rfl⟩⟩,by rw[←fH.out];exact vJ HS.out B5.out R9.out (fun k hk=>Or.elim hk (fun hk=>(Or.elim hk (D6 k) fun h=>Or.inr (Cz F6.out.size h.1)).imp id fun h=>Cz B5.out.size h) fun hk=>Or.inr (HY.out k hk).2.2) F9.out⟩
end
end Go.Proofs.YtdhbpajamlfacaaGreatDoor
