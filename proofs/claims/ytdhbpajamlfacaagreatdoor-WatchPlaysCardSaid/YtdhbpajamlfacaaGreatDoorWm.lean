/- Layer 21 (watch): anew. -/
import Derived.Test.YtdhbpajamlfacaaGreatDoorZb
set_option maxHeartbeats 4000000
set_option maxRecDepth 100000
namespace Go.Proofs.YtdhbpajamlfacaaGreatDoor
open Go.RowKit SO
/-- One object more is known. -/
def gZ (K:List (ByteArray×aC)) (o:aC):List (ByteArray×aC):=ins aS (wkey o.space o.name) o K
theorem zK:(Tryz.prog.info? 43).map (·.size)=some 3:=by kernel_rfl
theorem st3 {w:World} {B:Nat} {T:TypeId} {c0 c1 c2 x0 x1 x2:Value} (h:w.heap[B]?=some (.cells #[c0,c1,c2] T (0,0))):(((w.setCell ⟨B,0,none⟩ x0).setCell ⟨B,1,none⟩ x1).setCell ⟨B,2,none⟩ x2).heap[B]?=some (.cells #[x0,x1,x2] T (0,0)):=by
 have h0:(w.setCell ⟨B,0,none⟩ x0).heap[B]?=some (.cells #[x0,c1,c2] T (0,0)):=by simpa using aI _ _ 0 _ _ x0 h
 have h1:((w.setCell ⟨B,0,none⟩ x0).setCell ⟨B,1,none⟩ x1).heap[B]?=some (.cells #[x0,x1,c2] T (0,0)):=by simpa using aI _ _ 1 _ _ x1 h0
 simpa using aI _ _ 2 _ _ x2 h1
theorem OS.mono {w:World} {b b':Nat} {v:Value} {l:List aC} (h:OS w b v l) (hb:b'≤b):OS w b' v l:=let ⟨os,h1,h2⟩:=h;⟨os,ah.mono h1 fun k hk=>Cz hb (ah.lt h1 k hk).1,h2⟩
/-- What is known no more. -/
def vO (K K2:List (ByteArray×aC)):List aC:=(K.filter fun x=>(look aS x.1 K2).isNone).map fun x=>x.2
/-- Only reports and rows of objects from b on turned. -/
def Sr (b:Nat) (w w':World):Prop:=∃X:Nat→Prop,Fr X w w'∧∀k,X k→b≤k∧∀cs T,w.heap[k]?=some (.cells cs T (0,0))→T=43∨T=37
section
variable {w w' w3 W W':World} {b gr k:Nat} {an:Bool} {pv dv v':Value} {lp:List aC} {os:List (OV×aC)} {x:OV×aC}
theorem Sr.of_below (b:Nat) (h:Bw w w'):Sr b w w':=⟨fun _=>False,Fr.of_below h,fun _ x=>x.elim⟩
theorem Sr.sf (h:Sr b w w'):Sf w w':=let ⟨X,h1,h2⟩:=h;⟨X,h1,fun k cs T hk hc=>((h2 k hk).2 cs T hc).elim (fun e=>.inr (.inl e)) fun e=>.inr (.inr (.inl e))⟩
theorem Sr.size (h:Sr b w w'):w.heap.size≤w'.heap.size:=let ⟨_,h1,_⟩:=h;h1.size
theorem Sr.row (h:Sr b w w') {cs:Array Value} {T:TypeId} (hc:w.heap[k]?=some (.cells cs T (0,0))) (hT:T≠43∧T≠37):w'.heap[k]?=w.heap[k]?:=let ⟨_,h1,h2⟩:=h;h1.block k (Cq hc) fun e=>((h2 k e).2 cs T hc).elim hT.1 hT.2
theorem Sr.low (h:Sr b w w') (hk:k<b) (hl:k<w.heap.size):w'.heap[k]?=w.heap[k]?:=let ⟨_,h1,h2⟩:=h;h1.block k hl fun e=>by have:=(h2 k e).1;omega
theorem Sr.fr (h:Sr b w w'):Fr (fun k=>b≤k) w w':=let ⟨_,h1,h2⟩:=h;h1.mono fun k _ hk=>(h2 k hk).1
theorem Sr.trans (h1:Sr b w w') (h2:Sr b w' w3):Sr b w w3:=by
 obtain⟨X,f1,t1⟩:=h1
 obtain⟨Y,f2,t2⟩:=h2
 refine⟨fun k=>X k∨Y k,(f1.mono fun _ _ h=>.inl h).trans f2 fun _ _ h=>.inr h,fun k hk=> ?_⟩
 by_cases hx:X k
 ·exact t1 k hx
 ·exact ⟨(t2 k (hk.resolve_left hx)).1,fun cs T hc=>(t2 k (hk.resolve_left hx)).2 cs T ((f1.block k (Cq hc) hx).trans hc)⟩
theorem Sr.TP (h:Sr b w w') {g:Nat} {sh:Code} {l:List (ByteArray×OV)} (a:TabAt w g sh l):TabAt w' g sh l:=by
 obtain⟨X,h1,h2⟩:=h
 obtain⟨p,ht,_⟩:=id a
 exact a.fr h1 (fun hx=>((h2 g hx).2 _ _ ht).elim (by decide) (by decide)) fun k cs hc hx=>((h2 k hx).2 _ _ hc).elim (by decide) (by decide)
/-- One more object is gone. -/
theorem TQ (hr:W.heap[gr]?=some (.cells #[.bool an,pv,dv] 43 (0,0))) (hp:OS W b pv lp) (hd:OL W b dv (os.map Prod.fst)) (hos:∀x∈os,dD W x.1 x.2) (hap:∀k,pv.ownBlock=some k→dv.ownBlock≠some k) (hx:dD W x.1 x.2) (hb:b≤gr) (ho:OL W' b v' (os.map Prod.fst++[x.1])) (hF:Fr (fun k=>some k=dv.ownBlock) W W') (hat:v'.ownBlock=dv.ownBlock∨∃k,v'.ownBlock=some k∧W.heap.size≤k):
  W'.heap[gr]?=some (.cells #[.bool an,pv,dv] 43 (0,0))∧Rep (W'.setCell ⟨gr,2,none⟩ v') b gr an lp ((os++[x]).map Prod.snd)∧Sr b W (W'.setCell ⟨gr,2,none⟩ v'):=by
 have hty:∀{w1:World} {v:Value} {l:List OV} {k:Nat} {cs:Array Value},OL w1 b v l→v.ownBlock=some k→w1.heap[k]?=some (.cells cs 43 (0,0))→False:=fun ho hk hc=>by
  obtain⟨_,hc'⟩:=au ho hk
  exact absurd (ak hc' hc) (by decide)
 have hr':W'.heap[gr]?=_:=(hF.block gr (Cq hr) fun e=>hty hd e.symm hr).trans hr
 have hS:Fr (fun k=>k=gr) W' (W'.setCell ⟨gr,2,none⟩ v'):=(Fr.refl (fun k=>k=gr) W').setCell (p:=⟨gr,2,none⟩) (fun _=>rfl) _
 have hG:Fr (fun k=>some k=dv.ownBlock∨k=gr) W (W'.setCell ⟨gr,2,none⟩ v'):=(hF.mono fun _ _ x=>.inl x).trans hS fun _ _ x=>.inr x
 have hSr:Sr b W (W'.setCell ⟨gr,2,none⟩ v'):=⟨_,hG,fun k hk=>by
  rcases hk with hk | rfl
  ·refine ⟨(ah.lt hd k hk.symm).1,fun cs T hc=>.inr ?_⟩
   obtain⟨_,hc'⟩:=au hd hk.symm
   exact ak hc hc'
  ·exact ⟨hb,fun cs T hc=>.inl (ak hc hr)⟩⟩
 have hsf:=hSr.sf
 refine⟨hr',⟨pv,v',aI _ _ 2 _ _ _ hr',hsf.os hp fun k hk=>hG.block k (hp.own hk).2.1 fun e=> ?_,⟨os++[x],?_,rfl,fun y hy=> ?_⟩,fun k hk e=> ?_⟩,hSr⟩
 ·rcases e with e | e
  ·exact hap k hk e.symm
  ·obtain ⟨_,hc⟩:=(hp.own hk).2.2
   rw[e] at hc
   exact absurd (ak hc hr) (by decide)
 ·have e:(os++[x]).map (fun x=>x.1)=os.map Prod.fst++[x.1]:=by rw[dI];rfl
  rw[e]
  exact ah.kept ho hS fun k hk e=>by subst e;exact hty ho hk hr'
 ·rcases iO.1 hy with hy | hy
  ·exact hsf.Ig (hos y hy)
  ·rw [iq.1 hy];exact hsf.Ig hx
 ·rcases hat with hat | ⟨k',e',hk'⟩
  ·exact hap k hk (by rw[←hat];exact e)
  ·rw [e'] at e;injection e with e;have:=(hp.own hk).2.1;omega
end
section
variable {P:Nat→Prop} {w w0:World} {Q:Nat→Prop} {g gs gw gt cur:Nat} {m:DM} {L:LM} {M:bQ} {kind:Int} {space:ByteArray} {all:Bool} {K:List (ByteArray×aC)}
theorem zL:∀(l:List aC) (K:List (ByteArray×aC)),(l.foldl gZ K).length≤K.length+l.length
 | [],K=>bZ _
 | o::l,K=>by
  have h1:=zL l (gZ K o)
  have h2:(gZ K o).length≤K.length+1:=by unfold gZ;rw[kC];split<;>omega
  rw[lC,qV]
  omega
theorem anewW (hw:iY w gw gt kind space all cur) (hK:KT w P gt K) (l:List aC) (hLs:∀W,Bw w W→Cl 83 #[pt gw,pt gs] W fun e w'=>∃v,e=.returned v∧OS w' W.heap.size v l∧Bw W w') (hO:∀o∈l,o.data.length≤1000000∧o.space.size≤1000∧o.name.size≤1000) (hN:l.length≤100000) (ZE:K.length≤90000):
  Cl 38 #[pt gw,pt gs] w fun e w'=>∃pv dv iT,e=.returned (.agg #[.bool true,pv,dv])∧OS w' w.heap.size pv l∧OS w' w.heap.size dv (vO K (l.foldl gZ []))∧iY w' gw iT kind space all cur∧KT w' (fun k=>w.heap.size≤k) iT (l.foldl gZ [])∧Fr (fun k=>k=gw) w w'∧w.heap.size≤iT:=by
 obtain⟨w1,hw1⟩:∃W,W=w.alloc (.cells #[.bool false,.slice none 0 0,.slice none 0 0] 43):=⟨_,rfl⟩
 have hb1:Bw w w1:=by rw[hw1];exact(aj _ w).alloc Kv _
 have hr1:w1.heap[w.heap.size]?=some (.cells #[.bool false,.slice none 0 0,.slice none 0 0] 43 (0,0)):=by rw[hw1];exact aA w _
 have hrw:=(hb1.block gw (Cq hw)).trans hw
 have AP:=Hj (hLs w1 hb1)
 have HO:=Hj hO
 have HN:=Hj hN
 have ZF:=Hj ZE
 have HW:=Hj hw1
 have HB1:=Hj hb1
 have HR1:=Hj hr1
 have HRW:=Hj hw
 have HKT:=Hj hK
 clear hw hK hLs hO hN ZE hw1 hb1 hr1 hrw
 go_enter Tryz.func38,Tryz.ntmps38
 go_wp2_with (first
  | (go_at_call 83;rw[←HW.out];((refine AP.out.mono ?_);rintro e w2 ⟨v,rfl,ho,hb⟩;obtain⟨A,c,rfl,hc1,hc2⟩:=ho.form;have Uz:=Hj ho;have B2:=Hj hb;have q3:∀o,(w2.alloc o).cell? ⟨gw,3,none⟩=some (pt gt):=(fun o=>Kz ((HB1.out.trans (hb.mono HB1.out.size)).alloc (HB1.out.trans (hb.mono HB1.out.size)).size o) _ _ (Kq 3 HRW.out));clear ho hb))
  | (go_at_call 28;obtain⟨w3,hw3⟩:∃W,W=w2.alloc (.cells #[.bool true,.slice A l.length c,.slice none 0 0] 43):=⟨_,rfl⟩;rw[←hw3];have b3:Bw w2 w3:=(by rw[hw3];exact(aj _ w2).alloc Kv _);have r3:w3.heap[w2.heap.size]?=some (.cells #[.bool true,.slice A l.length c,.slice none 0 0] 43 (0,0)):=(by rw[hw3];exact aA w2 _);obtain⟨gr,hgr⟩:∃q,q=w2.heap.size:=⟨_,rfl⟩;rw[←hgr] at r3 ⊢;((refine(Md w3).mono ?_);rintro e w4 ⟨rfl,ht,hb⟩;obtain⟨iT,hgt2⟩:∃q,q=w3.heap.size:=⟨_,rfl⟩;rw[←hgt2] at ht ⊢;have HT4:=Hj ht;have r4:=(hb.block gr (Cq r3)).trans r3;have B4:=Hj (b3.trans (hb.mono b3.size));have R4:=Hj r4;have HG:=Hj (aB hgr hgt2);have HS3:=Hj (aB (Cq r3) hb.size);have bw:=(HB1.out.trans (B2.out.mono HB1.out.size)).trans (B4.out.mono (HB1.out.trans (B2.out.mono HB1.out.size)).size);have BW:=Hj bw;have rw4:=(bw.block gw (Cq HRW.out)).trans HRW.out;have RW4:=Hj rw4;have p3:w4.cell? ⟨gw,3,none⟩=some (pt gt):=Kq 3 rw4;have pf:w4.frozen? ⟨gw,3,none⟩=false:=Kj rw4;have p1:w4.cell? ⟨gr,1,none⟩=some (.slice A l.length c):=Kq 1 r4;clear ht hb hw3 b3 r3 r4 hgr hgt2 rw4 bw))
  | fail)
 obtain⟨w5,hw5⟩:∃W,W=w4.setCell ⟨gw,3,none⟩ (pt iT):=⟨_,rfl⟩
 rw[←hw5]
 have hz:gw<w.heap.size:=(Cq HRW.out)
 have hf5:Fr (fun k=>k=gw) w4 w5:=by rw[hw5];exact(Fr.refl (fun k=>k=gw) w4).setCell (p:=⟨gw,3,none⟩) (fun _=>rfl) _
 have hs5:Sf w4 w5:=Sf.aK hf5 RW4.out (.inr (.inr (.inr rfl)))
 have hG1:w1.heap.size=w.heap.size+1:=by rw[HW.out];simp
 have hG2:=B2.out.size
 have hG3:=B4.out.size
 obtain⟨hG4,hG5⟩:=HG.out
 obtain⟨hG6,hG7⟩:=HS3.out
 have hgt:gt<w.heap.size:=let ⟨_,h⟩:=HKT.out.row;(Cq h)
 have R5:Hid (iY w5 gw iT kind space all cur):=Hj (by rw[hw5];exact aI _ _ 3 _ _ _ RW4.out)
 have K5:Hid (KT w5 (fun k=>w.heap.size≤k) iT []):=Hj (hs5.tab ⟨_,[],HT4.out,rfl,fun x hx=>(by cases hx),List.Pairwise.nil⟩ (hf5.block iT (by obtain⟨_,h,_⟩:=HT4.out;exact(Cq h)) (by omega)))
 have O5:Hid (OS w5 w1.heap.size (.slice A l.length c) l):=Hj (hs5.os (Uz.out.below B4.out) fun k hk=>hf5.block k ((Uz.out.below B4.out).own hk).2.1 fun e=>by have:=(Uz.out.own hk).1;omega)
 have F5:Hid (Fr (fun k=>k=gw) w w5):=Hj ((Fr.of_below BW.out).trans hf5 fun _ _ x=>x)
 have G5:Hid (w5.heap[gr]?=some (.cells #[.bool true,.slice A l.length c,.slice none 0 0] 43 (0,0))):=Hj ((hf5.block gr (Cq R4.out) (by omega)).trans R4.out)
 have Z5:Hid (w5.heap[w.heap.size]?=some (.cells #[.bool false,.slice none 0 0,.slice none 0 0] 43 (0,0))):=Hj ((hf5.block _ (by omega) (by omega)).trans ((B4.out.block _ (by omega)).trans ((B2.out.block _ (by omega)).trans HR1.out)))
 have T5:Hid (KT w5 P gt K):=Hj (hs5.tab (HKT.out.below BW.out) (hf5.block gt (by omega) fun e=>by subst e;obtain⟨_,h⟩:=HKT.out.row;exact absurd (ak h HRW.out) (by decide)))
 have N5:Hid (gw≠iT∧gr≠iT∧w.heap.size≠iT∧gt≠iT∧w1.heap.size≤iT∧w.heap.size≤w5.heap.size):=Hj ⟨by omega,by omega,by omega,by omega,by omega,F5.out.size⟩
 have HCop:Hid (∀W (u:OV) (o:aC),dD W u o→o∈l→Cl 48 #[.agg (ov u)] W fun e w'=>∃A1 c1,e=.returned (.agg #[.int .i64 u.kind,.string u.space,.string u.name,.int .i64 u.ver,.slice A1 u.n c1])∧dD w' (⟨u.kind,u.space,u.name,u.ver,A1,u.n,c1⟩:OV) o∧Bw W w'∧∀k,(Value.slice A1 u.n c1).ownBlock=some k→W.heap.size≤k):=Hj fun W u o hu ho=>(xY u W o.data hu.rb (by rw[hu.num];exact(HO.out o ho).1)).mono fun e w' ⟨A1,c1,h1,h2,h3⟩=>⟨A1,c1,h1,⟨hu.kind,hu.space,hu.name,hu.ver,hu.num,ah.mono h2 fun _ _=>bU _⟩,h3,fun k hk=>(ah.lt h2 k hk).1⟩
 have uN:Hid (∀W (u:OV) (o:aC),dD W u o→o∈l→∀W',Cl 54 #[.string u.space,.string u.name] W' fun e w'=>e=.returned (.string (wkey o.space o.name))∧w'=W'):=Hj fun W u o hu ho W'=>by
  have:=Wv u.space u.name W' (by rw[hu.space];exact(HO.out o ho).2.1) (by rw[hu.name];exact(HO.out o ho).2.2)
  rwa [hu.space,hu.name] at this ⊢
 clear hw5 hz hf5 hs5 hG1 hG2 hG3 hG4 hG5 hG6 hG7 hgt p3 pf p1 q3 hc1 hc2
 obtain⟨n,hn⟩:∃n,n=l.length:=⟨_,rfl⟩
 rw[←hn]
 have ZG:=Hj hn
 clear hn
 go_loopg [30] n (fun gk s30 wr=>∃i:Nat,s30=.int .i64 (i:Int)∧i+gk=n∧KT wr (fun k=>w.heap.size≤k) iT ((l.take i).foldl gZ [])∧Fr (fun k=>k=iT) w5 wr)
 case atStart=>exact⟨0,rfl,by omega,K5.out,Fr.refl _ _⟩
 case round=>
  obtain⟨i,rfl,hi,hk,hf⟩:=hrel
  have HK:=Hj hk
  have HF:=Hj hf
  have HI:=Hj hi
  obtain⟨p5,ZH⟩:=K5.out.row
  have hsr:Sf w5 wr:=Sf.aK hf ZH (.inl rfl)
  have HSr:=Hj hsr
  by_cases hlt:i<n
  ·obtain ⟨os,h1,h2,h3⟩:=hsr.os O5.out fun k hk=>hf.block k (O5.out.own hk).2.1 fun e=>by obtain⟨_,hc⟩:=(O5.out.own hk).2.2;rw[e] at hc;exact absurd (ak hc ZH) (by decide)
   have hlen:os.length=l.length:=by rw[←h2,aX]
   have AY:i<os.length:=by rw[hlen,←ZG.out];exact hlt
   obtain⟨b,o,rfl,-,hcell⟩:=yY h1 (by rw[aX];omega)
   obtain⟨x,hx⟩:∃x,x=os[i]:=⟨_,rfl⟩
   have hxi:os[i]?=some x:=by rw[hx];exact fJ AY
   have hxv:(os.map fun x=>x.1)[i]?=some x.1:=by rw[dK,hxi];rfl
   have hxl:l[i]?=some x.2:=by rw[←h2,dK,hxi];rfl
   obtain⟨u,ob⟩:=x
   have hmem:ob∈l:=gJ hxl
   have HM:=Hj hmem
   have HU:=Hj (h3 _ (gJ hxi))
   have HTk:Hid ((l.take (i+1)).foldl gZ []=gZ ((l.take i).foldl gZ []) ob):=Hj (by
    obtain⟨g1,g2⟩:=fA.1 hxl
    rw[mO g1,g2,List.foldl_append];rfl)
   have e0:=fun j y=>hcell i u hxv j y
   have c0:wr.cell? ⟨b,o+i*5,none⟩=some (.int .i64 u.kind):=e0 0 _ rfl
   have c1:wr.cell? ⟨b,o+i*5+1,none⟩=some (.string u.space):=e0 1 _ rfl
   have c2:wr.cell? ⟨b,o+i*5+2,none⟩=some (.string u.name):=e0 2 _ rfl
   have c3:wr.cell? ⟨b,o+i*5+3,none⟩=some (.int .i64 u.ver):=e0 3 _ rfl
   have c4:wr.cell? ⟨b,o+i*5+4,none⟩=some (.slice u.A u.n u.c):=e0 4 _ rfl
   have i0:(0:Int)≤(i:Int):=Int.natCast_nonneg i
   have i1:(i:Int)<(n:Int):=Int.ofNat_lt.2 hlt
   have i2:(i:Int)≤100000:=by have:=HN.out;have:=ZG.out;omega
   have yN:=Hj hlt
   have uO:Hid (∀W A c,KT W (fun k=>w.heap.size≤k) iT ((l.take i).foldl gZ [])→dD W (⟨u.kind,u.space,u.name,u.ver,A,u.n,c⟩:OV) ob→(∀k,(Value.slice A u.n c).ownBlock=some k→w.heap.size≤k)→Cl 84 #[pt iT,(.string (wkey ob.space ob.name)),.agg #[.int .i64 u.kind,.string u.space,.string u.name,.int .i64 u.ver,.slice A u.n c]] W fun e w'=>(∃b,e=.returned (.bool b))∧KT w' (fun k=>w.heap.size≤k) iT ((l.take (i+1)).foldl gZ [])∧Fr (fun k=>k=iT) W w'):=Hj fun W A c hW hv' hp'=>by
    rw[HTk.out]
    exact hW.put hv' hp' _ (Cz (zL _ _) (by rw[eu];have:=HN.out;simp only[List.length_nil];omega))
   clear hk hf hi ZH hsr hlt h1 h2 h3 hlen AY hcell hx hxi hxv hxl hmem e0
   go_wp2
   obtain⟨w6,hw6⟩:∃W,W=wr.alloc (.cells (ov u) 37):=⟨_,rfl⟩
   obtain⟨B6,Pq⟩:∃q,q=wr.heap.size:=⟨_,rfl⟩
   rw[←hw6,←Pq]
   have b6:Bw wr w6:=by rw[hw6];exact(aj _ wr).alloc Kv _
   have x6:w6.heap[B6]?=some (.cells (ov u) 37 (0,0)):=by rw[hw6,Pq];exact aA wr _
   have rr:wr.heap[gw]?=_:=(HF.out.block gw (Cq R5.out) N5.out.1).trans R5.out
   have rr6:=(b6.block gw (Cq rr)).trans rr
   have RR6:=Hj rr6
   have j3:w6.cell? ⟨gw,3,none⟩=some (pt iT):=Kq 3 rr6
   obtain⟨b0,b1,b2,b3,b4⟩:VB w6 B6 u:=VB.aK x6
   have PD:=Hj b6
   have X6:=Hj x6
   have HNe:Hid (B6≠iT):=Hj (by obtain⟨_,h⟩:=HK.out.row;have:=(Cq h);omega)
   clear hw6 Pq b6 x6 rr rr6 c0 c1 c2 c3 c4
   go_region_held3 (fun w'=>w'.cell? ⟨gw,3,none⟩=some (pt iT)∧w'.cell? ⟨B6,0,none⟩=some (.int .i64 u.kind)∧w'.cell? ⟨B6,1,none⟩=some (.string u.space)∧w'.cell? ⟨B6,2,none⟩=some (.string u.name)∧w'.cell? ⟨B6,3,none⟩=some (.int .i64 u.ver)∧w'.cell? ⟨B6,4,none⟩=some (.slice u.A u.n u.c)) (first | exact⟨by assumption,by assumption,by assumption,by assumption,by assumption,by assumption⟩ | go_keep) (first
    | (go_at_call 54;((refine(uN.out wr u ob HU.out HM.out _).mono ?_);rintro e w' ⟨rfl,rfl⟩))
    | (go_at_call 48;((refine(HCop.out w6.drew u ob (HU.out.below (aJ PD.out)) HM.out).mono ?_);rintro e wc ⟨A1,c1',rfl,h1,h2,h5⟩;have I5:=Hj (aB h1 fun k hk=>Cz (Cz F5.out.size (Cz HF.out.size PD.out.size)) (h5 k hk));have BC:Hid (Bw w6 wc):=Hj ((aJ (aj _ w6)).trans h2);obtain⟨e0,e1,e2,e3,e4⟩:VB wc B6 u:=VB.aK ((BC.out.block B6 (Cq X6.out)).trans X6.out);have e5:wc.cell? ⟨gw,3,none⟩=some (pt iT):=Kq 3 ((BC.out.block gw (Cq RR6.out)).trans RR6.out);have XC:=Hj ((BC.out.block B6 (Cq X6.out)).trans X6.out);have RC:=Hj ((BC.out.block gw (Cq RR6.out)).trans RR6.out);clear h1 h2 h5))
    | (go_at_call 84;((refine(uO.out wc A1 c1' ((HK.out.below PD.out).below BC.out) I5.out.1 I5.out.2).mono ?_);rintro e w7 ⟨⟨bb,rfl⟩,h1,h3⟩;have T7:=Hj h1;have F7:=Hj h3;obtain⟨d0,d1,d2,d3,d4⟩:VB w7 B6 u:=VB.aK ((h3.block B6 (Cq XC.out) HNe.out).trans XC.out);have d5:w7.cell? ⟨gw,3,none⟩=some (pt iT):=Kq 3 ((h3.block gw (Cq RC.out) N5.out.1).trans RC.out);clear h1 h3))
    | fail)
   go_wp2
   go_roundg (gk-1)
   case measure=>have:=HI.out;have:=yN.out;omega
   case rel=>exact⟨i+1,by go_num,by have:=HI.out;have:=yN.out;omega,T7.out,(HF.out.trans (Fr.of_below (S:=fun _=>False) (PD.out.trans (BC.out.mono PD.out.size))) fun _ _ x=>x.elim).trans F7.out fun _ _ x=>x⟩
  ·obtain rfl:i=n:=by omega
   obtain⟨wa,rfl⟩:∃W,W=wr:=⟨_,rfl⟩
   obtain⟨K2,hK2⟩:∃k,k=l.foldl gZ []:=⟨_,rfl⟩
   have hk2:KT wa (fun k=>w.heap.size≤k) iT K2:=by
    rw[fO (by rw[←ZG.out];exact bZ _)] at hk
    rw[hK2];exact hk
   have hkn:KT wa P gt K:=hsr.tab T5.out (hf.block gt (by obtain⟨_,h⟩:=T5.out.row;exact(Cq h)) N5.out.2.2.2.1)
   have LJ:=Hj hk2
   have HKe:=Hj hK2
   obtain⟨sh2,S2,a1,a2,a3,a4⟩:=hk2
   obtain⟨sh1,S1,t1,t2,t3,t4⟩:=hkn
   obtain⟨-,r2⟩:=KT.xs t2 t4
   obtain⟨-,s2⟩:=KT.xs a2 a4
   have HG2:Hid (∀W k,Sr w1.heap.size wa W→((look aS k K2=none∧Cl 45 #[pt iT,(.string k)] W fun e w'=>e=.returned (.tuple #[(.agg #[.int .i64 0,.string ⟨#[]⟩,.string ⟨#[]⟩,.int .i64 0,.slice none 0 0]),.bool false])∧Bw W w')∨((look aS k K2).isNone=false∧∃v:OV,Cl 45 #[pt iT,(.string k)] W fun e w'=>e=.returned (.tuple #[(.agg (ov v)),.bool true])∧Bw W w'))):=Hj fun W k hW=>by
    have e1:=jy (lt:=aS) (fun y:OV×aC=>y.2) k S2
    have e2:=jy (lt:=aS) (fun y:OV×aC=>y.1) k S2
    rw[a2]
    rw[e1]
    cases hl:look aS k S2 with
    | none=>rw[hl] at e2;exact .inl ⟨rfl,yJ iT k sh2 _ W (hW.TP a1) s2 e2⟩
    | some y=>rw[hl] at e2;exact .inr ⟨rfl,y.1,kF iT k y.1 sh2 _ W (hW.TP a1) s2 e2⟩
   have HG1:Hid (∀W (x:ByteArray×(OV×aC)),x∈S1→Sr w1.heap.size wa W→Cl 45 #[pt gt,(.string x.1)] W fun e w'=>e=.returned (.tuple #[(.agg (ov x.2.1)),.bool true])∧Bw W w'):=Hj fun W x hx hW=>by
    obtain⟨i,hi⟩:=jT.1 hx
    exact kF gt x.1 x.2.1 sh1 _ W (hW.TP t1) r2 (fF dh r2 (i:=i) (e:=(x.1,x.2.1)) (by rw[dK,hi];rfl))
   have hxl:S1.length=K.length:=by rw[t2,aX]
   have rH:Hid (∀x∈S1,dD wa x.2.1 x.2.2):=Hj fun x hx=>(t3 x hx).1
   have xO:Hid (K=S1.map (fun x=>(x.1,x.2.2))∧S1.length=K.length∧K.length≤90000):=Hj ⟨t2,hxl,ZF.out⟩
   have yw:Hid (Cl 47 #[pt gt] wa fun e w'=>∃A c,e=.returned (.slice A S1.length c)∧ah w' wa.heap.size 9 1 (.slice A S1.length c) S1.length (S1.map fun x=>.string x.1)∧Bw wa w'):=Hj ((IW gt sh1 _ wa t1 (by rw[aX,hxl];have:=ZF.out;omega)).mono fun e w' ⟨v,e1,e2,e3⟩=>by
    have:=ah.rW e2
    rw[aX,iH] at this
    obtain⟨A,c,e,-,-⟩:=ah.form this
    subst e
    exact⟨A,c,e1,this,e3⟩)
   have hos:OS wa w1.heap.size (.slice A l.length c) l:=hsr.os O5.out fun k hk=>hf.block k (O5.out.own hk).2.1 fun e=>by obtain⟨_,hc⟩:=(O5.out.own hk).2.2;rw[e] at hc;exact absurd (ak hc ZH) (by decide)
   have hgr:=(hf.block gr (Cq G5.out) N5.out.2.1).trans G5.out
   have CX:=(hf.block _ (Cq Z5.out) N5.out.2.2.1).trans Z5.out
   have hwr:iY wa gw iT kind space all cur:=(hf.block gw (Cq R5.out) N5.out.1).trans R5.out
   have HRep:Hid (Rep wa w1.heap.size gr true l []):=Hj ⟨_,_,hgr,hos,OS.nil _ _,fun k _ hk=>by cases hk⟩
   have pK:=Hj (aB CX hwr)
   have HB:Hid (w1.heap.size≤gr∧w.heap.size<w1.heap.size∧gw<w.heap.size∧w1.heap.size≤wa.heap.size):=Hj ⟨by rw[HG.out.1];exact B2.out.size,(Cq HR1.out),(Cq HRW.out),Cz (by rw[HG.out.1];exact B2.out.size) (Nat.le_of_lt (Cq hgr))⟩
   obtain⟨Z,hZ⟩:∃z,z=w.heap.size:=⟨_,rfl⟩
   have HZ:=Hj hZ
   rw[←hZ]
   obtain⟨n1,hn1⟩:∃n,n=S1.length:=⟨_,rfl⟩
   have HN1:=Hj hn1
   rw[←hn1] at yw
   clear hk hf hi hlt ZH hsr hos hgr CX hwr hZ hn1 hxl t1 t2 t3 t4 a1 a2 a3 a4 r2 s2 hK2
   go_wp2_with (first
    | (go_at_call 47;((refine yw.out.mono ?_);rintro e wk ⟨Ab,cb,rfl,hob,hb⟩;have BK:=Hj hb;have Xy:=Hj hob;clear hob hb))
    | fail)
   go_loopg [50] n1 (fun gk s50 wr=>∃j:Nat,s50=.int .i64 (j:Int)∧j+gk=n1∧Rep wr w1.heap.size gr true l (vO (K.take j) K2)∧Sr w1.heap.size wk wr)
   case atStart=>exact⟨0,rfl,by omega,HRep.out.below BK.out,Sr.of_below _ (aj _ _)⟩
   case round=>
    obtain⟨j,rfl,hj,hrep,hsr⟩:=hrel
    have HRp:=Hj hrep
    have HSk:=Hj hsr
    have WC:Hid (Sr w1.heap.size wa wr):=Hj ((Sr.of_below _ BK.out).trans hsr)
    clear hrep hsr HRep
    by_cases hlt:j<n1
    ·obtain ⟨x,hx⟩:∃x,S1[j]?=some x:=⟨_,fJ (by rw[←HN1.out];exact hlt)⟩
     have hxm:=gJ hx
     obtain⟨kb,kof,rfl,kc,hkb⟩:∃b o,Ab=some ⟨b,o,none⟩∧wk.cell? ⟨b,o+j,none⟩=some (.string x.1)∧∃cs,wk.heap[b]?=some (.cells cs 9 (0,0)):=by
      obtain⟨b,o,cap,e,-,-,hc⟩:=ah.cells Xy.out (by have:(S1.map fun x=>Value.string x.1).length=S1.length:=aX _;have:=HN1.out;omega)
      injection e with e _ _
      exact⟨b,o,e,hc j _ (by rw[dK,hx];rfl),au Xy.out (by rw[e];rfl)⟩
     obtain⟨kcs,hkb⟩:=hkb
     have k1:wr.cell? ⟨kb,kof+j,none⟩=some (.string x.1):=by
      have:=HSk.out.row hkb ⟨by decide,by decide⟩
      unfold World.cell? at kc ⊢
      dsimp only at kc ⊢
      rw[this]
      exact kc
     have hKj:K[j]?=some (x.1,x.2.2):=by rw[xO.out.1,dK,hx];rfl
     have hgon:vO (K.take (j+1)) K2=vO (K.take j) K2++(if (look aS x.1 K2).isNone=true then [x.2.2] else []):=by
      unfold vO
      rw[jq hKj,List.filter_append,dI,List.filter_cons]
      split<;>rfl
     have HGo:=Hj hgon
     have HGa:=Hj fun W=>HG1.out W x hxm
     have U5:=Hj (rH.out x hxm)
     obtain⟨key,u,ob⟩:=x
     dsimp only at k1 HGo HGa U5
     have HCw:Hid (∀W,Sr w1.heap.size wa W→W.cell? ⟨gw,3,none⟩=some (pt iT)):=Hj fun W hW=>Kq 3 ((hW.low (Nat.lt_trans HB.out.2.2.1 HB.out.2.1) (dP (Nat.lt_trans HB.out.2.2.1 HB.out.2.1) HB.out.2.2.2)).trans pK.out.2)
     have c3:=HCw.out wr WC.out
     have i0:(0:Int)≤(j:Int):=by omega
     have i1:(j:Int)<(n1:Int):=by omega
     have i2:(j:Int)≤100000:=by have:=xO.out;have:=HN1.out;omega
     have HT:Hid (j+gk=n1∧j<n1):=Hj ⟨hj,hlt⟩
     have hcase:=HG2.out wr key WC.out
     obtain⟨pv,dv,hr,hp,⟨os,hd1,hd2,hd3⟩,hap⟩:=HRp.out
     obtain⟨Ad,cd,e3,-,-⟩:=ah.form hd1
     obtain⟨nd,hnd⟩:∃n,n=(os.map fun x=>x.1).length:=⟨_,rfl⟩
     rw[←hnd] at e3
     subst e3
     have HNd:Hid (nd≤100000):=Hj (by
      have h1:=bJ List.length hd2
      have h2:(vO (K.take j) K2).length≤(K.take j).length:=by unfold vO;rw[aX];exact kZ _ _
      rw[eu] at h2
      rw[aX] at h1 hnd
      have:=xO.out
      omega)
     have HD:=Hj (aB hr (aB hp (aB hd1 (aB hd2 (aB hd3 hap)))))
     clear hx hxm kc hkb hKj hgon hj hlt hr hp hd1 hd2 hd3 hap hnd
     rcases hcase with ⟨hn,hc⟩ | ⟨hn,v,hc⟩
     ·have HC:=Hj hc
      have HNn:=Hj hn
      clear hc hn
      go_wp2_with (first
       | (go_at_call 45;((with_reducible refine HC.out.mono ?_);rintro e w3 ⟨rfl,hb3⟩;have HB3:=Hj hb3;clear hb3))
       | (go_at_call 45;(
          obtain⟨w4,hw4⟩:∃W,W=w3.alloc (.cells #[.int .i64 0,.string ⟨#[]⟩,.string ⟨#[]⟩,.int .i64 0,.slice none 0 0] 37):=⟨_,rfl⟩
          rw[←hw4]
          have hb4:Bw wr w4:=by rw[hw4];exact HB3.out.alloc HB3.out.size _
          (with_reducible refine(HGa.out w4 (WC.out.trans (Sr.of_below _ hb4))).mono ?_)
          rintro e w5 ⟨rfl,hb5⟩
          have nH:Hid (Bw wr w5):=Hj (hb4.trans (hb5.mono hb4.size))
          obtain⟨w6,hw6⟩:∃W,W=w5.alloc (.cells (ov u) 37):=⟨_,rfl⟩
          have yx:Hid (Bw wr w6):=Hj (by rw[hw6];exact nH.out.alloc nH.out.size _)
          have HW6:=Hj hw6
          have r2:w6.cell? ⟨gr,2,none⟩=some (.slice Ad nd cd):=Kz yx.out _ _ (Kq 2 HD.out.1)
          rw[hw6] at r2
          clear hb4 hb5 hw4 hw6))
       | (at_builtin;have e6:w6.heap.size=w5.heap.size+1:=(by rw[HW6.out];simp);rw[←HW6.out,←e6];(refine pz rfl (.tmp 72) (.tmp 74) rfl (HD.out.2.2.1.below yx.out) rfl u rfl (by have:=HNd.out;omega) (Cz HB.out.2.2.2 (Cz WC.out.size yx.out.size)) ?_;intro A8 c8 w8 hown hb hf hat;obtain⟨p1,p2,p3⟩:=TQ (x:=(u,ob)) ((yx.out.block gr (Cq HD.out.1)).trans HD.out.1) (HD.out.2.1.below yx.out) (HD.out.2.2.1.below yx.out) (fun x hx=>(HD.out.2.2.2.2.1 x hx).below yx.out) HD.out.2.2.2.2.2 ((WC.out.sf.Ig U5.out).below yx.out) HB.out.1 hown hf hat;have e8:w8.cell? ⟨gr,2,none⟩=some _:=Kq 2 p1;have f8:w8.frozen? ⟨gr,2,none⟩=false:=Kj p1;have P2:=Hj p2;have P3:=Hj p3;clear hown hb hf hat p1 p2 p3))
       | fail)
      go_roundg (gk-1)
      case measure=>have:=HT.out;omega
      case rel=>exact⟨j+1,by go_num,by have:=HT.out;omega,by
       rw[HGo.out,HNn.out]
       have h:=P2.out
       rw[dI] at h
       have e:os.map Prod.snd=vO (K.take j) K2:=HD.out.2.2.2.1
       rw[e] at h
       exact h,(HSk.out.trans (Sr.of_below _ yx.out)).trans P3.out⟩
     ·have HC:=Hj hc
      have HNn:=Hj hn
      clear hc hn
      go_wp2_with (first
       | (go_at_call 45;((refine HC.out.mono ?_);rintro e w3 ⟨rfl,hb3⟩;have HB3:=Hj hb3;clear hb3))
       | fail)
      go_roundg (gk-1)
      case measure=>have:=HT.out;omega
      case rel=>
       have hb:=HB3.out.alloc HB3.out.size (.cells (ov v) 37)
       exact⟨j+1,by go_num,by have:=HT.out;omega,by
        rw[HGo.out,HNn.out]
        have h:=HRp.out.below hb
        simpa using h,HSk.out.trans (Sr.of_below _ hb)⟩
    ·obtain rfl:j=n1:=by omega
     have k1:¬(j:Int)<(j:Int):=by omega
     obtain⟨pv,dv,hr,hp,hd,-⟩:=HRp.out
     rw[fO (by have:=xO.out;have:=HN1.out;omega)] at hd
     obtain⟨Ap,np,cp,e2⟩:∃A n c,pv=.slice A n c:=let ⟨A,c,e,_⟩:=hp.form;⟨A,_,c,e⟩
     obtain⟨Ad,nd,cd,e3⟩:∃A n c,dv=.slice A n c:=let ⟨A,c,e,_⟩:=hd.form;⟨A,_,c,e⟩
     subst e2
     subst e3
     have hlo:∀k,k<w1.heap.size→wr.heap[k]?=wa.heap[k]?:=fun k hk=>WC.out.low hk (dP hk HB.out.2.2.2)
     have UA:=(hlo _ HB.out.2.1).trans pK.out.1
     have hwr:=(hlo _ (Nat.lt_trans HB.out.2.2.1 HB.out.2.1)).trans pK.out.2
     rw[←HZ.out] at UA
     have g0:wr.cell? ⟨gr,0,none⟩=some (.bool true):=Kq 0 hr
     have g1:wr.cell? ⟨gr,1,none⟩=some (.slice Ap np cp):=Kq 1 hr
     have g2:wr.cell? ⟨gr,2,none⟩=some (.slice Ad nd cd):=Kq 2 hr
     have z0:wr.cell? ⟨Z,0,none⟩=some (.bool false):=Kq 0 UA
     have z1:wr.cell? ⟨Z,1,none⟩=some (.slice none 0 0):=Kq 1 UA
     have z2:wr.cell? ⟨Z,2,none⟩=some (.slice none 0 0):=Kq 2 UA
     have zf:∀j,wr.frozen? ⟨Z,j,none⟩=false:=fun j=>Kj UA
     have HE:=Hj (aB UA (aB hwr (aB hp hd)))
     clear hj hlt hr hp hd hlo UA hwr
     go_wp2
     obtain⟨wf,hwf⟩:∃W,W=((wr.setCell ⟨Z,0,none⟩ (.bool true)).setCell ⟨Z,1,none⟩ (.slice Ap np cp)).setCell ⟨Z,2,none⟩ (.slice Ad nd cd):=⟨_,rfl⟩
     rw[←hwf]
     obtain⟨UA,hwr,hp,hd⟩:=HE.out
     have hF:Fr (fun k=>k=Z) wr wf:=by rw[hwf];exact(((Fr.refl (fun k=>k=Z) wr).setCell (p:=⟨Z,0,none⟩) (fun _=>rfl) _).setCell (p:=⟨Z,1,none⟩) (fun _=>rfl) _).setCell (p:=⟨Z,2,none⟩) (fun _=>rfl) _
     have hS:Sf wr wf:=Sf.aK hF UA (.inr (.inl rfl))
     have hr3:wf.heap[Z]?=some (.cells #[.bool true,.slice Ap np cp,.slice Ad nd cd] 43 (0,0)):=by rw[hwf];exact st3 UA
     have hz:=HZ.out
     have hb:=HB.out
     have hgt:iT≠Z:=by have:=N5.out.2.2.1;omega
     obtain⟨p5,ZH⟩:=LJ.out.row
     have hkr:=WC.out.sf.tab LJ.out (WC.out.row ZH ⟨by decide,by decide⟩)
     have hos:∀{v:Value} {q:List aC},OS wr w1.heap.size v q→OS wf w.heap.size v q:=fun {v q} ho=>(hS.os ho fun k hk=>hF.block k (ho.own hk).2.1 fun e=>by have:=(ho.own hk).1;omega).mono (by omega)
     obtain⟨p6,hp6⟩:=hkr.row
     refine bg (nJ _ rfl rfl hr3 Tryz.underlying43 zK) rfl ⟨_,_,rfl,hos hp,by rw[←HKe.out];exact hos hd,iT,(hF.block gw (Cq hwr) (by omega)).trans hwr,by rw[←HKe.out];exact hS.tab hkr (hF.block iT (Cq hp6) hgt),?_,by have:=N5.out.2.2.2.2.1;omega⟩
     have h1:=F5.out.trans HF.out fun k hk e=>by have:=N5.out.2.2.2.2.1;omega
     exact(h1.trans WC.out.fr fun k hk e=>by omega).trans hF fun k hk e=>by omega
end
end Go.Proofs.YtdhbpajamlfacaaGreatDoor
