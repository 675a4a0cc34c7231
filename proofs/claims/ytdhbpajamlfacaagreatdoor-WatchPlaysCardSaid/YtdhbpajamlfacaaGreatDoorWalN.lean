/- Layer 18 (wal): Append, Compact. -/
import Derived.Test.YtdhbpajamlfacaaGreatDoorWalG
set_option maxHeartbeats 4000000
set_option maxRecDepth 100000
namespace Go.Proofs.YtdhbpajamlfacaaGreatDoor
open Go.RowKit
theorem AU {ops:Array Oper} {o:Oper} {a:Act} {w:World} {K:Act→World→Prop} {Q:Exit→Act→World→Prop} {E:Prop} (hgd:o.guard=none) (s x:Operand)
  (ho:o.op=.call {callee:=.builtin .append,args:=#[s,x],argTypes:=#[130,130]})
  {v:Value} {n:Nat} {ws:List Value} (hown:ah w 0 35 1 v n ws) (hs:a.eval s=v)
  {xv y:Value} (hsrc:Src Tryz.prog 1 130 xv 1 [y] w) (hx:a.eval x=xv) (hbytes:n≤1000000)
  (h:∀v' w',ah w' 0 35 1 v' (n+1) (ws++[y])→w.grownBy w' v.ownBlock→(v'.ownBlock=v.ownBlock∨v'.ownBlock=some w.heap.size)→K (a.put o.dst v') w'):
  if Region.wanted o (yielded ops a.tmps)=true then Oper.wp Tryz.prog o a w K Q else E:=by
 obtain⟨i0,hi,hz0,hz1,hz2⟩:=dO yD
 exact dA hgd s x 130 130 ho i0 _ 24 Tryz.underlying130 hi hz0 hz1 hz2 rfl (by omega) hs hown xv 1 _ hx hsrc (by unfold maxLen;omega) (by omega) (bU _) fun v' w' h1 h2 h3=>h v' w' h1 h2 h3
section
variable {w w' w0:World} {S P:Nat→Prop} {gl g:Nat} {m:DM} {L L':LM} {ea:Nat→Addr} {tv rv:Value} {xs:List Value}
/-- What stands behind an append: w: before; wa: memory made; w3: appended. -/
theorem zD {wa w3:World} (h:rC w P gl g L tv rv xs) (hb:Bw w wa) (hgr:wa.grownBy w3 rv.ownBlock):
  w3.heap[gl]?=some (.cells (JR g L tv rv) 173 (0,0))∧Fr (fun q=>q=gl∨rv.ownBlock=some q) w w3:=
 ⟨((Fr.bF hgr).block gl (dP h.lt hb.size) (fun e=>h.rne e.symm)).trans ((hb.block gl h.lt).trans h.cells),(Fr.of_below hb).trans (Fr.bF hgr) (fun _ _ hq=>.inr hq.symm)⟩
/-- .. and behind both stores. -/
theorem OA {wa w3:World} {A3:Option Addr} {c3 n:Nat} {xv:Value} (h:rC w P gl g L tv rv xs) (hb:Bw w wa) (hgr:wa.grownBy w3 rv.ownBlock) (hat:(Value.slice A3 (L.ns.length+1) c3).ownBlock=rv.ownBlock∨(Value.slice A3 (L.ns.length+1) c3).ownBlock=some wa.heap.size)
  (hv:ah w3 0 35 1 (.slice A3 (L.ns.length+1) c3) (L.ns.length+1) (xs++[xv])):
  Me ((w3.setCell ⟨gl,4,none⟩ (.slice A3 (L.ns.length+1) c3)).setCell ⟨gl,5,none⟩ (.int .i64 ((dW L.ns+(20+n):Nat):Int))) (ext P w ((w3.setCell ⟨gl,4,none⟩ (.slice A3 (L.ns.length+1) c3)).setCell ⟨gl,5,none⟩ (.int .i64 ((dW L.ns+(20+n):Nat):Int)))) gl g ⟨L.gen,L.slot,L.ns++[n]⟩∧
   Fr P w ((w3.setCell ⟨gl,4,none⟩ (.slice A3 (L.ns.length+1) c3)).setCell ⟨gl,5,none⟩ (.int .i64 ((dW L.ns+(20+n):Nat):Int))):=by
 obtain⟨h1,h2⟩:=zD h hb hgr
 have hS:Fr (fun k=>k=gl) w3 ((w3.setCell ⟨gl,4,none⟩ (.slice A3 (L.ns.length+1) c3)).setCell ⟨gl,5,none⟩ (.int .i64 ((dW L.ns+(20+n):Nat):Int))):=((Fr.refl (fun k=>k=gl) w3).setCell (p:=⟨gl,4,none⟩) (fun _=>rfl) _).setCell (p:=⟨gl,5,none⟩) (fun _=>rfl) _
 refine⟨⟨tv,.slice A3 (L.ns.length+1) c3,xs++[xv],?_,?_,.inl h.jv,fun k hk=> ?_⟩,(h2.trans hS fun _ _ e=>.inl e).mono fun q _ hq=> ?_⟩
 ·have:=aI _ gl 5 _ _ (.int .i64 ((dW L.ns+(20+n):Nat):Int)) (aI _ gl 4 _ _ (.slice A3 (L.ns.length+1) c3) h1)
  rw[this,←vw]
  rfl
 ·show ah _ 0 _ 1 _ (L.ns++[n]).length _
  rw[bP]
  refine ah.kept hv hS fun k hk e=> ?_
  subst e
  obtain⟨cur,hcur⟩:=au hv hk
  exact absurd (ak hcur h1) (by decide)
 ·rcases hat with e | e
  ·exact .inl (h.AL k (e.symm.trans hk))
  ·rw [e] at hk
   injection hk with hk
   exact .inr ⟨by have:=hb.size;omega,dP (ah.lt hv k (by rw[e,hk])).2 hS.size⟩
 ·rcases hq with rfl | hq
  ·exact h.jv
  ·exact h.AL q hq
theorem IQ (A:Option Addr) (n c:Nat) (text:List UInt8) (h:DW w0 w S g m gl L) (hE:EW w0 ea) (hb:RB w A n text) (hA:0<n→Off S A) (hnc:n≤c) (hc:c≤maxLen) (ht:text.length≤16384):
  Cl 100 #[pt gl,.slice A n c] w fun e w'=>e=.returned (jC ea (L.yj m text))∧DW w0 w' (ext S w w') g (L.uS m text) gl (L.app m text)∧Fr S w w':=by
 have hl:=hb.1
 have hgn:=h.fit.gen
 have c0:=h.q.at.1
 have c1:=h.q.at.2.1
 have c6:=h.q.at.2.2.2.2
 have HF:=Hj (Tz h.q)
 have d2:=(hE.d.keep (Kz h.q.bel)).full
 have q1:decide ((n:Int)>16384)=false:=aQ (by omega)
 have q1':decide (16384<(n:Int))=false:=aQ (by omega)
 have n0:(n:Int)≤16384:=by omega
 have hfit:=h.fit.app text
 rcases jm L m text with ⟨hf,e1,e2,e3⟩ | ⟨hf,e1,e2,e3⟩<;>rw[e2,e3] at hfit<;>rw[e1,e2,e3]
 ·have q2:decide (20+(n:Int)>m.free)=true:=aZ (by omega)
  have q2':decide (m.free<20+(n:Int))=true:=aZ (by omega)
  have HD:=Hj (aB (h.q.made (aj _ _)) h.fit)
  clear h hE hb hl hf hfit
  generalize m.free=F at*
  show Calls _ _ _ _ fun e w'=>e=.returned (.iface 368 (.pointer (some (ea 26))))∧_
  go_enter Tryz.func100,Tryz.ntmps100
  go_wp2_with (first
   | (go_at_call 137;(refine HF.out.mono ?_);rintro e w1 ⟨rfl,rfl⟩)
   | fail)
  go_ret
  exact⟨rfl,⟨HD.out.1.1,HD.out.2⟩,HD.out.1.2⟩
 have q2:decide (20+(n:Int)>m.free)=false:=aQ (by omega)
 have q2':decide (m.free<20+(n:Int))=false:=aQ (by omega)
 have hge:=DV L.ns
 have hm:dW L.ns≤1048576:=by have:=h.fit.e;have:=h.fit.sz;have:=h.fit.r1;omega
 obtain⟨P0,tv0,rv0,xs0,hV0,-⟩:=h.q.yR
 obtain⟨AR,cR,e4,_,_⟩:=hV0.recs.form
 have c4:w.cell? ⟨gl,4,none⟩=some (.slice AR L.ns.length cR):=by rw[←e4];exact hV0.cell 4
 have HK:Hid (∀W,Bw w W→W.cell? ⟨gl,1,none⟩=some (.int .i64 (L.gen:Int))∧W.cell? ⟨gl,4,none⟩=some (.slice AR L.ns.length cR)∧W.cell? ⟨gl,0,none⟩=some (pt g)∧W.cell? ⟨gl,5,none⟩=some (.int .i64 (dW L.ns:Int))):=Hj fun W hW=>
  ⟨Kz hW _ _ c1,Kz hW _ _ c4,Kz hW _ _ c0,Kz hW _ _ h.q.at.2.2.2.1⟩
 have HR:Hid (∀W,Bw w W→Cl 157 #[.int .i64 (L.gen:Int),.int .i64 (L.ns.length:Int),.slice A n c] W fun e w'=>∃A' cap,e=.returned (.slice A' (20+n) cap)∧RB w' A' (20+n) (JO L.gen L.ns.length text)∧Bw W w'):=Hj fun W hW=>
  (JQ L.gen L.ns.length A n c text W (hb.keep (Kz hW)) hnc hc (by omega) (by omega) (by omega) (hE.sha.keep (Kz (h.q.bel.trans (hW.mono h.q.bel.size))))).mono fun e w' ⟨v,k1,k2,k3⟩=>by
   obtain⟨A',cap,rfl,_,_,k6⟩:=k2.form
   rw[wU,hl] at k1 k6
   exact⟨A',cap,k1,k6,k3⟩
 have HD:=Hj h.q
 have HWr:Hid (∀W S',DQ w0 W S' g m gl L→∀A' cap,RB W A' (20+n) (JO L.gen L.ns.length text)→Cl 158 #[pt gl,.int .i64 2,.int .i64 (dW L.ns:Int),.slice A' (20+n) cap] W fun e w'=>e=.returned .nilIface∧DQ w0 w' (ext S' W w') g (m.put 2 (m.s 2+(20+text.length))) gl L∧Fr S' W w'):=Hj fun W S' hd A' cap hr=>by
  have:=zA 2 (dW L.ns) A' (20+n) cap _ hd (by decide) h.fit.e hr (by omega)
  rw[h.fit.e,hl]
  exact this
 have HB:=Hj hb
 have HA:=Hj hA
 have HFt:=Hj hfit
 have Pj:Hid (L.ns.length≤1000000):=Hj (by omega)
 have HEN:Hid (dW L.ns≤1048576):=Hj hm
 have HTL:=Hj hl
 have Yy:Hid (∀W,RB W A n text→Cl 94 #[.slice A n c] W fun e w'=>∃A' cap,e=.returned (.slice A' text.length cap)∧OB w' W.heap.size (.slice A' text.length cap) text∧Bw W w'):=Hj fun W h=>dU A n c text W h (by omega)
 clear h hE hb hA hnc hc ht hf hV0 e4 hge hm hl hfit d2
 generalize m.put 2 (m.s 2+(20+text.length))=m1 at*
 generalize m.free=F at*
 show Calls _ _ _ _ fun e w'=>e=.returned .nilIface∧_
 go_enter Tryz.func100,Tryz.ntmps100
 go_wp2_with (first
  | (go_at_call 137;(refine HF.out.mono ?_);rintro e w1 ⟨rfl,rfl⟩)
  | fail)
 have Bd:Hid (Bw w w.drew):=Hj (bV (aj _ _))
 go_region_held3 (fun w'=>w'.cell? ⟨gl,1,none⟩=some (.int .i64 (L.gen:Int))∧w'.cell? ⟨gl,4,none⟩=some (.slice AR L.ns.length cR)) (first | exact⟨by assumption,by assumption⟩ | go_keep)
  (first
   | (go_at_call 157;((refine(HR.out w.drew Bd.out).mono ?_);rintro e w2 ⟨A2,k2,rfl,hr2,hb2⟩;have B2:Hid (Bw w w2):=Hj (Below.fZ hb2);obtain⟨x1,x4,x0,x5⟩:=HK.out w2 B2.out;have R2:=Hj hr2;clear hr2 hb2)))
 all_goals
  go_wp2_with (first
   | (go_at_call 158;((refine(HWr.out w2 S (HD.out.below B2.out) A2 k2 R2.out).mono ?_);rintro e w3 ⟨rfl,hd3,hf3⟩;have D3:=Hj hd3;have F3:=Hj hf3;clear hd3 hf3))
   | (go_at_call 138;((refine(CU gl w3).mono ?_);rintro e w4 ⟨rfl,rfl⟩))
   | fail)
  have FS3:=DQ.behind HD.out.bel.size B2.out ⟨D3.out,F3.out⟩
  have HFS:=Hj FS3
  have R3:=Hj ((HB.out.keep (Keeps.drewN w 0)).Pn FS3.2 HA.out)
  obtain⟨P,tv,rv,xs,hV,hPS,hU⟩:=FS3.1.yR
  have HV:=Hj hV
  have HU:=Hj hU
  obtain⟨AV,cV,eV,_,_⟩:=hV.recs.form
  subst eV
  have hwn:L.ns.length≤1000000:=Pj.out
  have cA:w3.cell? ⟨gl,4,none⟩=some (.slice AV L.ns.length cV):=hV.cell 4
  clear hV hPS hU FS3
  have cE:w3.cell? ⟨gl,5,none⟩=some (.int .i64 (dW L.ns:Int)):=HFS.out.1.at.2.2.2.1
  have he0:(0:Int)≤(dW L.ns:Int)∧(dW L.ns:Int)≤1048576:=by have:=HEN.out;omega
  obtain⟨he0,he1⟩:=he0
  have HQ:Hid (((dW L.ns+(20+text.length):Nat):Int)=(dW L.ns:Int)+(20+(n:Int))):=Hj (by have:=HTL.out;omega)
  go_region_law (first
   | (refine AU rfl (.tmp 57) (.tmp 60) (by rfl) (HV.out.recs.below B6.out) (by rfl) (Src.one w5 _ A5 text.length k5 1 (fun _ _ h=>h)) (by rfl) hwn ?_;intro v7 w7 aU cu tX;obtain⟨A7,c7,rfl,-,-⟩:=ah.form aU;have hp7:=zD HV.out B6.out cu;have m4:w7.cell? ⟨gl,4,none⟩=some (.slice AV L.ns.length cV):=Kq 4 hp7.1;have m5:w7.cell? ⟨gl,5,none⟩=some (.int .i64 (dW L.ns:Int)):=Kq 5 hp7.1;have f4:w7.frozen? ⟨gl,4,none⟩=false:=Kj hp7.1;have f5:w7.frozen? ⟨gl,5,none⟩=false:=Kj hp7.1;have X7:=Hj (OA (n:=text.length) HV.out B6.out cu tX aU);clear hp7 aU cu tX)
   | (go_simp;go_at_call 94;((with_reducible refine(Yy.out w3.drew (R3.out.keep (Keeps.drew w3))).mono ?_);rintro e w5 ⟨A5,k5,rfl,sZ,hb5⟩;have B5:Hid (Bw w3 w5):=Hj (Below.fZ hb5);have ck:=Kz B5.out _ _ cA;have D6:=(aj w5.heap.size w5).alloc Kv (.cells #[.slice A5 text.length k5] 35);have ck2:=Kz D6 _ _ ck;have B6:=Hj (B5.out.trans (D6.mono B5.out.size));clear sZ hb5 D6)))
  all_goals
   go_wp2
   go_ret
   have Y:=HU.out _ _ X7.out.1 X7.out.2
   rw[HQ.out] at Y
   have Z:=DQ.then HFS.out.2 Y
   exact⟨rfl,⟨Z.1,HFt.out⟩,Z.2⟩
/-- The snapshot's own block behind the first region, whatever came first. -/
structure T5 (w wz:World) (q:Nat) (G t:Int) (A1:Option Addr) (n k1:Nat) (text:List UInt8):Prop where
 row:wz.heap[q]?=some (.cells #[.int .i64 G,.int .i64 t,.slice A1 n k1] 171 (0,0))
 bel:Bw w wz
 up:w.heap.size≤q
 own:OB wz w.heap.size (.slice A1 n k1) text
theorem Zv {wc:World} {A1:Option Addr} {n k1:Nat} {text:List UInt8} (G t:Int) (hb:Bw w wc) (ho:OB wc w.heap.size (.slice A1 n k1) text):
  ∃q wz,q=wc.heap.size∧wz=wc.alloc (.cells #[.int .i64 G,.int .i64 t,.slice A1 n k1] 171)∧T5 w wz q G t A1 n k1 text:=
 ⟨_,_,rfl,rfl,aA wc _,hb.alloc hb.size _,hb.size,ho.alloc _⟩
theorem Zw {wc:World} {A1:Option Addr} {n k1 b:Nat} {text:List UInt8} (G t:Int) (hb:Bw w wc) (hr:wc.heap[w.heap.size]?=some (.cells #[.int .i64 0,.int .i64 0,.slice none 0 0] 171 (0,0))) (ho:OB wc b (.slice A1 n k1) text) (hlt:w.heap.size<b):
  ∃q wz,q=w.heap.size∧wz=((wc.setCell ⟨w.heap.size,0,none⟩ (.int .i64 G)).setCell ⟨w.heap.size,1,none⟩ (.int .i64 t)).setCell ⟨w.heap.size,2,none⟩ (.slice A1 n k1)∧T5 w wz q G t A1 n k1 text:=by
 refine⟨_,_,rfl,rfl,aI _ _ _ _ _ _ (aI _ _ _ _ _ _ (aI _ _ _ _ _ _ hr)),((hb.setCell (p:=⟨w.heap.size,0,none⟩) Kv _).setCell (p:=⟨w.heap.size,1,none⟩) Kv _).setCell (p:=⟨w.heap.size,2,none⟩) Kv _,bZ _,?_⟩
 refine(ah.kept ho ((((Fr.refl (fun k=>k=w.heap.size) wc).setCell (p:=⟨w.heap.size,0,none⟩) (fun _=>rfl) (.int .i64 G)).setCell (p:=⟨w.heap.size,1,none⟩) (fun _=>rfl) (.int .i64 t)).setCell (p:=⟨w.heap.size,2,none⟩) (fun _=>rfl) (.slice A1 n k1)) fun k hk e=> ?_).mono fun k hk=> ?_
 ·have:=(OB.lt ho k hk).1;omega
 ·have:=(OB.lt ho k hk).1;omega
theorem zF {wc:World} {b gl:Nat} (hne:gl≠b) (hlt:gl<wc.heap.size) (x y z:Value) (k:Nat):(((wc.setCell ⟨b,0,none⟩ x).setCell ⟨b,1,none⟩ y).setCell ⟨b,2,none⟩ z).cell? ⟨gl,k,none⟩=wc.cell? ⟨gl,k,none⟩:=
 ((((Fr.refl (fun k=>k=b) wc).setCell (p:=⟨b,0,none⟩) (fun _=>rfl) x).setCell (p:=⟨b,1,none⟩) (fun _=>rfl) y).setCell (p:=⟨b,2,none⟩) (fun _=>rfl) z).cell (p:=⟨gl,k,none⟩) hlt hne
/-- The world behind the five stores. -/
def five (w:World) (gl:Nat) (G t v:Value):World:=((((w.setCell ⟨gl,1,none⟩ G).setCell ⟨gl,2,none⟩ t).setCell ⟨gl,3,none⟩ v).setCell ⟨gl,4,none⟩ (.slice none 0 0)).setCell ⟨gl,5,none⟩ (.int .i64 0)
theorem TA (h:rC w P gl g L tv rv xs) (v:Value) (G1 t:Nat) (hG:G1=L.gen+1) (ht:t=1-L.slot):
  Me (five w gl (.int .i64 (G1:Int)) (.int .i64 (t:Int)) v) (ext P w (five w gl (.int .i64 (G1:Int)) (.int .i64 (t:Int)) v)) gl g ⟨L.gen+1,1-L.slot,[]⟩∧Fr P w (five w gl (.int .i64 (G1:Int)) (.int .i64 (t:Int)) v):=by
 subst hG
 subst ht
 have hF:Fr (fun k=>k=gl) w (five w gl (.int .i64 ((L.gen+1:Nat):Int)) (.int .i64 ((1-L.slot:Nat):Int)) v):=
  ((((((Fr.refl (fun k=>k=gl) w).setCell (p:=⟨gl,1,none⟩) (fun _=>rfl) _).setCell (p:=⟨gl,2,none⟩) (fun _=>rfl) _).setCell (p:=⟨gl,3,none⟩) (fun _=>rfl) _).setCell (p:=⟨gl,4,none⟩) (fun _=>rfl) _).setCell (p:=⟨gl,5,none⟩) (fun _=>rfl) _)
 refine⟨⟨v,.slice none 0 0,[],?_,ah.nil _ _ _ _,.inl h.jv,fun k hk=>(by cases hk)⟩,hF.mono fun k _ e=>by subst e;exact h.jv⟩
 exact aI _ _ _ _ _ _ (aI _ _ _ _ _ _ (aI _ _ _ _ _ _ (aI _ _ _ _ _ _ (aI _ _ _ _ _ _ h.cells))))
theorem Fg (A:Option Addr) (n c:Nat) (text:List UInt8) (h:DW w0 w S g m gl L) (hE:EW w0 ea) (hb:RB w A n text) (hn:n≤1000000):
  Cl 80 #[pt gl,.slice A n c] w fun e w'=>e=.returned (jC ea (L.zW m text))∧DW w0 w' (ext S w w') g (L.zV m text) gl (L.cp m text)∧Fr S w w':=by
 obtain⟨s,hs⟩:∃s,s=L.slot:=⟨_,rfl⟩
 obtain⟨t,ht⟩:∃t,t=1-L.slot:=⟨_,rfl⟩
 have hst:s+t=1:=by have:=h.fit.slot;omega
 have hl:=hb.1
 have hfit:=h.fit.cp text
 have HD:=Hj h.q
 have HFt0:=Hj h.fit
 have HD0:Hid (gl≠w.heap.size):=Hj (by have:=iP w _ h.q.at.1;dsimp only at this;omega)
 have c1:=h.q.at.2.1
 have c2:w.cell? ⟨gl,2,none⟩=some (.int .i64 (s:Int)):=by rw[hs];exact h.q.at.2.2.1
 have c6:=h.q.at.2.2.2.2
 have c0:=h.q.at.1
 have g0:(L.gen:Int)≤2147483647:=by have:=h.fit.gen;omega
 have w1:IntKind.i64.wrap (1-(s:Int))=(t:Int):=by
  rw[cO _ (by omega)]
  omega
 obtain⟨G1,hG1⟩:∃G,G=L.gen+1:=⟨_,rfl⟩
 have w2:IntKind.i64.wrap ((L.gen:Int)+1)=(G1:Int):=by
  rw[cO _ (by omega)]
  omega
 have hsl:(s:Int)≤1:=by omega
 have Yy:Hid (∀W,Bw w W→Cl 94 #[.slice A n c] W fun e w'=>∃A' cap,e=.returned (.slice A' n cap)∧OB w' W.heap.size (.slice A' n cap) text∧Bw W w'):=Hj fun W hW=>(dU A n c text W (hb.keep (Kz hW)) (by omega)).mono fun e w' ⟨A',cap,h1,h2,h3⟩=>by
  rw[hb.1] at h1 h2
  exact⟨A',cap,h1,h2,h3⟩
 have d2:=(hE.d.keep (Kz h.q.bel)).full
 have HK:Hid (∀W,Bw w W→W.cell? ⟨gl,1,none⟩=some (.int .i64 (L.gen:Int))∧W.cell? ⟨gl,2,none⟩=some (.int .i64 (s:Int))∧W.cell? ⟨gl,0,none⟩=some (pt g)∧W.cell? ⟨25,0,none⟩=some (.iface 368 (.pointer (some (ea 26))))):=Hj fun W hW=>
  ⟨Kz hW _ _ c1,Kz hW _ _ c2,Kz hW _ _ c0,Kz hW _ _ d2⟩
 have Bd:Hid (Bw w w.drew):=Hj (bV (aj _ _))
 have Bz:=(aj w.heap.size w).alloc Kv (.cells #[.int .i64 0,.int .i64 0,.slice none 0 0] 171)
 have Ez:=Hj (aA w (.cells #[.int .i64 0,.int .i64 0,.slice none 0 0] 171))
 have Bzd:=Hj (bV Bz)
 have Ux:Hid (w.heap.size<(w.alloc (.cells #[.int .i64 0,.int .i64 0,.slice none 0 0] 171)).heap.size):=Hj (by show _<(w.heap.push _).size;rw[Array.size_push];omega)
 have nz:=HD0.out
 clear Bz
 have HE:=Hj hE
 have HTL:=Hj hb.1
 have HGB:Hid (G1<4294967296):=Hj (by omega)
 obtain⟨sz,hsz⟩:∃z,z=m.s t:=⟨_,rfl⟩
 have hszl:sz≤1048576:=by
  have:=h.fit.sz
  have:=h.fit.r1
  have:t=0∨t=1:=by omega
  rcases this with rfl | rfl<;>omega
 obtain⟨F,hF⟩:∃F,F=m.free:=⟨_,rfl⟩
 have HSi:Hid (∀W,DQ w0 W S g m gl L→Cl 102 #[pt g,.int .i64 (t:Int)] W fun e w'=>e=.returned (.int .i64 (sz:Int))∧W=w'):=Hj fun W hd=>by rw[hsz];exact Zu t (by omega) hd
 have HFr:Hid (∀W,DQ w0 W S g m gl L→Cl 137 #[pt g] W fun e w'=>e=.returned (.int .i64 F)∧W=w'):=Hj fun W hd=>by rw[hF];exact Tz hd
 have e3:(16:Int)+(n:Int)-(sz:Int)≤2000000:=by omega
 have e4:(-2000000:Int)≤(16:Int)+(n:Int)-(sz:Int):=by omega
 have e5:IntKind.i64.wrap (16+(n:Int)-(sz:Int))=16+(n:Int)-(sz:Int):=cO _ (by omega)
 have qY:Hid (16+(n:Int)-sz≤F→∀W A1 k1,DQ w0 W S g m gl L→RB W A1 n text→Off S A1→n≤k1→k1≤maxLen→Cl 139 #[pt gl,.agg #[.int .i64 (G1:Int),.int .i64 (t:Int),.slice A1 n k1]] W fun e w'=>e=.returned .nilIface∧DQ w0 w' (ext S W w') g ((m.put (1-L.slot) (16+text.length)).put 2 0) gl L∧Fr S W w'):=Hj fun hz W A1 k1 hd hr hA h1 h2=>by
  rw[hl,←ht]
  exact swap_any G1 t A1 n k1 text hd hE hr hA h1 h2 (by rw[←hsz,←hF];exact hz) HGB.out (by omega)
 have HGL:Hid (G1=L.gen+1):=Hj hG1
 have HTS:Hid (t=1-L.slot):=Hj ht
 have HUP:Hid (∀k,S k→k<w.heap.size):=Hj h.q.hi
 have hcase:(decide ((L.gen:Int)≥2147483647)=true∧decide (2147483647≤(L.gen:Int))=true∧L.zW m text=26∧L.zV m text=m∧L.cp m text=L)∨(decide ((L.gen:Int)≥2147483647)=false∧decide (2147483647≤(L.gen:Int))=false∧decide (16+(n:Int)-(sz:Int)>F)=true∧decide (F<16+(n:Int)-(sz:Int))=true∧L.zW m text=26∧L.zV m text=m∧L.cp m text=L)∨(decide ((L.gen:Int)≥2147483647)=false∧decide (2147483647≤(L.gen:Int))=false∧decide (16+(n:Int)-(sz:Int)>F)=false∧decide (F<16+(n:Int)-(sz:Int))=false∧L.zW m text=0∧L.zV m text=(m.put (1-L.slot) (16+text.length)).put 2 0∧L.cp m text=⟨L.gen+1,1-L.slot,[]⟩):=by
  by_cases hg:2147483647≤(L.gen:Int)
  ·refine .inl ⟨aZ hg,aZ hg,?_⟩
   rcases lT L m text with ⟨_,k⟩ | ⟨k0,_⟩
   ·exact k
   ·exact absurd (Or.inl (by omega)) k0
  ·refine .inr ?_
   have g1:¬2147483647≤L.gen:=by omega
   rcases lT L m text with ⟨k0,k⟩ | ⟨k0,k⟩<;>unfold LM.zC at k0<;>rw[←ht,←hsz,←hF,hl] at k0
   ·exact .inl ⟨aQ hg,aQ hg,aZ (k0.resolve_left g1),aZ (k0.resolve_left g1),k⟩
   ·exact .inr ⟨aQ hg,aQ hg,aQ (mt Or.inr k0),aQ (mt Or.inr k0),k⟩
 clear h hE hb hF hszl hsz hG1 ht hst hs hl
 rcases hcase with ⟨q1,q1',z1,z2,z3⟩ | ⟨q1,q1',q2,q2',z1,z2,z3⟩ | ⟨q1,q1',q2,q2',z1,z2,z3⟩<;>rw[z2,z3] at hfit<;>rw[z1,z2,z3]
 all_goals
  have HFt:=Hj hfit
  clear z1 z2 z3 hfit
 all_goals
  first
  | show Calls _ _ _ _ fun e w'=>e=.returned (.iface 368 (.pointer (some (ea 26))))∧_
  | show Calls _ _ _ _ fun e w'=>e=.returned .nilIface∧_
 all_goals
  go_enter Tryz.func80,Tryz.ntmps80
  go_wp2_with fail
  go_region_held3 (fun w'=>w'.cell? ⟨gl,1,none⟩=some (.int .i64 (L.gen:Int))∧w'.cell? ⟨gl,2,none⟩=some (.int .i64 (s:Int))) (first | exact⟨by assumption,by assumption⟩ | exact KS.out _ _ _ | go_keep)
   (first
    | (go_at_call 94;(with_reducible refine(Yy.out w.drew Bd.out).mono ?_);rintro e wc ⟨A1,k1,rfl,ho1,hb1⟩;have B1:Hid (Bw w wc):=Hj (Below.fZ hb1);obtain⟨x1,x2,x0,x3⟩:=HK.out wc B1.out;have O1:Hid (OB wc w.heap.size (.slice A1 n k1) text):=Hj ho1;have QZ:=Zv (G1:Int) (t:Int) B1.out O1.out;clear ho1 hb1)
    | (go_at_call 94;(with_reducible refine(Yy.out _ Bzd.out).mono ?_);rintro e wc ⟨A1,k1,rfl,ho1,hb1⟩;have B1:Hid (Bw w wc):=Hj (Bzd.out.trans (hb1.mono (Nat.le_of_lt Ux.out)));obtain⟨x1,x2,x0,x3⟩:=HK.out wc B1.out;have hrow:wc.heap[w.heap.size]?=_:=(hb1.block _ Ux.out).trans Ez.out;have m0:wc.cell? ⟨w.heap.size,0,none⟩=some (.int .i64 0):=Kq 0 hrow;have m1:wc.cell? ⟨w.heap.size,1,none⟩=some (.int .i64 0):=Kq 1 hrow;have m2:wc.cell? ⟨w.heap.size,2,none⟩=some (.slice none 0 0):=Kq 2 hrow;have f0:wc.frozen? ⟨w.heap.size,0,none⟩=false:=Kj hrow;have f1:wc.frozen? ⟨w.heap.size,1,none⟩=false:=Kj hrow;have f2:wc.frozen? ⟨w.heap.size,2,none⟩=false:=Kj hrow;have KS:Hid (∀x y z,(((wc.setCell ⟨w.heap.size,0,none⟩ x).setCell ⟨w.heap.size,1,none⟩ y).setCell ⟨w.heap.size,2,none⟩ z).cell? ⟨gl,1,none⟩=some (.int .i64 (L.gen:Int))∧(((wc.setCell ⟨w.heap.size,0,none⟩ x).setCell ⟨w.heap.size,1,none⟩ y).setCell ⟨w.heap.size,2,none⟩ z).cell? ⟨gl,2,none⟩=some (.int .i64 (s:Int))):=Hj fun x y z=>⟨(zF HD0.out (iP _ _ x1) x y z 1).trans x1,(zF HD0.out (iP _ _ x1) x y z 2).trans x2⟩;have QZ:=Zw (G1:Int) (t:Int) B1.out hrow (show OB wc (w.alloc (.cells #[.int .i64 0,.int .i64 0,.slice none 0 0] 171)).heap.size (.slice A1 n k1) text from ho1) Ux.out;clear ho1 hb1 hrow)
    | fail)
  all_goals
   obtain⟨q,wz,hq,hwz,hQ⟩:=QZ
   first
    | rw[←hwz,←hq]
    | rw[←hq,←hwz]
   clear hq hwz
  all_goals
   obtain⟨z1,z2,z0,z3⟩:=HK.out wz hQ.bel
   have BQ:=Hj hQ.bel
   have OQ:=Hj hQ.own
   have HQr:=Hj hQ.row
   have HQu:=Hj hQ.up
   have y0:wz.cell? ⟨q,0,none⟩=some (.int .i64 (G1:Int)):=Kq 0 hQ.row
   have y1:wz.cell? ⟨q,1,none⟩=some (.int .i64 (t:Int)):=Kq 1 hQ.row
   have y2:wz.cell? ⟨q,2,none⟩=some (.slice A1 n k1):=Kq 2 hQ.row
   have HKZ:Hid (∀W,Bw wz W→W.cell? ⟨q,0,none⟩=some (.int .i64 (G1:Int))∧W.cell? ⟨q,1,none⟩=some (.int .i64 (t:Int))∧W.cell? ⟨q,2,none⟩=some (.slice A1 n k1)):=Hj fun W hW=>⟨Kz hW _ _ y0,Kz hW _ _ y1,Kz hW _ _ y2⟩
   obtain⟨hnk,hkm,hrA⟩:n≤k1∧k1≤maxLen∧RB wz A1 n text:=by
    obtain⟨A2,c2',e2',i1,i2,i3⟩:=hQ.own.form
    injection e2' with e3 e4 e5
    subst e3
    subst e5
    rw[HTL.out] at i1 i3
    exact⟨i1,i2,i3⟩
   have HRA:=Hj hrA
   have HNK:=Hj (aB hnk hkm)
   have HSB:Hid (∀W,Bw wz W→Cl 136 #[.agg #[.int .i64 (G1:Int),.int .i64 (t:Int),.slice A1 n k1]] W fun e w'=>∃A' cap,e=.returned (.slice A' (16+n) cap)∧Bw W w'):=Hj fun W hW=>
    (zu G1 t A1 n k1 text W (HRA.out.keep (Kz hW)) HNK.out.1 HNK.out.2 HGB.out (by omega) (HE.out.sha.keep (Kz (HD.out.bel.trans (BQ.out.trans (hW.mono BQ.out.size) |>.mono HD.out.bel.size))))).mono fun e w' ⟨v,h1,h2,h3⟩=>by
     obtain⟨A',cap,rfl,_,_,h6⟩:=h2.form
     rw[o8,HTL.out] at h1
     exact⟨A',cap,h1,h3⟩
   have Bzz:Hid (Bw wz wz.drew):=Hj (bV (aj _ _))
   clear hQ x1 x2 x0 x3 c1 c2 c0 d2 hrA hnk hkm z2
   go_wp2_with fail
   first
   | (refine wp_region_quiet_lit (by kernel_rfl) (by kernel_rfl) ?_
      repeat (any_goals (first | go_big_quiet_step (fail) | quiet_step (fail)))
      refine wpQuiet_nil ?_
      intro _ hw'
      obtain⟨nq,hw''⟩:=hw'
      subst hw''
      have B02:=Hj (below_drewN BQ.out nq))
   | (go_region_held3 (fun w'=>w'.cell? ⟨gl,1,none⟩=some (.int .i64 (L.gen:Int))∧w'.cell? ⟨gl,0,none⟩=some (pt g)∧w'.cell? ⟨q,0,none⟩=some (.int .i64 (G1:Int))∧w'.cell? ⟨q,1,none⟩=some (.int .i64 (t:Int))∧w'.cell? ⟨q,2,none⟩=some (.slice A1 n k1)) (first | exact⟨by assumption,by assumption,by assumption,by assumption,by assumption⟩ | go_keep)
    (first
     | (go_at_call 136;((refine(HSB.out wz.drew Bzz.out).mono ?_);rintro e w2 ⟨A2,k2,rfl,hb2⟩;have B2:Hid (Bw wz w2):=Hj (Below.fZ hb2);have B02:Hid (Bw w w2):=Hj (BQ.out.trans (B2.out.mono BQ.out.size));obtain⟨u1,u2,u0,u3⟩:=HK.out w2 B02.out;obtain⟨v0,v1,v2⟩:=HKZ.out w2 B2.out;have D2:=Hj (HD.out.below B02.out);clear hb2 u2))
     | (go_at_call 102;((refine(HSi.out w2 D2.out).mono ?_);rintro e w3 ⟨rfl,rfl⟩))
     | (go_at_call 137;((refine(HFr.out w2 D2.out).mono ?_);rintro e w3 ⟨rfl,rfl⟩))
     | fail))
  all_goals
   first
   | (go_wp2
      go_ret
      have Z:=HD.out.made B02.out
      exact⟨rfl,⟨Z.1,HFt0.out⟩,Z.2⟩)
   | (have OF:Hid (Off S A1):=Hj fun p e hs=>by
       subst e
       have:=(OB.lt OQ.out p.block (by rfl)).1
       have:=HUP.out _ hs
       omega
      have Lr:Hid (16+(n:Int)-sz≤F):=Hj (by have:=vX q2';omega)
      go_wp2_with (first
       | (go_at_call 139;((refine(qY.out Lr.out w2 A1 k1 D2.out (HRA.out.keep (Kz B2.out)) OF.out HNK.out.1 HNK.out.2).mono ?_);rintro e w3 ⟨rfl,hd3,hf3⟩;have D3:=Hj hd3;have F3:=Hj hf3;clear hd3 hf3))
       | (go_at_call 138;((refine(CU gl w3).mono ?_);rintro e w4 ⟨rfl,rfl⟩;have hq2:q<w2.heap.size:=dP (Cq HQr.out) B2.out.size;have hqS:¬S q:=fun e=>absurd (HUP.out _ e) (Nat.not_lt_of_le HQu.out);have t0:w3.cell? ⟨q,0,none⟩=some (.int .i64 (G1:Int)):=(F3.out.cell (p:=⟨q,0,none⟩) hq2 hqS).trans v0;have t1:w3.cell? ⟨q,1,none⟩=some (.int .i64 (t:Int)):=(F3.out.cell (p:=⟨q,1,none⟩) hq2 hqS).trans v1;have t2:w3.cell? ⟨q,2,none⟩=some (.slice A1 n k1):=(F3.out.cell (p:=⟨q,2,none⟩) hq2 hqS).trans v2;obtain⟨P,tv,rv,ws,hV,hPS,hU⟩:=D3.out.yR;have HV:=Hj hV;have HU:=Hj hU;have p1:w3.cell? ⟨gl,1,none⟩=some (.int .i64 (L.gen:Int)):=hV.cell 1;have p2:w3.cell? ⟨gl,2,none⟩=some (.int .i64 (L.slot:Int)):=hV.cell 2;have p3:w3.cell? ⟨gl,3,none⟩=some tv:=hV.cell 3;have p4:w3.cell? ⟨gl,4,none⟩=some rv:=hV.cell 4;have p5:w3.cell? ⟨gl,5,none⟩=some (.int .i64 (dW L.ns:Int)):=hV.cell 5;have r1:=hV.free 1;have r2:=hV.free 2;have r3:=hV.free 3;have r4:=hV.free 4;have r5:=hV.free 5;clear hV hPS hU hq2 hqS))
       | fail)
      go_ret
      have Y:=TA HV.out (.slice A1 n k1) G1 t HGL.out HTS.out
      have Z:=DQ.behind HD.out.bel.size B02.out (DQ.then F3.out (HU.out _ _ Y.1 Y.2))
      exact⟨rfl,⟨Z.1,HFt.out⟩,Z.2⟩)
end
end Go.Proofs.YtdhbpajamlfacaaGreatDoor
