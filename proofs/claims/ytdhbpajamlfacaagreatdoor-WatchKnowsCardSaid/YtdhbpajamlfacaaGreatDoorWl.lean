/- Layer 21 (watch): alive. -/
import Derived.Test.YtdhbpajamlfacaaGreatDoorWo
import Derived.Test.YtdhbpajamlfacaaGreatDoorRX
namespace Go.Proofs.YtdhbpajamlfacaaGreatDoor
open Go.RowKit SO
section
variable {m m':DM} {L L':LM} {M M':aY} {s:Nat→Nat} {G:LG} {e:Bool×aH} {n E:Nat}
/-- A change, where there is room. -/
theorem uh.FX (h:uh m L s G) (hc:M.Can e) (hf:20+((fQ e).length:Int)≤m.room-s 0-s 1-s 2) (hC:Ir M L m e n E M' L' m'):
  n=e.2.ver∧E=0∧M'=M.app e∧(∃G',uh m' L' (upd s 2 (s 2+(20+(fQ e).length))) G')∧m'.room=m.room:=by
 have hl:(fQ e).length≤16384:=Cz (lI hc.ok hc.most) (by omega)
 have hv:=hc.ver
 have Vq:=hc.most
 rcases h.app (fQ e) hl with ⟨_,h1,_⟩ | ⟨h0,_,hL,hr⟩
 ·omega
 ·rcases hC with ⟨hr,_⟩ | ⟨_,⟨_,e1,e2,e3,e4,e5⟩ | ⟨hne,_⟩ | ⟨xJ,_⟩⟩
  ·omega
  ·exact ⟨e1,e2,e3,⟨_,by rw[e4,e5];exact hL⟩,by rw[e5];exact hr⟩
  ·exact absurd h0 hne
  ·rw [h0] at xJ;cases xJ
end
def va:OV:=⟨1,⟨#[]⟩,⟨#[97]⟩,0,none,0,0⟩
def vb:OV:=⟨1,⟨#[]⟩,⟨#[98]⟩,0,none,0,0⟩
def oa:aH:=dW st0 va []
def sa:aY:=st0.app (false,oa)
def ob:aH:=dW sa vb []
def sb:aY:=sa.app (false,ob)
theorem ask_a:bG va=0:=by decide+kernel
theorem ask_b:bG vb=0:=by decide+kernel
theorem cre_a:dD st0 va=0:=by decide+kernel
theorem cre_b:dD sa vb=0:=by decide+kernel
theorem XF:((sb.evs.drop (0-sb.base)).foldl (iU false 1 ⟨#[]⟩ false) []).length=2:=by decide+kernel
theorem VI:(fQ (false,oa)).length≤56∧st0.Can (false,oa):=by
 have hc:st0.Can (false,oa):=(jl ask_a rfl (by decide)).1
 exact⟨zI (e:=(false,oa)) hc.ok hc.most,hc⟩
theorem VJ:(fQ (false,ob)).length≤56∧sa.Can (false,ob):=by
 have hc:sa.Can (false,ob):=(jl (M:=sa) ask_b rfl (by decide)).1
 exact⟨zI (e:=(false,ob)) hc.ok hc.most,hc⟩
set_option maxHeartbeats 4000000 in
set_option maxRecDepth 100000 in
theorem uJ (w:World) {ea:Nat→Addr} (hE:EW w ea) (he:Errs w ea):Calls Tryz.prog 6 #[] w fun e w'=>e=.returned (.bool true)∧Below w.heap.size w w':=by
 have Ux:=Hj (Ie 1000 (by decide) (by decide) w)
 have hk0:=dH.start 1000 (by decide) (by decide)
 have hl0:=lnk0 1000 (by decide) (by decide)
 obtain⟨m0,hm0⟩:∃m:DM,m=⟨1000,fun _=>[],[],false,0,false⟩:=⟨_,rfl⟩
 obtain⟨L0,hL0⟩:∃L:LM,L=⟨0,1,[],[],false⟩:=⟨_,rfl⟩
 have hr0:m0.room=1000:=by rw[hm0]
 rw[←hm0,←hL0] at Ux hk0 hl0
 have HA:Hid (∀W Q g gs,SW w W Q g m0 gs L0 st0→Calls Tryz.prog 23 #[.pointer (some ⟨gs,0,none⟩),.agg #[.int .i64 1,.string ⟨#[]⟩,.string ⟨#[97]⟩,.int .i64 0,.slice none 0 0]] W fun e w'=>∃(n:Nat) (m1:DM) (L1:LM) (x:Nat) (G:LG),e=.returned (.tuple #[.int .i64 (n:Int),.nilIface])∧SW w w' (ext Q W w') g m1 gs L1 sa∧Fr Q W w'∧dH m1 L1 sa 1∧uh m1 L1 (upd (fun _=>0) 2 x) G∧x≤76∧m1.room=1000):=Hj fun W Q g gs hs=>by
  obtain⟨f1,f2,f3,f4,f5,f6,-⟩:=hk0.facts (by decide)
  refine(pq va [] hs he hE f1 f2 f3 (RB.nil _ _) (by decide) (by decide) (by decide) f4 f5 f6).mono ?_
  rintro e w' ⟨n,E,M',L',m',rfl,hp,hsw,hf⟩
  have hk1:=(hk0.cre (v:=va) (by decide) rfl hp).1.1
  rw[cre_a] at hp
  rcases hp with ⟨h,_⟩ | ⟨-,hC⟩
  ·exact absurd rfl h
  ·have hla:=VI.1
   obtain⟨e1,e2,e3,⟨G,h1⟩,h2⟩:=hl0.FX VI.2 (by have:(fQ (false,oa)).length≤56:=hla;rw[hr0];omega) hC
   subst e2
   subst e3
   exact⟨n,m',L',_,G,rfl,hsw,hf,hk1,h1,by have:(fQ (false,dW st0 va [])).length≤56:=hla;omega,h2.trans hr0⟩
 have HB:Hid (∀W Q g gs m1 L1 x G,SW w W Q g m1 gs L1 sa→dH m1 L1 sa 1→uh m1 L1 (upd (fun _=>0) 2 x) G→x≤76→m1.room=1000→Calls Tryz.prog 23 #[.pointer (some ⟨gs,0,none⟩),.agg #[.int .i64 1,.string ⟨#[]⟩,.string ⟨#[98]⟩,.int .i64 0,.slice none 0 0]] W fun e w'=>∃(n:Nat) (m2:DM) (L2:LM),e=.returned (.tuple #[.int .i64 (n:Int),.nilIface])∧SW w w' (ext Q W w') g m2 gs L2 sb∧Fr Q W w'):=Hj fun W Q g gs m1 L1 x G hs hk1 hl1 hx hr1=>by
  obtain⟨f1,f2,f3,f4,f5,f6,-⟩:=hk1.facts (by decide)
  refine(pq vb [] hs he hE f1 f2 f3 (RB.nil _ _) (by decide) (by decide) (by decide) f4 f5 f6).mono ?_
  rintro e w' ⟨n,E,M',L',m',rfl,hp,hsw,hf⟩
  rw[cre_b] at hp
  rcases hp with ⟨h,_⟩ | ⟨-,hC⟩
  ·exact absurd rfl h
  ·have hlb:=VJ.1
   obtain⟨e1,e2,e3,-,-⟩:=hl1.FX VJ.2 (by have:(fQ (false,ob)).length≤56:=hlb;rw[hr1,upd_ne _ _ (by decide),upd_ne _ _ (by decide),nK];omega) hC
   subst e2
   subst e3
   exact⟨n,m',L',rfl,hsw,hf⟩
 have HN:=Hj (newB false)
 have Sj:Hid (∀W Q g gs gw gt m2 L2,SW w W Q g m2 gs L2 sb→fA W gw gt 1 ⟨#[]⟩ false 0→W.heap[gt]?=some (.cells #[.pointer none] 146 (0,0))→Calls Tryz.prog 11 #[.pointer (some ⟨gw,0,none⟩),.pointer (some ⟨gs,0,none⟩)] W fun e w'=>∃an A c A2 n2 c2 eX,e=.returned (.tuple #[.agg #[.bool an,.slice A 2 c,.slice A2 n2 c2],.nilIface])∧fA w' gw eX 1 ⟨#[]⟩ false 2∧Fr (fun k=>k=gw∨k=gt) W w'):=Hj fun W Q g gs gw gt m2 L2 hs hw hg=>by
  refine(rD (P:=fun _=>True) hs hw (KT.nil hg) (Nat.zero_le _) (fun h=>absurd h (by decide)) (by decide) (by decide) (by decide+kernel) (.inl rfl) (by decide) (by decide+kernel)).mono ?_
  rintro e w' ⟨an,pv,dv,eX,K',lp,ld,rfl,h1,h1',h2,-,h3,-,h4⟩
  obtain⟨A,c,rfl,-,-⟩:=h1.form
  obtain⟨A2,c2,rfl,-,-⟩:=h1'.form
  rcases h4 with ⟨h5,-⟩ | ⟨-,-,-,h5,-⟩
  ·exact absurd h5 (by decide)
  ·have:lp.length=2:=by rw[h5];exact XF
   rw[this]
   exact⟨an,A,c,A2,_,c2,eX,rfl,h2,h3⟩
 clear hk0 hl0 hm0 hL0 hr0 hE he
 go_enter Tryz.func6,Tryz.ntmps6
 go_wp2_with (first
  | (go_at_call 8;((with_reducible refine Ux.out.mono ?_);rintro e w1 ⟨gs,gd,g,Qs,Qd,rfl,hs1,-,-,hb1⟩;have S1:=Hj hs1;have B1:=Hj hb1;clear hs1 hb1))
  | (go_at_call 9;((with_reducible refine(HN.out w1).mono ?_);rintro e w2 ⟨gw,gt,rfl,h1,h2,h3,h4,h5⟩;have W2:=Hj (And.intro h1 (And.intro h2 (And.intro h3 (And.intro h4 h5))));have S2:=Hj (S1.out.below h5);clear h1 h2 h3 h4 h5))
  | (go_at_call 23;(first
    | ((with_reducible refine(HA.out w2 Qs g gs S2.out).mono ?_);rintro e w3 ⟨n1,m1,L1,x1,G1,rfl,h1,h2,h3⟩;have S3:=Hj h1;have F3:=Hj h2;have K3:=Hj h3;clear h1 h2 h3)
    | (((with_reducible refine(HB.out w3 _ g gs m1 L1 x1 G1 S3.out K3.out.1 K3.out.2.1 K3.out.2.2.1 K3.out.2.2.2).mono ?_);rintro e w4 ⟨n2,m2,L2,rfl,h1,h2⟩;have S4:=Hj h1;have F4:=Hj h2;clear h1 h2))))
  | (go_at_call 11;obtain⟨h1,h2,h3,h4,h5⟩:=W2.out;have q1:∀k,w1.heap.size≤k→¬Qs k:=(fun k hk hq=>by have:=S1.out.hi k hq;omega);have r3:=(F3.out.block gw (Cq h1) (q1 gw h3)).trans h1;have t3:=(F3.out.block gt (Cq h2) (q1 gt h4)).trans h2;have r4:fA w4 gw gt 1 ⟨#[]⟩ false 0:=(F4.out.block gw (Cq r3) (fun e=>e.elim (q1 gw h3) fun e=>by have:=(Cq h1);omega)).trans r3;have t4:=(F4.out.block gt (Cq t3) (fun e=>e.elim (q1 gt h4) fun e=>by have:=(Cq h2);omega)).trans t3;((with_reducible refine(Sj.out w4 _ g gs gw gt m2 L2 S4.out r4 t4).mono ?_);rintro e w5 ⟨an,A,c,A2,nd,c2,eX,rfl,k1,k2⟩;have H5:=Hj (And.intro k1 k2);clear k1 k2 r3 t3 r4 t4 q1 h1 h2 h3 h4 h5))
  | (go_at_call 14;obtain⟨w6,hw6⟩:∃W,W=w5.alloc (.cells #[.bool an,.slice A 2 c,.slice A2 nd c2] 43):=⟨_,rfl⟩;rw[←hw6];have b6:Below w5.heap.size w5 w6:=(by rw[hw6];exact(Below.refl _ w5).alloc Kv _);have B6:=Hj b6;have hw7:fA w6 gw eX 1 ⟨#[]⟩ false 2:=(b6.block gw (Cq H5.out.1)).trans H5.out.1;((with_reducible refine(Cc (cur:=2) hw7).mono ?_);rintro e w7 ⟨rfl,rfl⟩))
  | fail)
 go_ret
 refine⟨rfl,?_⟩
 have h4:=S4.out.bel
 have h5:=h4.trans (H5.out.2.below h4.size fun k hk e=>by
  obtain⟨-,-,h3,h4',-⟩:=W2.out
  have:=B1.out.size
  rcases e with rfl | rfl<;>omega)
 exact h5.trans (((Below.refl _ w5).alloc Kv _).mono h5.size)
structure iV where
 kind:Int
 o:OV
 bs:List UInt8
instance:Inhabited iV:=⟨⟨0,⟨0,⟨#[]⟩,⟨#[]⟩,0,none,0,0⟩,[]⟩⟩
/-- Six cells are an act. -/
def AC (w:World) (b off:Nat) (a:iV):Prop:=
 w.cell? ⟨b,off,none⟩=some (.int .i64 a.kind)∧w.cell? ⟨b,off+1,none⟩=some (.int .i64 a.o.kind)∧w.cell? ⟨b,off+1+1,none⟩=some (.string a.o.space)∧w.cell? ⟨b,off+1+2,none⟩=some (.string a.o.name)∧w.cell? ⟨b,off+1+3,none⟩=some (.int .i64 a.o.ver)∧w.cell? ⟨b,off+1+4,none⟩=some (.slice a.o.A a.o.n a.o.c)
theorem AC.keep {w w':World} {b off:Nat} {a:iV} (h:AC w b off a) (k:Keeps w w'):AC w' b off a:=
 ⟨k _ _ h.1,k _ _ h.2.1,k _ _ h.2.2.1,k _ _ h.2.2.2.1,k _ _ h.2.2.2.2.1,k _ _ h.2.2.2.2.2⟩
/-- What stands of an act. -/
structure zQ (w:World) (a:iV):Prop where
 rb:RB w a.o.A a.o.n a.bs
 nc:a.o.n≤a.o.c
 cm:a.o.c≤maxLen
 kind:a.o.kind≤9223372036854775807
theorem zQ.keep {w w':World} {a:iV} (h:zQ w a) (k:Keeps w w'):zQ w' a:=⟨h.rb.keep k,h.nc,h.cm,h.kind⟩
/-- The slice header (A, n) reads as the acts l. -/
def kG (w:World) (A:Option Addr) (n:Nat) (l:List iV):Prop:=
 l.length=n∧(∀a∈l,zQ w a)∧(0<n→∃b o,A=some ⟨b,o,none⟩∧∀k,k<n→AC w b (o+k*6) (l.getD k default))
theorem kG.keep {w w':World} {A:Option Addr} {n:Nat} {l:List iV} (h:kG w A n l) (k:Keeps w w'):kG w' A n l:=
 ⟨h.1,fun a ha=>(h.2.1 a ha).keep k,fun h0=>let ⟨b,o,e,hc⟩:=h.2.2 h0;⟨b,o,e,fun i hi=>(hc i hi).keep k⟩⟩
def iw (a:iV):Bool:=decide (300<a.o.n)||(decide (100<a.o.name.size)||decide (100<a.o.space.size))
def kH (l:List iV):Bool:=decide (40<l.length)||l.any iw
set_option maxHeartbeats 2000000 in
theorem xG (A:Option Addr) (n c:Nat) (l:List iV) (w:World) (hl:kG w A n l) (hn:n≤maxLen):
  Calls Tryz.prog 7 #[.slice A n c] w fun e w'=>e=.returned (.bool (kH l))∧Below w.heap.size w w':=by
 unfold maxLen at hn
 have Hl:=Hj hl
 have Hll:=Hj hl.1
 clear hl
 by_cases h1:40<n
 ·have d1:decide (40<(n:Int))=true:=decide_eq_true (by omega)
  have HR:Hid (kH l=true):=Hj (by unfold kH;rw[Hll.out,decide_eq_true h1];rfl)
  rw[HR.out]
  go_enter Tryz.func7,Tryz.ntmps7
  go_wp2
  go_ret
  exact⟨rfl,Below.refl _ _⟩
 have d1:decide (40<(n:Int))=false:=decide_eq_false (by omega)
 have HR:Hid (kH l=l.any iw):=Hj (by unfold kH;rw[Hll.out,decide_eq_false h1];rfl)
 have Ij:n≤40:=by omega
 have HN:=Hj Ij
 rw[HR.out]
 clear h1 hn Ij
 by_cases hz:n=0
 ·subst hz
  have HE:Hid (l.any iw=false):=Hj (by rw[List.eq_nil_of_length_eq_zero Hll.out];rfl)
  go_enter Tryz.func7,Tryz.ntmps7
  go_wp2
  go_loopg [10] 1 (fun gk s10 wr=>s10=.int .i64 0∧wr=w)
  case atStart=>exact⟨rfl,rfl⟩
  case round=>
   obtain⟨rfl,hw⟩:=hrel
   subst hw
   go_wp2
   go_ret
   exact⟨aQ HE.out.symm,Below.refl _ _⟩
 obtain⟨b,o,rfl,hb⟩:=Hl.out.2.2 (Nat.pos_of_ne_zero hz)
 have HBc:=Hj hb
 clear hb hz
 go_enter Tryz.func7,Tryz.ntmps7
 go_wp2
 go_loopg [10] n (fun gk s10 wr=>∃k:Nat,s10=.int .i64 (k:Int)∧k+gk=n∧(l.take k).any iw=false∧Below w.heap.size w wr)
 case atStart=>exact⟨0,rfl,by omega,by simp,Below.refl _ _⟩
 case round=>
  obtain⟨k,rfl,hk,hall,hbel⟩:=hrel
  have HK:=Hj hk
  have HA:=Hj hall
  have HB:=Hj hbel
  by_cases hlt:k<n
  ·obtain ⟨c0,c1,c2,c3,c4,c5⟩:=(HBc.out k hlt).keep (Kz hbel)
   have HS:=Hj (List.take_succ_eq_append_getElem (l:=l) (i:=k) (by rw[Hll.out];exact hlt))
   have HM:=Hj (List.getElem_mem (l:=l) (n:=k) (by rw[Hll.out];exact hlt))
   rw[List.getD_eq_getElem?_getD,List.getElem?_eq_getElem (by rw[Hll.out];exact hlt)] at c0 c1 c2 c3 c4 c5
   simp only[Option.getD_some] at c0 c1 c2 c3 c4 c5
   generalize l[k]'(by rw[Hll.out];exact hlt)=x at*
   have k0:(0:Int)≤(k:Int):=by omega
   have k1:(k:Int)<(n:Int):=by omega
   have k2:(k:Int)≤40:=by have:=HN.out;omega
   have HB1:=Hj (HB.out.alloc HB.out.size (.cells #[.int .i64 x.kind,.int .i64 x.o.kind,.string x.o.space,.string x.o.name,.int .i64 x.o.ver,.slice x.o.A x.o.n x.o.c] 39))
   have CP:=Hj hlt
   cases hq:iw x with
   | true=>
    have HT:Hid (l.any iw=true):=Hj (List.any_eq_true.2 ⟨x,HM.out,hq⟩)
    clear hk hall hbel hlt
    unfold iw at hq
    by_cases q1:300<x.o.n
    ·have q1i:(300:Int)<(x.o.n:Int):=by omega
     clear hq
     go_wp2
     go_ret
     exact⟨aQ HT.out.symm,HB1.out⟩
    ·rw [decide_eq_false q1,Bool.false_or] at hq
     have q1i:¬(300:Int)<(x.o.n:Int):=by omega
     by_cases q2:100<x.o.name.size
     ·have q2i:(100:Int)<(x.o.name.size:Int):=by omega
      clear hq
      go_wp2
      go_ret
      exact⟨aQ HT.out.symm,HB1.out⟩
     ·rw [decide_eq_false q2,Bool.false_or] at hq
      have q2i:¬(100:Int)<(x.o.name.size:Int):=by omega
      have q3:=of_decide_eq_true hq
      have q3i:(100:Int)<(x.o.space.size:Int):=by omega
      clear hq
      go_wp2
      go_ret
      exact⟨aQ HT.out.symm,HB1.out⟩
   | false=>
    have Hq:=Hj hq
    unfold iw at hq
    rw[Bool.or_eq_false_iff,Bool.or_eq_false_iff] at hq
    have q1:=of_decide_eq_false hq.1
    have q2:=of_decide_eq_false hq.2.1
    have q3:=of_decide_eq_false hq.2.2
    have q1i:¬(300:Int)<(x.o.n:Int):=by omega
    have q2i:¬(100:Int)<(x.o.name.size:Int):=by omega
    have q3i:¬(100:Int)<(x.o.space.size:Int):=by omega
    clear hk hall hbel hlt hq
    go_wp2
    go_roundg (gk-1)
    case measure=>have:=HK.out;have:=CP.out;omega
    case rel=>exact⟨k+1,by go_num,by have:=HK.out;have:=CP.out;omega,by rw[HS.out,List.any_append,HA.out];simpa using Hq.out,HB1.out⟩
  ·obtain hkn:k=n:=by omega
   have HE:Hid (l.any iw=false):=Hj (by have:=HA.out;rwa [List.take_of_length_le (by rw[Hll.out];omega)] at this)
   have q5:¬(k:Int)<(n:Int):=by omega
   clear hk hall hbel hlt hkn
   go_wp2
   go_ret
   exact⟨aQ HE.out.symm,HB.out⟩
open Go.ChangeShapes Go.WideShapes Go.ChangeAt Go.Deep
theorem list6 {α:Type} {l:List α} (h:l.length=6):∃a b c d e f,l=[a,b,c,d,e,f]:=by
 match l,h with
 | [a,b,c,d,e,f],_=>exact⟨_,_,_,_,_,_,rfl⟩
theorem BZ:fieldsOf Tryz.prog 39=some [(3,0),(37,1)]:=by kernel_rfl
theorem Cb:fieldsOf Tryz.prog 37=some [(3,0),(9,1),(9,2),(3,3),(35,4)]:=by kernel_rfl
theorem uF:Tryz.prog.cellsOf 39=6:=by kernel_rfl
theorem uG:Tryz.prog.cellsOf 37=5:=by kernel_rfl
theorem nX:Tryz.prog.cellsOf 3=1:=by kernel_rfl
theorem uH:Tryz.prog.cellsOf 9=1:=by kernel_rfl
section
variable {H:Type} {enc:TypeId×Value→H} {W:World} {held:Bool}
theorem Ik {fuel:Nat} {cs:List Value} {x:DataW H×List MemPlace} (h:DataW.trod enc Tryz.prog W 0 (fun _=>true) held fuel 37 cs=some x):
  ∃(v:OV) (bs:List UInt8),cs=[.int .i64 v.kind,.string v.space,.string v.name,.int .i64 v.ver,.slice v.A v.n v.c]∧RB W v.A v.n bs∧v.n≤v.c∧v.c≤maxLen∧v.kind≤9223372036854775807:=by
 obtain⟨hl,n,hf⟩:=l7 Cb h
 rw[uG] at hl
 obtain⟨c0,c1,c2,c3,c4,rfl⟩:=Z7 hl
 obtain⟨y0,t0⟩:=hf 0 _ _ rfl
 obtain⟨y1,t1⟩:=hf 1 _ _ rfl
 obtain⟨y2,t2⟩:=hf 2 _ _ rfl
 obtain⟨y3,t3⟩:=hf 3 _ _ rfl
 obtain⟨y4,t4⟩:=hf 4 _ _ rfl
 rw[nX] at t0 t3
 rw[uH] at t1 t2
 rw[DJ] at t4
 obtain⟨k0,e0,_,hw⟩:=DataW.trod_int Tryz.underlying3 t0
 obtain⟨k1,e1,_,_⟩:=DataW.trod_string Tryz.underlying9 t1
 obtain⟨k2,e2,_,_⟩:=DataW.trod_string Tryz.underlying9 t2
 obtain⟨k3,e3,_,_⟩:=DataW.trod_int Tryz.underlying3 t3
 obtain⟨l,A,c,e4,h1,h2,h3⟩:=RY (show DataW.trod enc Tryz.prog W 0 (fun _=>true) held n 35 [c4]=some y4 from t4)
 injection (show [c0]=_ from e0) with e0 _
 injection (show [c1]=_ from e1) with e1 _
 injection (show [c2]=_ from e2) with e2 _
 injection (show [c3]=_ from e3) with e3 _
 simp[Lit.wf,IntKind.min,IntKind.max,IntKind.signed,IntKind.bits] at hw
 refine⟨⟨k0,k1,k2,k3,A,l.length,c⟩,l,?_,h3,h1,h2,by dsimp only;omega⟩
 rw[e0,e1,e2,e3,e4]
/-- An act's six cells, read. -/
theorem Md {fuel:Nat} {cs:List Value} {x:DataW H×List MemPlace} (h:DataW.trod enc Tryz.prog W 0 (fun _=>true) held fuel 39 cs=some x):
  ∃a:iV,cs=[.int .i64 a.kind,.int .i64 a.o.kind,.string a.o.space,.string a.o.name,.int .i64 a.o.ver,.slice a.o.A a.o.n a.o.c]∧zQ W a:=by
 obtain⟨hl,n,hf⟩:=l7 BZ h
 rw[uF] at hl
 obtain⟨c0,c1,c2,c3,c4,c5,rfl⟩:=list6 hl
 obtain⟨y0,t0⟩:=hf 0 _ _ rfl
 obtain⟨y1,t1⟩:=hf 1 _ _ rfl
 rw[nX] at t0
 rw[uG] at t1
 obtain⟨k0,e0,_,_⟩:=DataW.trod_int Tryz.underlying3 t0
 obtain⟨v,bs,e4,h1,h2,h3,h4⟩:=Ik (show DataW.trod enc Tryz.prog W 0 (fun _=>true) held n 37 [c1,c2,c3,c4,c5]=some y1 from t1)
 injection (show [c0]=_ from e0) with e0 _
 refine⟨⟨k0,v,bs⟩,?_,⟨h1,h2,h3,h4⟩⟩
 rw[e0]
 exact congrArg (fun l=>[Value.int .i64 k0]++l) e4
theorem uI {fuel:Nat} {v:Value} {x:DataW H×List MemPlace} (h:DataW.trod enc Tryz.prog W 0 (fun _=>true) held fuel 22 [v]=some x):
  ∃(A:Option Addr) (n c:Nat) (l:List iV),v=.slice A n c∧kG W A n l∧n≤c∧c≤maxLen:=by
 rcases open_slice Tryz.underlying22 h with ⟨e0,_⟩ | ⟨a,len,cap,m,n,D,Pl,e0,hb,hl,hm,hmm,_,hx⟩
 ·injection e0 with e0 _
  exact⟨none,0,0,[],e0,⟨rfl,by simp,fun h=>absurd h (by omega)⟩,Nat.le_refl _,by unfold maxLen;omega⟩
 injection e0 with e0 _
 subst e0
 have each:∀i,i<len→∃x:iV,zQ W x∧∀j,j<6→W.cell? (a.add (i*6+j))=some ([Value.int .i64 x.kind,.int .i64 x.o.kind,.string x.o.space,.string x.o.name,.int .i64 x.o.ver,.slice x.o.A x.o.n x.o.c].getD j undef):=by
  intro i hi
  obtain⟨cs,h2,h3⟩:=hx i (by rw[hmm];split<;>omega)
  rw[uF] at h2
  obtain⟨_,hlen,hcell⟩:=World.cells?_some h2
  obtain⟨x,e,hok⟩:=Md h3
  refine⟨x,hok,fun j hj=> ?_⟩
  have:=hcell j hj
  rw[add_add] at this
  rw[this,←e,List.getD_eq_getElem?_getD,List.getElem?_eq_getElem (by omega)]
  rfl
 obtain⟨f,hf⟩:=choose_lt each
 refine⟨some a,len,cap,(List.range len).map f,rfl,⟨by simp,fun y hy=> ?_,fun h0=> ?_⟩,hl,hm⟩
 ·obtain ⟨k,hk,rfl⟩:=List.mem_map.1 hy
  exact(hf k (List.mem_range.1 hk)).1
 ·obtain ⟨b,o,rfl⟩:=y8 (by have:=(hf 0 h0).2 0 (by decide);simpa using this)
  refine⟨b,o,rfl,fun k hk=> ?_⟩
  have e:((List.range len).map f).getD k default=f k:=by simp[hk]
  rw[e]
  have g:∀j,j<6→W.cell? ⟨b,o+k*6+j,none⟩=some ([Value.int .i64 (f k).kind,.int .i64 (f k).o.kind,.string (f k).o.space,.string (f k).o.name,.int .i64 (f k).o.ver,.slice (f k).o.A (f k).o.n (f k).o.c].getD j undef):=fun j hj=>by
   have:=(hf k hk).2 j hj
   rw[addr_add,←Nat.add_assoc] at this
   exact this
  exact⟨g 0 (by decide),g 1 (by decide),g 2 (by decide),g 3 (by decide),g 4 (by decide),g 5 (by decide)⟩
end
end Go.Proofs.YtdhbpajamlfacaaGreatDoor
