/- WatchBehind, walked. -/
import Derived.Test.YtdhbpajamlfacaaGreatDoorWl
namespace Go.Proofs.YtdhbpajamlfacaaGreatDoor
open Go.RowKit SO
/-- A store beside others: its watcher is not touched. -/
structure Uy (w0 w:World) (Qs Qd Qt:Nat→Prop) (g gs gd g2 gs2 gw gt:Nat) (m m2:DM) (L L2:LM) (M:aY):Prop where
 two:Two w0 w Qs Qd g gs gd m L M
 t:SW w0 w Qt g2 m2 gs2 L2 st0
 row:fA w gw gt 1 ⟨#[]⟩ true 0
 tab:w.heap[gt]?=some (.cells #[.pointer none] 146 (0,0))
 dt:∀k,Qs k∨Qd k→¬Qt k
 dw:∀k,Qs k∨Qd k∨Qt k→k≠gw∧k≠gt
section
variable {w w' w0:World} {Qs Qd Qt:Nat→Prop} {g gs gd g2 gs2 gw gt:Nat} {m m' m2:DM} {L L' L2:LM} {M M':aY} {A:Option Addr} {n c:Nat} {l:List iV} {ea:Nat→Addr}
theorem Uy.below (h:Uy w0 w Qs Qd Qt g gs gd g2 gs2 gw gt m m2 L L2 M) (hb:Below w.heap.size w w'):Uy w0 w' Qs Qd Qt g gs gd g2 gs2 gw gt m m2 L L2 M:=
 ⟨h.two.below hb,h.t.below hb,(hb.block gw (Cq h.row)).trans h.row,(hb.block gt (Cq h.tab)).trans h.tab,h.dt,h.dw⟩
theorem Uy.step (h:Uy w0 w Qs Qd Qt g gs gd g2 gs2 gw gt m m2 L L2 M) (hs:Step w0 w w' Qs Qd g gs gd m' L' M'):∃qm qo,Uy w0 w' qm qo Qt g gs gd g2 gs2 gw gt m' m2 L' L2 M':=by
 obtain⟨qm,qo,h1,h2,h3,h4⟩:=hs
 have hd:∀k,qm k∨qo k→(Qs k∨Qd k)∨w.heap.size≤k:=fun k hk=>hk.elim (fun hk=>(h3 k hk).imp .inl id) fun hk=>(h4 k hk).imp .inr id
 have hgw:=(Cq h.row)
 have hgt:=(Cq h.tab)
 refine⟨qm,qo,h1,h.t.fr h2 (fun k hk hx=>h.dt k hx.1 hk) (fun k hk=>hk.1.elim (h.two.s.up k) (h.two.d.up k)) (fun k hk=>hk.2),(h2.block gw hgw fun hx=>(h.dw gw (hx.1.elim .inl fun h=>.inr (.inl h))).1 rfl).trans h.row,(h2.block gt hgt fun hx=>(h.dw gt (hx.1.elim .inl fun h=>.inr (.inl h))).2 rfl).trans h.tab,fun k hk ht=> ?_,fun k hk=> ?_⟩
 ·rcases hd k hk with hk | hk
  ·exact h.dt k hk ht
  ·have:=h.t.hi k ht;omega
 ·have hk2:(Qs k∨Qd k∨Qt k)∨w.heap.size≤k:=by
   rcases hk with hk | hk | hk
   ·exact (hd k (.inl hk)).imp (fun h=>h.elim .inl fun h=>.inr (.inl h)) id
   ·exact (hd k (.inr hk)).imp (fun h=>h.elim .inl fun h=>.inr (.inl h)) id
   ·exact .inl (.inr (.inr hk))
  rcases hk2 with hk | hk
  ·exact h.dw k hk
  ·omega
/-- A Sync leaves the stores. -/
theorem SW.sync (h:SW w0 w Qs g m gs L M) (hf:Fr (fun k=>k=gw∨k=gt) w w') (hw:∀k,Qs k→k≠gw∧k≠gt) (hu:w0.heap.size≤gw∧w0.heap.size≤gt) {cw ct:Array Value} (hr:w.heap[gw]?=some (.cells cw 85 (0,0))) (ht:w.heap[gt]?=some (.cells ct 146 (0,0))):SW w0 w' Qs g m gs L M:=
 h.fr hf (fun k hk e=>e.elim (hw k hk).1 (hw k hk).2) (fun k e=>by rcases e with rfl | rfl;exact hu.1;exact hu.2) (fun k e=>by rcases e with rfl | rfl;exact ay.of hr (by decide);exact ay.of ht (by decide))
/-- The block of a store at revision R. -/
def rE (w:World) (gs R:Nat):Prop:=∃r:Array Value,w.heap[gs]?=some (.cells r 104 (0,0))∧r[2]?=some (.int .i64 (R:Int))
theorem SW.sr (h:SW w0 w Qs g m gs L M):rE w gs M.rev:=by
 obtain⟨Z,gl,gt,sh,ev,xs,ys,hV,-,-⟩:=h.use
 exact⟨_,hV.cells,rfl⟩
theorem rE.below {R:Nat} (h:rE w gs R) (hb:Below w.heap.size w w'):rE w' gs R:=let ⟨r,h1,h2⟩:=h;⟨r,(hb.block gs (Cq h1)).trans h1,h2⟩
theorem rE.sync {R:Nat} (h:rE w gs R) (hf:Fr (fun k=>k=gw∨k=gt) w w') {cw ct:Array Value} (hr:w.heap[gw]?=some (.cells cw 85 (0,0))) (ht:w.heap[gt]?=some (.cells ct 146 (0,0))):rE w' gs R:=by
 obtain⟨r,h1,h2⟩:=h
 refine⟨r,(hf.block gs (Cq h1) fun e=> ?_).trans h1,h2⟩
 rcases e with e | e
 ·rw [e] at h1;exact absurd (aj h1 hr) (by decide)
 ·rw [e] at h1;exact absurd (aj h1 ht) (by decide)
theorem rE.rev {R:Nat} (h:rE w gs R):Calls Tryz.prog 12 #[.pointer (some ⟨gs,0,none⟩)] w fun e w'=>e=.returned (.int .i64 (R:Int))∧w=w':=by
 obtain⟨r,h1,h2⟩:=h
 exact XE ((Kq 2 h1).trans h2)
set_option maxHeartbeats 8000000 in
set_option maxRecDepth 100000 in
theorem WatchBehind_any (A:Option Addr) (n c:Nat) (l:List iV) (room:Int) (w:World) (hl:kG w A n l) (hn:n≤maxLen) (hE:EW w ea) (he:Errs w ea):
  Calls Tryz.prog 3 #[.slice A n c,.int .i64 room] w fun e w'=>e=.returned (.bool true)∧Below w.heap.size w w':=by
 have Uz:=Hj (uJ w hE he)
 have MC:Hid (∀W,Keeps w W→Calls Tryz.prog 7 #[.slice A n c] W fun e w'=>e=.returned (.bool (kH l))∧Below W.heap.size W w'):=Hj fun W hW=>xG A n c l W (hl.keep hW) hn
 have Ux:=Hj Ie
 have HRR:Hid (0≤wrap64 (500+wrap64 ((IntKind.u64.wrap room).tmod 1000))∧wrap64 (500+wrap64 ((IntKind.u64.wrap room).tmod 1000))≤100000):=Hj (by
  have hx:0≤IntKind.u64.wrap room:=by
   unfold IntKind.wrap
   simp[IntKind.signed,IntKind.bits]
   omega
  generalize IntKind.u64.wrap room=x at*
  rw[Int.tmod_eq_emod_of_nonneg hx]
  unfold wrap64
  omega)
 have UA:=Hj (newB true)
 have HE:=Hj (And.intro hE he)
 have HR:=Hj hl
 by_cases UC:kH l=true
 ·rw [UC] at MC
  clear UC hl hn hE he
  go_enter Tryz.func3,Tryz.ntmps3
  go_wp2_with (first
   | (go_at_call 6;((with_reducible refine Uz.out.mono ?_);rintro e w1 ⟨rfl,hb1⟩;have B1:=Hj hb1;clear hb1))
   | (go_at_call 7;((with_reducible refine(MC.out w1 (Kz B1.out)).mono ?_);rintro e w2 ⟨rfl,hb2⟩;have B2:=Hj (B1.out.trans (hb2.mono B1.out.size));clear hb2))
   | fail)
  go_ret
  exact⟨rfl,B2.out⟩
 ·have yG:kH l=false:=by simpa using UC
  rw[yG] at MC
  have HN:Hid (n≤40∧∀a∈l,a.o.space.size≤100∧a.o.name.size≤100):=Hj (by
   unfold kH at yG
   rw[Bool.or_eq_false_iff] at yG
   refine⟨by have:=of_decide_eq_false yG.1;have:=hl.1;omega,fun a ha=> ?_⟩
   have h2:iw a=false:=by
    cases hq:iw a with
    | false=>rfl
    | true=>have:=List.any_eq_true.2 ⟨a,ha,hq⟩;rw[yG.2] at this;cases this
   unfold iw at h2
   rw[Bool.or_eq_false_iff,Bool.or_eq_false_iff] at h2
   have:=of_decide_eq_false h2.2.1
   have:=of_decide_eq_false h2.2.2
   omega)
  clear yG UC hn hE he hl
  go_enter Tryz.func3,Tryz.ntmps3
  go_wp2_with (first
   | (go_at_call 6;((with_reducible refine Uz.out.mono ?_);rintro e w1 ⟨rfl,hb1⟩;have B1:=Hj hb1;clear hb1))
   | (go_at_call 7;((with_reducible refine(MC.out w1 (Kz B1.out)).mono ?_);rintro e w2 ⟨rfl,hb2⟩;have B2:=Hj (B1.out.trans (hb2.mono B1.out.size));clear hb2))
   | (go_at_call 8;(first
     | ((with_reducible refine(Ux.out 30000 (by decide) (by decide) w2).mono ?_);rintro e w3 ⟨gs,gd,g,Qs,Qd,rfl,hs,hd,hdis,hb⟩;have T3:Hid (Two w2 w3 Qs Qd g gs gd _ _ _):=Hj ⟨hs,hd,hdis⟩;have B3:=Hj hb;clear hs hd hdis hb)
     | (((with_reducible refine(Ux.out _ HRR.out.1 HRR.out.2 w3).mono ?_);rintro e w4 ⟨gs2,gd2,g2,Qt,Qt2,rfl,hs,-,-,hb⟩;have T4:=Hj hs;have B4:=Hj hb;clear hs hb))))
   | (go_at_call 9;((with_reducible refine(UA.out w4).mono ?_);rintro e w5 ⟨gw,gt,rfl,h1,h2,h3,h4,h5⟩;have W5:=Hj (And.intro h1 (And.intro h2 (And.intro h3 (And.intro h4 h5))));clear h1 h2 h3 h4 h5))
   | fail)
  have XG:Hid (∃m2 L2,Uy w2 w5 Qs Qd Qt g gs gd g2 gs2 gw gt ⟨30000,fun _=>[],[],false,0,false⟩ m2 ⟨0,1,[],[],false⟩ L2 st0):=Hj (by
   obtain⟨h1,h2,h3,h4,h5⟩:=W5.out
   have hb4:=B4.out
   have s3:=B3.out.size
   have s4:=hb4.size
   refine⟨_,_,(T3.out.below hb4).below h5,(T4.out.base B3.out).below h5,h1,h2,fun k hk ht=> ?_,fun k hk=> ?_⟩
   ·have:=T4.out.up k ht
    rcases hk with hk | hk
    ·have:=T3.out.s.hi k hk;omega
    ·have:=T3.out.d.hi k hk;omega
   ·rcases hk with hk | hk | hk
    ·have:=T3.out.s.hi k hk;omega
    ·have:=T3.out.d.hi k hk;omega
    ·have:=T4.out.hi k hk;omega)
  have XH:=Hj (dH.start 30000 (by decide) (by decide))
  obtain⟨m0,hm0⟩:∃m:DM,m=⟨30000,fun _=>[],[],false,0,false⟩:=⟨_,rfl⟩
  obtain⟨L0,hL0⟩:∃L:LM,L=⟨0,1,[],[],false⟩:=⟨_,rfl⟩
  rw[←hm0,←hL0] at XG XH
  obtain⟨m2,L2,hbeh⟩:=XG.out
  have fH:=Hj hbeh
  have HU:Hid (w2.heap.size≤gw∧w2.heap.size≤gt):=Hj (by
   obtain⟨h1,h2,h3,h4,h5⟩:=W5.out
   have s3:=B3.out.size
   have s4:=B4.out.size
   exact⟨by omega,by omega⟩)
  clear hm0 hL0 hbeh XG Ux UA Uz MC T3 T4 W5 B3 B4 HRR
  go_loopg [48] n (fun gk s48 wr=>∃(i:Nat) (Qs Qd:Nat→Prop) (m:DM) (L:LM) (M:aY),s48=.int .i64 (i:Int)∧i+gk=n∧Uy w2 wr Qs Qd Qt g gs gd g2 gs2 gw gt m m2 L L2 M∧dH m L M i)
  case atStart=>exact⟨0,Qs,Qd,m0,L0,st0,rfl,by omega,fH.out,XH.out⟩
  case round=>
   obtain⟨i,Qs,Qd,m,L,M,rfl,hi,hbe,hki⟩:=hrel
   have HI:=Hj hi
   have HBe2:=Hj hbe
   have HKi:=Hj hki
   by_cases hlt:i<n
   ·have hin:i<l.length:=by rw[HR.out.1];exact hlt
    obtain⟨a,ha⟩:∃a,l[i]?=some a:=⟨_,List.getElem?_eq_getElem hin⟩
    have hget:l.getD i default=a:=by rw[List.getD_eq_getElem?_getD,ha];rfl
    have hmem:a∈l:=List.mem_of_getElem? ha
    have hok:=HR.out.2.1 a hmem
    have hsz:=HN.out.2 a hmem
    obtain⟨b,o,rfl,hb⟩:=HR.out.2.2 (by omega)
    have hbw:=B2.out.trans (hbe.two.s.bel.mono B2.out.size)
    obtain⟨c0,c1,c2,c3,c4,c5⟩:=(hb i hlt).keep (Kz hbw)
    rw[hget] at c0 c1 c2 c3 c4 c5
    have i0:(0:Int)≤(i:Int):=Int.natCast_nonneg i
    have i1:(i:Int)<(n:Int):=Int.ofNat_lt.2 hlt
    have i2:(i:Int)≤100000:=by have:=HN.out.1;omega
    have Kr:Hid (∀W,Below wr.heap.size wr W→Calls Tryz.prog 10 #[.pointer (some ⟨gs,0,none⟩),.pointer (some ⟨gd,0,none⟩),.agg #[.int .i64 a.kind,.int .i64 a.o.kind,.string a.o.space,.string a.o.name,.int .i64 a.o.ver,.slice a.o.A a.o.n a.o.c]] W fun e w'=>e=.returned (.bool true)∧∃qm qo m' L' M',Uy w2 w' qm qo Qt g gs gd g2 gs2 gw gt m' m2 L' L2 M'∧dH m' L' M' (i+1)):=Hj fun W hW=>(EZ a.o a.bs a.kind (hbe.two.below hW) (HE.out.2.below B2.out) (HE.out.1.below B2.out) hki (by have:=HN.out.1;omega) (hok.rb.keep (Kz B2.out)) hok.kind (by omega) (by omega)).mono fun e w' ⟨h1,m',L',M',h2,h3⟩=>by
     obtain⟨qm,qo,h4⟩:=(hbe.below hW).step h2
     exact⟨h1,qm,qo,m',L',M',h4,h3.1⟩
    have CP:=Hj hlt
    clear hi hbe hki hlt hin ha hget hmem hok hsz hb hbw
    go_wp2_with (first
     | (go_at_call 10;((with_reducible refine(Kr.out _ ((Below.refl _ wr).alloc Kv _)).mono ?_);rintro e w7 ⟨rfl,qm,qo,m',L',M',h1,h2⟩;have C7:=Hj (And.intro h1 h2);clear h1 h2))
     | fail)
    go_roundg (gk-1)
    case measure=>have:=HI.out;have:=CP.out;omega
    case rel=>exact⟨i+1,qm,qo,m',L',M',by go_num,by have:=HI.out;have:=CP.out;omega,C7.out.1,C7.out.2⟩
   ·obtain rfl:i=n:=by omega
    obtain⟨wa,rfl⟩:∃W,W=wr:=⟨_,rfl⟩
    obtain⟨f1,f2,f3,f4,f5,f6,f7,f8⟩:=hki.facts (by have:=HN.out.1;omega)
    have Ij:=HN.out.1
    have hgw:=HU.out
    obtain⟨R,hR⟩:∃R,R=M.rev:=⟨_,rfl⟩
    have Sj:Hid (Calls Tryz.prog 11 #[.pointer (some ⟨gw,0,none⟩),.pointer (some ⟨gs,0,none⟩)] wa fun e w'=>∃an A1 n1 c1 A2 n2 c2 eX K',e=.returned (.tuple #[.agg #[.bool an,.slice A1 n1 c1,.slice A2 n2 c2],.nilIface])∧rE w' gs R∧SW w2 w' Qt g2 m2 gs2 L2 st0∧fA w' gw eX 1 ⟨#[]⟩ true R∧KT w' (fun _=>True) eX K'∧K'.length≤200∧Below w.heap.size w w'∧w.heap.size≤gw∧w.heap.size≤eX):=Hj (by
     refine(rD (P:=fun _=>True) hbe.two.s hbe.row (KT.nil hbe.tab) (Nat.zero_le _) (fun _=>rfl) (by decide) (by decide) (by omega) (.inr ⟨by decide,by decide⟩) (by omega) (by simp only[List.length_nil];omega)).mono ?_
     rintro e w' ⟨an,pv,dv,eX,K',lp,ld,rfl,h1,h2,h3,h4,h5,hx,h6⟩
     obtain⟨A1,c1,rfl,-,-⟩:=h1.form
     obtain⟨A2,c2,rfl,-,-⟩:=h2.form
     have hbw:=B2.out.trans (hbe.two.s.bel.mono B2.out.size)
     rw[hR]
     refine⟨an,A1,_,c1,A2,_,c2,eX,K',rfl,hbe.two.s.sr.sync h5 hbe.row hbe.tab,SW.sync hbe.t h5 (fun k hk=>hbe.dw k (.inr (.inr hk))) hgw hbe.row hbe.tab,h3,h4.mono fun _ _ _=>trivial,?_,hbw.trans (h5.below hbw.size fun k hk e=> ?_),by have:=B2.out.size;omega,by have:=B2.out.size;have:=hbw.size;omega⟩
     ·rcases h6 with ⟨-,-,rfl,-,-⟩ | ⟨-,-,rfl,-,-⟩
      ·have:=xH (mF M 1 ⟨#[]⟩ true) []
       have hl:(mF M 1 ⟨#[]⟩ true).length≤M.tab.length:=by unfold mF;rw[List.length_map];exact List.length_filter_le _ _
       simp only[List.length_nil] at this
       omega
      ·have:=sZ 1 ⟨#[]⟩ true (M.evs.drop (0-M.base)) []
       rw[List.length_drop] at this
       simp only[List.length_nil] at this
       omega
     ·have:=B2.out.size
      rcases e with rfl | rfl<;>omega)
    clear hi hbe hki hlt f1 f2 f3 f4 f5 f6 f7 f8 Ij hgw hR HKi HBe2 fH XH
    by_cases hz:R=0
    ·subst hz
     have Fp:Hid (∀W,rE W gs 0→Calls Tryz.prog 12 #[.pointer (some ⟨gs,0,none⟩)] W fun e w'=>e=.returned (.int .i64 0)∧W=w'):=Hj fun W hW=>hW.rev
     have HS2:Hid (∀W eX K',SW w2 W Qt g2 m2 gs2 L2 st0→rE W gs 0→fA W gw eX 1 ⟨#[]⟩ true 0→KT W (fun _=>True) eX K'→K'.length≤200→(Below w.heap.size w W∧w.heap.size≤gw∧w.heap.size≤eX)→Calls Tryz.prog 11 #[.pointer (some ⟨gw,0,none⟩),.pointer (some ⟨gs2,0,none⟩)] W fun e w'=>∃x,e=.returned (.tuple #[x,.nilIface])∧rE w' gs 0∧Below w.heap.size w w'):=Hj fun W eX K' h1 h2 h3 h4 h5 h6=>(rD h1 h3 h4 (Nat.zero_le _) (fun h=>absurd h (by decide)) (by decide) (by decide) (by decide) (.inr ⟨by decide,by decide⟩) (by decide) (by show K'.length+0≤90000;omega)).mono fun e w' ⟨an,pv,dv,gt3,K2,lp,ld,k1,k2,k3,k4,k5,k6,_⟩=>by
      obtain⟨p,ht⟩:=h4.row
      exact⟨_,k1,h2.sync k6 h3 ht,h6.1.trans (k6.below h6.1.size fun k hk e=>by rcases e with rfl | rfl;exact h6.2.1;exact h6.2.2)⟩
     go_wp2_with (first
      | (go_at_call 11;(first
        | ((with_reducible refine Sj.out.mono ?_);rintro e w6 ⟨an,A1,n1,c1,A2,n2,c2,eX,K',rfl,h1,h2,h3,h4,h5,h6⟩;have S6:=Hj (And.intro h1 (And.intro h2 (And.intro h3 (And.intro h4 (And.intro h5 h6)))));clear h1 h2 h3 h4 h5 h6)
        | (obtain⟨w7,hw7⟩:∃W,W=w6.alloc (.cells #[.bool an,.slice A1 n1 c1,.slice A2 n2 c2] 43):=⟨_,rfl⟩;rw[←hw7];obtain⟨h1,h2,h3,h4,h5,h6⟩:=S6.out;have b7:Below w6.heap.size w6 w7:=(by rw[hw7];exact(Below.refl _ w6).alloc Kv _);have h3':fA w7 gw eX 1 ⟨#[]⟩ true 0:=(b7.block gw (Cq h3)).trans h3;((with_reducible refine(HS2.out w7 eX K' (h2.below b7) (h1.below b7) h3' (h4.below b7) h5 ⟨h6.1.trans (b7.mono h6.1.size),h6.2⟩).mono ?_);rintro e w8 ⟨x,rfl,k1,k2⟩;have S8:=Hj (And.intro k1 k2);clear k1 k2 h1 h2 h3 h4 h5 h6 b7 h3' hw7))))
      | (go_at_call 12;((with_reducible refine(Fp.out w8 S8.out.1).mono ?_);rintro e w9 ⟨rfl,rfl⟩))
      | fail)
     go_ret
     exact⟨rfl,S8.out.2⟩
    ·have Fp:Hid (∀W,rE W gs R→Calls Tryz.prog 12 #[.pointer (some ⟨gs,0,none⟩)] W fun e w'=>e=.returned (.int .i64 (R:Int))∧W=w'):=Hj fun W hW=>hW.rev
     have HS2:Hid (∀W eX,SW w2 W Qt g2 m2 gs2 L2 st0→fA W gw eX 1 ⟨#[]⟩ true R→Calls Tryz.prog 11 #[.pointer (some ⟨gw,0,none⟩),.pointer (some ⟨gs2,0,none⟩)] W fun e w'=>e=.returned (.tuple #[.agg #[.bool false,.slice none 0 0,.slice none 0 0],bK ea 1])∧Below W.heap.size W w'∧Errs w' ea):=Hj fun W eX h1 h3=>(QO h1 (HE.out.2.below B2.out) h3 (by show 0<R;omega)).mono fun e w' ⟨k1,k2⟩=>⟨k1,k2,HE.out.2.below (B2.out.trans ((h1.bel.trans (k2.mono h1.bel.size)).mono B2.out.size))⟩
     have XA:Hid (∀W,Errs W ea→Calls Tryz.prog 13 #[bK ea 1] W fun e w'=>e=.returned (.int .i64 1)∧Below W.heap.size W w'):=Hj fun W hW=>by
      have:=IU hW 1 (by decide)
      rwa [qF] at this
     have z1:(0:Int)<(R:Int):=by omega
     clear hz
     go_wp2_with (first
      | (go_at_call 11;(first
        | ((with_reducible refine Sj.out.mono ?_);rintro e w6 ⟨an,A1,n1,c1,A2,n2,c2,eX,K',rfl,h1,h2,h3,h4,h5,h6⟩;have S6:=Hj (And.intro h1 (And.intro h2 (And.intro h3 h6)));clear h1 h2 h3 h4 h5 h6)
        | (obtain⟨w7,hw7⟩:∃W,W=w6.alloc (.cells #[.bool an,.slice A1 n1 c1,.slice A2 n2 c2] 43):=⟨_,rfl⟩;rw[←hw7];obtain⟨h1,h2,h3,h6,-⟩:=S6.out;have b7:Below w6.heap.size w6 w7:=(by rw[hw7];exact(Below.refl _ w6).alloc Kv _);have h3':fA w7 gw eX 1 ⟨#[]⟩ true R:=(b7.block gw (Cq h3)).trans h3;((with_reducible refine(HS2.out w7 eX (h2.below b7) h3').mono ?_);rintro e w8 ⟨rfl,k1,k2⟩;have hb8:=h6.trans ((b7.trans (k1.mono b7.size)).mono h6.size);have h38:fA w8 gw eX 1 ⟨#[]⟩ true R:=(k1.block gw (Cq h3')).trans h3';have S8:=Hj (And.intro ((h1.below b7).below k1) (And.intro h38 (And.intro hb8 k2)));clear k1 k2 h1 h2 h3 h6 b7 h3' hw7 hb8 h38))))
      | (go_at_call 12;(first
        | ((with_reducible refine(Fp.out w9 (S8.out.1.below B9.out)).mono ?_);rintro e w' ⟨rfl,rfl⟩)
        | ((with_reducible refine(Fp.out w8 S8.out.1).mono ?_);rintro e w' ⟨rfl,rfl⟩)))
      | (go_at_call 13;((with_reducible refine(XA.out w8 S8.out.2.2.2).mono ?_);rintro e w9 ⟨rfl,hb⟩;have B9:=Hj hb;have R9:Hid (fA w9 gw eX 1 ⟨#[]⟩ true R):=Hj ((hb.block gw (Cq S8.out.2.1)).trans S8.out.2.1);clear hb))
      | (go_at_call 14;((with_reducible refine(Cc R9.out).mono ?_);rintro e w' ⟨rfl,rfl⟩))
      | fail)
     go_ret
     exact⟨rfl,S8.out.2.2.1.trans (B9.out.mono S8.out.2.2.1.size)⟩
end
end Go.Proofs.YtdhbpajamlfacaaGreatDoor
