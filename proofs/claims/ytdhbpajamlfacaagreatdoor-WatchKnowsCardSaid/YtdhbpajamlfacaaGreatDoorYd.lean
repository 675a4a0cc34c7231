/- WatchKnows, walked. -/
import Derived.Test.YtdhbpajamlfacaaGreatDoorYc
namespace Go.Proofs.YtdhbpajamlfacaaGreatDoor
open Go.RowKit SO
section
variable {A:Option Addr} {n c:Nat} {l:List iV} {ea:Nat→Addr}
set_option maxHeartbeats 8000000 in
set_option maxRecDepth 100000 in
theorem WatchKnows_any (kind:Int) (space:ByteArray) (all:Bool) (A:Option Addr) (n c:Nat) (l:List iV) (w:World) (hl:kG w A n l) (hn:n≤maxLen) (hE:EW w ea) (he:Errs w ea):
  Calls Tryz.prog 4 #[.agg #[.int .i64 kind,.string space,.bool all],.slice A n c] w fun e w'=>e=.returned (.bool true)∧Below w.heap.size w w':=by
 obtain⟨w1,hw1⟩:∃W,W=w.alloc (.cells #[.int .i64 kind,.string space,.bool all] 50):=⟨_,rfl⟩
 have hb1:Below w.heap.size w w1:=by rw[hw1];exact(Below.refl _ w).alloc Kv _
 have hr1:w1.heap[w.heap.size]?=some (.cells #[.int .i64 kind,.string space,.bool all] 50 (0,0)):=by rw[hw1];exact heap_alloc_new w _
 obtain⟨B,hB⟩:∃b,b=w.heap.size:=⟨_,rfl⟩
 rw[←hB] at hr1
 have HK:Hid (∀W,Below w1.heap.size w1 W→W.cell? ⟨B,0,none⟩=some (.int .i64 kind)∧W.cell? ⟨B,1,none⟩=some (.string space)):=Hj fun W hW=>by
  have:=(hW.block B (Cq hr1)).trans hr1
  exact⟨Kq 0 this,Kq 1 this⟩
 have HB1:=Hj hb1
 have Uz:=Hj (uJ w1 (hE.below hb1) (he.below hb1))
 have MC:Hid (∀W,Keeps w W→Calls Tryz.prog 7 #[.slice A n c] W fun e w'=>e=.returned (.bool (kH l))∧Below W.heap.size W w'):=Hj fun W hW=>xG A n c l W (hl.keep hW) hn
 have Ux:=Hj Ie
 have UA:Hid (∀W,Below w.heap.size w W→_):=Hj fun W hW=>newA kind space W (he.below hW)
 have HE:=Hj (And.intro hE he)
 have HR:=Hj hl
 have HW:=Hj (And.intro hw1 hB)
 by_cases UC:kH l=true
 ·rw [UC] at MC
  clear UC hl hn hE he hw1 hb1 hr1 hB
  go_enter Tryz.func4,Tryz.ntmps4
  go_wp2_with (first
   | (go_at_call 6;rw[←HW.out.1];((with_reducible refine Uz.out.mono ?_);rintro e w2 ⟨rfl,hb2⟩;have B2:=Hj (HB1.out.trans (hb2.mono HB1.out.size));clear hb2))
   | (go_at_call 7;((with_reducible refine(MC.out w2 (Kz B2.out)).mono ?_);rintro e w3 ⟨rfl,hb3⟩;have B3:=Hj (B2.out.trans (hb3.mono B2.out.size));clear hb3))
   | fail)
  go_ret
  exact⟨rfl,B3.out⟩
 have yG:kH l=false:=by simpa using UC
 rw[yG] at MC
 have HN:=Hj (longs hl yG)
 clear UC yG hl hn hE he hw1 hb1 hr1 hB
 by_cases hsp:100<space.size
 ·have q1:(100:Int)<(space.size:Int):=by omega
  clear hsp
  go_enter Tryz.func4,Tryz.ntmps4
  go_wp2_with (first
   | (go_at_call 6;rw[←HW.out.1];((with_reducible refine Uz.out.mono ?_);rintro e w2 ⟨rfl,hb2⟩;have B2:=Hj (HB1.out.trans (hb2.mono HB1.out.size));have VK:=Hj hb2;clear hb2))
   | (go_at_call 7;rw[←HW.out.2];((with_reducible refine(MC.out w2 (Kz B2.out)).mono ?_);rintro e w3 ⟨rfl,hb3⟩;have B3:=Hj (B2.out.trans (hb3.mono B2.out.size));obtain⟨x0,x1⟩:=HK.out w3 (VK.out.trans (hb3.mono VK.out.size));clear hb3))
   | fail)
  go_ret
  exact⟨rfl,B3.out⟩
 have q1:¬(100:Int)<(space.size:Int):=by omega
 have HZ:Hid (space.size≤100):=Hj (by omega)
 clear hsp
 by_cases hnm:bU kind space ⟨#[97]⟩=true
 ·have hp:=jP hnm
  obtain⟨K,rfl⟩:∃K:Nat,kind=(K:Int):=⟨kind.toNat,by omega⟩
  have HS:Hid (K≤7∧oI space):=Hj ⟨by omega,lW hnm⟩
  simp only[hnm,if_true] at UA
  clear hnm hp
  go_enter Tryz.func4,Tryz.ntmps4
  go_wp2_with (first
   | (go_at_call 6;rw[←HW.out.1];((with_reducible refine Uz.out.mono ?_);rintro e w2 ⟨rfl,hb2⟩;have B2:=Hj (HB1.out.trans (hb2.mono HB1.out.size));have VK:=Hj hb2;clear hb2))
   | (go_at_call 7;rw[←HW.out.2];((with_reducible refine(MC.out w2 (Kz B2.out)).mono ?_);rintro e w3 ⟨rfl,hb3⟩;have B3:=Hj (B2.out.trans (hb3.mono B2.out.size));have XL:=Hj (VK.out.trans (hb3.mono VK.out.size));obtain⟨x0,x1⟩:=HK.out w3 XL.out;clear hb3))
   | (go_at_call 9;(first
     | (((with_reducible refine(UA.out w4 B4.out).mono ?_);rintro e w5 ⟨hb5,gy,ty,rfl,h1,h2,h3,h4⟩;have Y5:=Hj (And.intro h1 (And.intro h2 (And.intro h3 h4)));have B5:=Hj (B4.out.trans (hb5.mono B4.out.size));have B15:=Hj (B14.out.trans (hb5.mono B14.out.size));have B45:=Hj hb5;clear hb5 h1 h2 h3 h4))
     | (((with_reducible refine(UA.out w3 B3.out).mono ?_);rintro e w4 ⟨hb4,gx,tx,rfl,h1,h2,h3,h4⟩;have X4:=Hj (And.intro h1 (And.intro h2 (And.intro h3 h4)));have B34:=Hj hb4;have B4:=Hj (B3.out.trans (hb4.mono B3.out.size));have B14:=Hj (XL.out.trans (hb4.mono XL.out.size));obtain⟨y0,y1⟩:=HK.out w4 B14.out;clear hb4 h1 h2 h3 h4))))
   | (go_at_call 8;((with_reducible refine(Ux.out 30000 (by decide) (by decide) w5).mono ?_);rintro e w6 ⟨gs,gd,g,Qs,Qd,rfl,hs,hd,hdis,hb⟩;have T6:Hid (Two w5 w6 Qs Qd g gs gd _ _ _):=Hj ⟨hs,hd,hdis⟩;have B56:=Hj hb;clear hs hd hdis hb))
   | fail)
  have XM:Hid (Cj w3 w6 Qs Qd (fun _=>False) g gs gd gx tx st0.rev gy ty ⟨30000,fun _=>[],[],false,0,false⟩ ⟨0,1,[],[],false⟩ st0 (K:Int) space (lG K space st0.tab)):=Hj (by
   obtain⟨h1,h2,h3,h4⟩:=X4.out
   obtain⟨k1,k2,k3,k4⟩:=Y5.out
   have b35:=B34.out.trans (B45.out.mono B34.out.size)
   have b46:=B45.out.trans (B56.out.mono B45.out.size)
   have s4:=B34.out.size
   have s5:=B45.out.size
   have a1:=(Cq h1)
   have a2:=(Cq h2)
   have a3:=(Cq k1)
   have a4:=(Cq k2)
   refine⟨⟨T6.out.s.base b35,T6.out.d.base b35,T6.out.Xz⟩,(b46.block gx a1).trans h1,KT.nil ((b46.block tx a2).trans h2),(B56.out.block gy a3).trans k1,(B56.out.block ty a4).trans k2,fun k hk=> ?_,fun k hk=>hk.elim,⟨h3,h4,by omega,by omega⟩,⟨by omega,by omega⟩,⟨id,id⟩⟩
   have:w5.heap.size≤k:=hk.elim (T6.out.s.up k) (T6.out.d.up k)
   exact⟨by omega,by omega,by omega,by omega,id⟩)
  have XH:=Hj (dH.start 30000 (by decide) (by decide))
  obtain⟨m0,hm0⟩:∃m:DM,m=⟨30000,fun _=>[],[],false,0,false⟩:=⟨_,rfl⟩
  obtain⟨L0,hL0⟩:∃L:LM,L=⟨0,1,[],[],false⟩:=⟨_,rfl⟩
  rw[←hm0,←hL0] at XM XH
  clear hm0 hL0 T6 X4 Y5 B34 B45 B56 B14 B4 B15 B5 Ux UA Uz MC x0 x1 y0 y1
  go_loopg [57] n (fun gk s57 wr=>∃(i:Nat) (Qs Qd P:Nat→Prop) (tx:Nat) (m:DM) (L:LM) (M:aY),s57=.int .i64 (i:Int)∧i+gk=n∧Cj w3 wr Qs Qd P g gs gd gx tx M.rev gy ty m L M (K:Int) space (lG K space M.tab)∧xP K space M 0 []∧dH m L M i)
  case atStart=>exact⟨0,Qs,Qd,_,tx,m0,L0,st0,rfl,by omega,XM.out,xP.start,XH.out⟩
  case round=>
   obtain⟨i,Qs,Qd,P,tx,m,L,M,rfl,hi,hkn,hwy,hki⟩:=hrel
   have HI:=Hj hi
   have HKn:=Hj hkn
   have HKi:=Hj hki
   have HWy:=Hj hwy
   have Ij:=HN.out.1
   by_cases hlt:i<n
   ·have hin:i<l.length:=by rw[HR.out.1];exact hlt
    obtain⟨a,ha⟩:∃a,l[i]?=some a:=⟨_,List.getElem?_eq_getElem hin⟩
    have hget:l.getD i default=a:=by rw[List.getD_eq_getElem?_getD,ha];rfl
    have hmem:a∈l:=List.mem_of_getElem? ha
    have hok:=HR.out.2.1 a hmem
    have hsz:=HN.out.2 a hmem
    obtain⟨b,o,rfl,hb⟩:=HR.out.2.2 (by omega)
    have hbw:=B3.out.trans (hkn.two.s.bel.mono B3.out.size)
    obtain⟨c0,c1,c2,c3,c4,c5⟩:=(hb i hlt).keep (Kz hbw)
    rw[hget] at c0 c1 c2 c3 c4 c5
    have i0:(0:Int)≤(i:Int):=Int.natCast_nonneg i
    have i1:(i:Int)<(n:Int):=Int.ofNat_lt.2 hlt
    have i2:(i:Int)≤100000:=by omega
    have Kr:Hid (∀W,Below wr.heap.size wr W→Calls Tryz.prog 10 #[.pointer (some ⟨gs,0,none⟩),.pointer (some ⟨gd,0,none⟩),.agg #[.int .i64 a.kind,.int .i64 a.o.kind,.string a.o.space,.string a.o.name,.int .i64 a.o.ver,.slice a.o.A a.o.n a.o.c]] W fun e w'=>e=.returned (.bool true)∧∃qm qo m' L' M',Cj w3 w' qm qo P g gs gd gx tx M.rev gy ty m' L' M' (K:Int) space (lG K space M.tab)∧dH m' L' M' (i+1)∧Turn M M'):=Hj fun W hW=>(EZ a.o a.bs a.kind (hkn.two.below hW) (HE.out.2.below B3.out) (HE.out.1.below B3.out) hki (by omega) (hok.rb.keep (Kz B3.out)) hok.kind (by omega) (by omega)).mono fun e w' ⟨h1,m',L',M',h2,h3⟩=>by
     obtain⟨qm,qo,h4⟩:=(hkn.below hW).step h2
     exact⟨h1,qm,qo,m',L',M',h4,h3⟩
    have Sj:Hid (∀W qm qo m' L' M',Cj w3 W qm qo P g gs gd gx tx M.rev gy ty m' L' M' (K:Int) space (lG K space M.tab)→dH m' L' M' (i+1)→Turn M M'→Calls Tryz.prog 11 #[.pointer (some ⟨gx,0,none⟩),.pointer (some ⟨gs,0,none⟩)] W fun e w'=>∃an A1 n1 c1 A2 n2 c2 P' QU,e=.returned (.tuple #[.agg #[.bool an,.slice A1 n1 c1,.slice A2 n2 c2],.nilIface])∧Cj w3 w' qm qo P' g gs gd gx QU M'.rev gy ty m' L' M' (K:Int) space (lG K space M'.tab)):=Hj fun W qm qo m' L' M' h1 h2 h3=>h1.goes h2 (by omega) ((xP.now hki.ok).turn hki.ok h3 HS.out.1 HS.out.2) (h3.base hki.ok) (Cz Cm (hki.facts (by omega)).2.2.2.2.1) HS.out.1 HS.out.2 HZ.out
    have HTw:Hid (∀M',Turn M M'→xP K space M' 0 []):=Hj fun M' h=>hwy.turn hki.ok h HS.out.1 HS.out.2
    have CP:=Hj hlt
    clear hi hkn hki hwy hlt hin ha hget hmem hok hsz hb hbw Ij
    go_wp2_with (first
     | (go_at_call 10;((with_reducible refine(Kr.out _ ((Below.refl _ wr).alloc Kv _)).mono ?_);rintro e w7 ⟨rfl,qm,qo,m',L',M',h1,h2,h3⟩;have C7:=Hj (And.intro h1 (And.intro h2 h3));clear h1 h2 h3))
     | (go_at_call 11;((with_reducible refine(Sj.out w7 qm qo m' L' M' C7.out.1 C7.out.2.1 C7.out.2.2).mono ?_);rintro e w8 ⟨an,A1,n1,c1,A2,n2,c2,P',QU,rfl,h⟩;have S8:=Hj h;clear h))
     | fail)
    go_roundg (gk-1)
    case measure=>have:=HI.out;have:=CP.out;omega
    case rel=>exact⟨i+1,qm,qo,P',QU,m',L',M',by go_num,by have:=HI.out;have:=CP.out;omega,S8.out.below ((Below.refl _ w8).alloc Kv _),HTw.out M' C7.out.2.2,C7.out.2.1⟩
   ·obtain rfl:i=n:=by omega
    obtain⟨wa,rfl⟩:∃W,W=wr:=⟨_,rfl⟩
    have Ye:=Hj (hkn.last hki (by omega) hwy HS.out.1 HS.out.2 HZ.out)
    have hM:=hki.ok
    have htl:=(hki.facts (by omega)).2.2.2.2.1
    have hkl:((lG K space M.tab).map fun x=>x.2).length≤90:=by rw[List.length_map];exact Cz Cm htl
    have HKl:=Hj hkl
    have HLi:Hid (∀W Px Py ty',UH w3 W Qs Px Py g gs gx tx gy ty' m L M (K:Int) space (lG K space M.tab)→Calls Tryz.prog 15 #[.pointer (some ⟨gs,0,none⟩),.int .i64 (K:Int),.string space] W fun e w'=>∃A n c,e=.returned (.slice A n c)∧OS w' W.heap.size (.slice A n c) ((lG K space M.tab).map fun x=>x.2)∧n=((lG K space M.tab).map fun x=>x.2).length∧Below W.heap.size W w'):=Hj fun W Px Py ty' h=>h.list hki (by omega) HS.out.1 HZ.out
    have HKw:Hid (∀W Px gz tz cur,fA W gz tz (K:Int) space false cur→KT W Px tz (lG K space M.tab)→Calls Tryz.prog 17 #[.pointer (some ⟨gz,0,none⟩)] W fun e w'=>∃A n c,e=.returned (.slice A n c)∧OS w' W.heap.size (.slice A n c) ((lG K space M.tab).map fun x=>x.2)∧n=((lG K space M.tab).map fun x=>x.2).length∧Below W.heap.size W w'):=Hj fun W Px gz tz cur h1 h2=>(XI h1 h2 (Cz Cm (by omega)) fun x hx=>UG hM hx).mono fun e w' ⟨v,e1,e2,e3⟩=>by
     obtain⟨A,c,rfl,-,-⟩:=e2.form
     exact⟨A,_,c,e1,e2,rfl,e3⟩
    have HSm:Hid (∀W b1 b2 A n c A2 n2 c2,OS W b1 (.slice A n c) ((lG K space M.tab).map fun x=>x.2)→n=((lG K space M.tab).map fun x=>x.2).length→OS W b2 (.slice A2 n2 c2) ((lG K space M.tab).map fun x=>x.2)→n2=((lG K space M.tab).map fun x=>x.2).length→Calls Tryz.prog 16 #[.slice A n c,.slice A2 n2 c2] W fun e w'=>e=.returned (.bool true)∧Below W.heap.size W w'):=Hj fun W b1 b2 A n c A2 n2 c2 h1 h2 h3 h4=>by
     obtain rfl:n2=n:=by omega
     exact MF h1 h3 h2 (by omega)
    clear hi hkn hki hwy hlt Ij hM htl hkl HWy HKi HKn XH XM
    by_cases hz:i=0
    ·subst hz
     go_wp2_with (first
      | (go_at_call 11;((with_reducible refine Ye.out.mono ?_);rintro e w7 ⟨an,A1,n1,c1,A2,n2,c2,Py,ty',rfl,h⟩;have S7:Hid (UH w3 (w7.alloc (.cells #[.bool an,.slice A1 n1 c1,.slice A2 n2 c2] 43)) Qs P Py g gs gx tx gy ty' m L M (K:Int) space (lG K space M.tab)):=Hj (h.below ((Below.refl _ w7).alloc Kv _));obtain⟨z0,z1⟩:=HK.out _ (XL.out.trans (S7.out.s.bel.mono XL.out.size));clear h))
      | (go_at_call 15;((with_reducible refine(HLi.out _ P Py ty' S7.out).mono ?_);rintro e w8 ⟨A3,n3,c3,rfl,h1,h2,hb⟩;have B8:=Hj (B3.out.trans ((S7.out.s.bel.trans (hb.mono S7.out.s.bel.size)).mono B3.out.size));clear h1 h2 hb))
      | fail)
     go_ret
     exact⟨rfl,B8.out⟩
    ·have z9:((i:Int)==0)=false:=by rw[beq_eq_false_iff_ne];omega
     have hne:(i:Int)≠0:=by omega
     clear hz
     go_wp2_with (first
      | (go_at_call 11;((with_reducible refine Ye.out.mono ?_);rintro e w7 ⟨an,A1,n1,c1,A2,n2,c2,Py,ty',rfl,h⟩;have S7:Hid (UH w3 (w7.alloc (.cells #[.bool an,.slice A1 n1 c1,.slice A2 n2 c2] 43)) Qs P Py g gs gx tx gy ty' m L M (K:Int) space (lG K space M.tab)):=Hj (h.below ((Below.refl _ w7).alloc Kv _));obtain⟨z0,z1⟩:=HK.out _ (XL.out.trans (S7.out.s.bel.mono XL.out.size));clear h))
      | (go_at_call 15;((with_reducible refine(HLi.out _ P Py ty' S7.out).mono ?_);rintro e w8 ⟨A3,n3,c3,rfl,h1,h2,hb⟩;have S8:=Hj (S7.out.below hb);have O8:=Hj (And.intro h1 h2);clear h1 h2 hb))
      | (go_at_call 17;(first
        | (((with_reducible refine(HKw.out w10 _ gy _ _ S10.out.yr S10.out.yt).mono ?_);rintro e YR ⟨A5,n5,c5,rfl,h1,h2,hb⟩;have S11:=Hj (S10.out.below hb);have N9:=Hj (And.intro h1 (And.intro h2 (O10.out.below hb)));clear h1 h2 hb))
        | (((with_reducible refine(HKw.out w8 _ gx _ _ S8.out.xr S8.out.xt).mono ?_);rintro e w9 ⟨A4,n4,c4,rfl,h1,h2,hb⟩;have S9:=Hj (S8.out.below hb);have O9:=Hj (And.intro h1 (And.intro h2 (O8.out.1.below hb)));clear h1 h2 hb))))
      | (go_at_call 16;(first
        | (((with_reducible refine(HSm.out YR _ _ _ _ _ _ _ _ N9.out.1 N9.out.2.1 N9.out.2.2 O8.out.2).mono ?_);rintro e w12 ⟨rfl,hb⟩;have S12:=Hj (S11.out.below hb);clear hb))
        | (((with_reducible refine(HSm.out w9 _ _ _ _ _ _ _ _ O9.out.1 O9.out.2.1 O9.out.2.2 O8.out.2).mono ?_);rintro e w10 ⟨rfl,hb⟩;have S10:=Hj (S9.out.below hb);have O10:=Hj (O9.out.2.2.below hb);clear hb))))
      | (go_at_call 14;((with_reducible refine(Cc S12.out.xr).mono ?_);rintro e w' ⟨rfl,rfl⟩))
      | (go_at_call 12;((with_reducible refine(zW S12.out.s).mono ?_);rintro e w' ⟨rfl,rfl⟩))
      | fail)
     go_ret
     exact⟨rfl,B3.out.trans (S12.out.s.bel.mono B3.out.size)⟩
 ·simp only[hnm] at UA
  clear hnm
  go_enter Tryz.func4,Tryz.ntmps4
  go_wp2_with (first
   | (go_at_call 6;rw[←HW.out.1];((with_reducible refine Uz.out.mono ?_);rintro e w2 ⟨rfl,hb2⟩;have B2:=Hj (HB1.out.trans (hb2.mono HB1.out.size));have VK:=Hj hb2;clear hb2))
   | (go_at_call 7;rw[←HW.out.2];((with_reducible refine(MC.out w2 (Kz B2.out)).mono ?_);rintro e w3 ⟨rfl,hb3⟩;have B3:=Hj (B2.out.trans (hb3.mono B2.out.size));obtain⟨x0,x1⟩:=HK.out w3 (VK.out.trans (hb3.mono VK.out.size));clear hb3))
   | (go_at_call 9;((with_reducible refine(UA.out w3 B3.out).mono ?_);rintro e w4 ⟨hb4,rfl⟩;have B4:=Hj (B3.out.trans (hb4.mono B3.out.size));clear hb4))
   | fail)
  go_ret
  exact⟨rfl,B4.out⟩
end
end Go.Proofs.YtdhbpajamlfacaaGreatDoor
