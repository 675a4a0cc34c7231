/- Layer 20 (store): text. -/
import Derived.Test.YtdhbpajamlfacaaGreatDoorApl
import Derived.Test.YtdhbpajamlfacaaGreatDoorStP
import Derived.Test.YtdhbpajamlfacaaGreatDoorTabSO
import Derived.Test.YtdhbpajamlfacaaGreatDoorWalK
import Derived.Test.YtdhbpajamlfacaaGreatDoorErrs
set_option maxRecDepth 100000
namespace Go.Proofs.YtdhbpajamlfacaaGreatDoor
open Go.RowKit SO
theorem Ns (b c:Nat) (w:World) (c0:w.cell? ⟨b,0,none⟩=some .nilIface) (c1:w.cell? ⟨b,1,none⟩=some .nilIface):
  Calls Tryz.prog 135 #[.slice (some ⟨b,0,none⟩) 2 c] w fun e w'=>e=.returned .nilIface∧w=w':=by
 go_enter Tryz.func135,Tryz.ntmps135
 go_wp2
 go_loopg [3,11] 2 (fun gk s3 s11 wr=>∃i:Nat,s11=.int .i64 (i:Int)∧s3=.int .i64 0∧i+gk=2∧wr=w)
 case atStart=>exact⟨0,rfl,rfl,rfl,rfl⟩
 case round=>
  obtain⟨i,rfl,rfl,hi,rfl⟩:=hrel
  rcases(show i=0∨i=1∨i=2 by omega) with rfl | rfl | rfl
  ·go_wp2
   go_roundg (gk-1)
   case measure=>omega
   case rel=>exact⟨1,rfl,rfl,by omega,rfl⟩
  ·go_wp2
   go_roundg (gk-1)
   case measure=>omega
   case rel=>exact⟨2,rfl,rfl,by omega,rfl⟩
  ·go_wp2
   go_ret
   exact⟨rfl,rfl⟩
theorem Ry {κ ν:Type} {lt:κ→κ→Bool} (Ln:rY lt) {l:List (κ×ν)} (hr:aO lt l) {i:Nat} {k:κ} {v:ν} (h:l[i]?=some (k,v)):look lt k l=some v:=by
 obtain⟨hi,e⟩:=List.getElem?_eq_some_iff.1 h
 have e2:l=l.take i++(k,v)::l.drop (i+1):=by
  have h2:=(List.take_append_drop i l).symm
  rw[List.drop_eq_getElem_cons hi,e] at h2
  exact h2
 rw[e2] at hr ⊢
 exact rZ Ln hr
theorem vT {rev:Nat} {tab:List (ByteArray×aH)} (h:qE rev tab) (hr:rev≤1099511627776):(aP rev tab).length≤13+10504*tab.length:=by
 have h1:(aT 2 (dG rev)).length≤13:=aW 2 (m:=9) (iG (by omega)) (by omega)
 have h2:∀l:List (ByteArray×aH),(∀x∈l,x.2.Ok∧x.2.ver≤rev)→(l.flatMap fun x=>fQ (false,x.2)).length≤10504*l.length:=by
  intro l
  induction l with
  | nil=>intro _;simp
  | cons x l ih=>
   intro hx
   have h3:=ih fun y hy=>hx y (List.mem_cons_of_mem _ hy)
   have h4:=lI (e:=(false,x.2)) (hx x (by simp)).1 (by have:=(hx x (by simp)).2;show x.2.ver≤_;omega)
   rw[List.flatMap_cons,List.length_append,List.length_cons]
   omega
 have h3:=h2 tab fun x hx=>⟨(h.each x hx).2.1,(h.each x hx).2.2.2⟩
 unfold aP
 rw[List.length_append]
 omega
section
variable {w w0:World} {Q:Nat→Prop} {g gs:Nat} {m:DM} {L:LM} {M:aY}
set_option maxHeartbeats 4000000 in
theorem Nu (h:SW w0 w Q g m gs L M) (hl:M.tab.length≤90):
  Calls Tryz.prog 79 #[.pointer (some ⟨gs,0,none⟩)] w fun e w'=>∃A c,e=.returned (.tuple #[.slice A (aP M.rev M.tab).length c,.nilIface])∧OB w' w.heap.size (.slice A (aP M.rev M.tab).length c) (aP M.rev M.tab)∧Below w.heap.size w w':=by
 obtain⟨Z,gl,gt,sh,ev,xs,ys,hV,-,-⟩:=h.use
 have hok:=hV.ok
 have hxl:xs.length≤90:=by have:=congrArg List.length hV.kK;rw[List.length_map] at this;omega
 have HC:Hid (∀W,Below w.heap.size w W→W.cell? ⟨gs,1,none⟩=some (.pointer (some ⟨gt,0,none⟩))):=Hj fun W hW=>(hV.below hW).cell.2.1
 have JI:Hid (∀W,Below w.heap.size w W→TabAt W gt sh (xs.map fun x=>(x.1,x.2.1))):=Hj fun W hW=>(hV.below hW).tab
 have YA:=Hj hV.CX
 have ql:Hid (∀W,Below w.heap.size w W→∀x∈xs,dI W x.2.1 x.2.2):=Hj fun W hW=>(hV.below hW).each
 have Nh:Hid (∀x∈xs,x.2.2.Ok∧x.2.2.ver≤1099511627776):=Hj fun x hx=>by
  have:=hok.tab.each (x.1,x.2.2) (by rw[hV.kK];exact List.mem_map.2 ⟨x,hx,rfl⟩)
  have hm:=hok.most
  exact⟨this.2.1,by have h4:=this.2.2.2;simp only at h4;omega⟩
 have HTM:=Hj hV.kK
 have HXL:=Hj hxl
 have HSL:Hid ((aP M.rev M.tab).length≤1000000):=Hj (by have:=vT hok.tab hok.most;omega)
 have c2:w.cell? ⟨gs,2,none⟩=some (.int .i64 (M.rev:Int)):=hV.cell.2.2.1
 have hrm:=hok.most
 have HPW:=Hj (su M.rev w (by omega))
 have HPL:Hid ((dG M.rev).length≤9):=Hj (iG (by omega))
 obtain⟨K,hK⟩:∃K,K=(dG M.rev).length:=⟨_,rfl⟩
 rw[←hK] at HPW
 have HKE:=Hj hK
 have hp9:=HPL.out
 obtain⟨B0,hB0⟩:∃b,b=aT 2 (dG M.rev):=⟨_,rfl⟩
 obtain⟨E0,hE0⟩:∃n,n=B0.length:=⟨_,rfl⟩
 have rM:Hid (∀(W:World) (A:Option Addr) (k:Nat),OB W w.heap.size (.slice A K k) (dG M.rev)→Calls Tryz.prog 107 #[.agg #[.int .i64 2,.slice A K k]] W fun e w'=>∃A' c',e=.returned (.tuple #[.slice A' E0 c',.nilIface])∧OB w' W.heap.size (.slice A' E0 c') B0∧Below W.heap.size W w'):=Hj fun W A k h=>by
  obtain⟨A',c',e',h1,h2,h3⟩:=OB.form h
  injection e' with e1 e2 e3
  have h4:=Iw 2 A K k (dG M.rev) W (.inr (by decide)) (by omega) (by rw[e1,e2];exact h3) (by rw[e2,e3];exact h1) (by rw[e3];exact h2) (by omega)
  rw[←hB0,←hE0] at h4
  exact h4
 have HE0:=Hj hE0
 have HB0:=Hj hB0
 have fH:Hid (aP M.rev M.tab=B0++M.tab.flatMap fun x=>fQ (false,x.2)):=Hj (by rw[hB0];rfl)
 obtain⟨NX,hNX⟩:∃n,n=xs.length:=⟨_,rfl⟩
 have YB:=Hj hNX
 have yQ:Hid (∀W,Below w.heap.size w W→Calls Tryz.prog 47 #[.pointer (some ⟨gt,0,none⟩)] W fun e w'=>∃A c,e=.returned (.slice A NX c)∧ah w' 0 9 1 (.slice A NX c) NX (xs.map fun x=>.string x.1)∧Below W.heap.size W w'):=Hj fun W hW=>by
  refine(FK gt sh _ W (JI.out W hW) (by rw[List.length_map];omega)).mono ?_
  rintro e w' ⟨kv,rfl,hrow,hb⟩
  rw[List.length_map,List.map_map,←hNX] at hrow
  have ho:=ah.vO hrow
  obtain⟨A,c,rfl,-,-⟩:=ho.form
  exact⟨A,c,rfl,ah.mono ho fun _ _=>Nat.zero_le _,hb⟩
 have YC:NX≤90:=by omega
 have HN9:=Hj YC
 clear h hV hok hl hxl hrm hK hp9 hB0 hE0 hNX YC
 by_cases hx0:NX=0
 ·have HX0:=Hj hx0
  have U0:Hid (aP M.rev M.tab=B0):=Hj (by
   have e:xs=[]:=List.eq_nil_of_length_eq_zero (by rw[←YB.out];exact hx0)
   rw[fH.out,HTM.out,e];simp)
  have U1:Hid ((aP M.rev M.tab).length=E0):=Hj (by rw[U0.out,HE0.out])
  subst hx0
  go_enter Tryz.func79,Tryz.ntmps79
  go_wp2_with (first
   | (go_at_call 134;((with_reducible refine HPW.out.mono ?_);rintro e w1 ⟨A1,k1,rfl,ho1,hb1⟩;have Q5:=Hj ho1;have HB1:=Hj hb1;clear ho1 hb1))
   | (go_at_call 107;((with_reducible refine(rM.out w1 A1 k1 Q5.out).mono ?_);rintro e w2 ⟨A2,k2,rfl,ho2,hb2⟩;have Rz:=Hj ho2;have HB2:Hid (Below w.heap.size w w2):=Hj (HB1.out.trans (hb2.mono HB1.out.size));have hgt2:=HC.out w2 HB2.out;clear ho2 hb2))
   | (go_at_call 47;((with_reducible refine(yQ.out w2 HB2.out).mono ?_);rintro e w3 ⟨KA,k3,rfl,hk3,hb3⟩;have HB3:Hid (Below w.heap.size w w3):=Hj (HB2.out.trans (hb3.mono HB2.out.size));have Iy:Hid (OB w3 w.heap.size (.slice A2 E0 k2) B0):=Hj (OB.mono (OB.below Rz.out hb3) HB1.out.size);clear hk3 hb3))
   | fail)
  go_loopg [4,5,28] 1 (fun gk s4 s5 YD wr=>YD=.int .i64 0∧s5=.nilIface∧s4=.slice A2 E0 k2∧wr=w3)
  case atStart=>exact⟨rfl,rfl,rfl,rfl⟩
  case round=>
   obtain⟨rfl,rfl,rfl,rfl⟩:=hrel
   go_wp2
   go_ret2
   refine⟨A2,k2,by rw[U1.out];rfl,?_,HB3.out⟩
   rw[U1.out,U0.out]
   exact Iy.out
 ·have hx1:0<NX:=Nat.pos_of_ne_zero hx0
  have HX1:=Hj hx1
  clear hx0 hx1
  go_enter Tryz.func79,Tryz.ntmps79
  go_wp2_with (first
   | (go_at_call 134;((with_reducible refine HPW.out.mono ?_);rintro e w1 ⟨A1,k1,rfl,ho1,hb1⟩;have Q5:=Hj ho1;have HB1:=Hj hb1;clear ho1 hb1))
   | (go_at_call 107;((with_reducible refine(rM.out w1 A1 k1 Q5.out).mono ?_);rintro e w2 ⟨A2,k2,rfl,ho2,hb2⟩;have Rz:=Hj ho2;have HB2:Hid (Below w.heap.size w w2):=Hj (HB1.out.trans (hb2.mono HB1.out.size));have hgt2:=HC.out w2 HB2.out;clear ho2 hb2))
   | (go_at_call 47;((with_reducible refine(yQ.out w2 HB2.out).mono ?_);rintro e w3 ⟨KA,k3,rfl,hk3,hb3⟩;obtain⟨kg,ko,kcap,ek,-,-,-⟩:=ah.cells hk3 (by rw[List.length_map,←YB.out];exact HX1.out);injection ek with ek1 ek2 ek3;subst ek1;have V3:=Hj hk3;clear ek2 ek3;have HB3:Hid (Below w.heap.size w w3):=Hj (HB2.out.trans (hb3.mono HB2.out.size));have Iy:Hid (OB w3 w.heap.size (.slice A2 E0 k2) B0):=Hj (OB.mono (OB.below Rz.out hb3) HB1.out.size);clear hk3 hb3))
   | fail)
  go_loopg [4,5,28] NX (fun gk s4 s5 YD wr=>∃i:Nat,YD=.int .i64 (i:Int)∧s5=.nilIface∧i+gk=NX∧OB wr w.heap.size s4 (B0++(M.tab.take i).flatMap fun x=>fQ (false,x.2))∧ah wr 0 9 1 (.slice (some ⟨kg,ko,none⟩) NX k3) NX (xs.map fun x=>.string x.1)∧Below w.heap.size w wr)
  case atStart=>exact⟨0,rfl,rfl,by omega,by simp only[List.take_zero,List.flatMap_nil,List.append_nil];exact Iy.out,V3.out,HB3.out⟩
  case round=>
   obtain⟨i,rfl,rfl,hi,hob,hkeys,hbel⟩:=hrel
   have HI:=Hj hi
   have xX:=Hj hob
   have V5:=Hj hkeys
   have xY:=Hj hbel
   obtain⟨Ao,co,eo,-,-,-⟩:=hob.form
   obtain⟨F,hF⟩:∃F,F=(B0++(M.tab.take i).flatMap fun x=>fQ (false,x.2)):=⟨_,rfl⟩
   rw[←hF] at xX eo
   have HFE:=Hj hF
   have hFl:F.length≤1000000:=by
    have h1:=HSL.out
    rw[fH.out] at h1
    rw[hF]
    have h2:((M.tab.take i).flatMap fun x=>fQ (false,x.2)).length≤(M.tab.flatMap fun x=>fQ (false,x.2)).length:=by
     conv=>rhs;rw[←List.take_append_drop i M.tab,List.flatMap_append,List.length_append]
     omega
    rw[List.length_append] at h1 ⊢
    omega
   have HFl:=Hj hFl
   obtain⟨FL,YE⟩:∃n,n=F.length:=⟨_,rfl⟩
   rw[←YE] at eo
   have HFLe:=Hj YE
   by_cases hlt:i<NX
   ·have hx:∃k v o,xs[i]?=some (k,(v,o)):=by
     have h1:i<xs.length:=by have:=YB.out;omega
     exact⟨_,_,_,List.getElem?_eq_getElem h1⟩
    obtain⟨k,v,o,hx⟩:=hx
    have HXI:=Hj hx
    have hmem:(k,(v,o))∈xs:=List.mem_of_getElem? hx
    have hck:wr.cell? ⟨kg,ko+i,none⟩=some (.string k):=by
     obtain⟨g',o',cap',e',-,-,hc⟩:=ah.cells hkeys (by rw[List.length_map,←YB.out];omega)
     injection e' with e1 e2 e3
     injection e1 with e1
     injection e1 with e4 e5
     rw[e4,e5]
     exact hc i _ (by rw[List.getElem?_map,hx];rfl)
    have hgt:=HC.out wr hbel
    have hlk:look aJ k (xs.map fun x=>(x.1,x.2.1))=some v:=Ry gB YA.out (i:=i) (by rw[List.getElem?_map,hx];rfl)
    have mQ:=Hj (nC gt k v sh _ wr (JI.out wr hbel) YA.out hlk)
    have hp:=Nh.out _ hmem
    have hIs:=ql.out wr hbel _ hmem
    simp only at hp hIs
    have HIsv:Hid (∀W,Below w.heap.size w W→dI W v o):=Hj fun W hW=>ql.out W hW _ hmem
    obtain⟨p1,p2,p3,p4,p5⟩:=hp.1.parts
    have hpd:=hp.1.data
    have xU:=hIs.ver
    have V6:=lI (e:=(false,o)) hp.1 hp.2
    obtain⟨EV,hEV⟩:∃b,b=fQ (false,o):=⟨_,rfl⟩
    obtain⟨EL,XP⟩:∃n,n=EV.length:=⟨_,rfl⟩
    rw[←hEV] at V6
    have HBy:Hid (∀W,Below w.heap.size w W→Calls Tryz.prog 99 #[.agg #[.int .i64 v.ver,.bool false,.int .i64 v.kind,.string v.space,.string v.name,.int .i64 v.ver,.slice v.A v.n v.c]] W fun e w'=>∃A c,e=.returned (.tuple #[.slice A EL c,.nilIface])∧OB w' W.heap.size (.slice A EL c) EV∧Below W.heap.size W w'):=Hj fun W hW=>by
     have hI:=HIsv.out W hW
     have h5:=yM o.ver o.kind v o.data W hI.kind (by omega) (by omega) (by rw[hI.space];omega) (by rw[hI.name];omega) hI.rb (by rw[hI.num];omega) hI.cap.1 hI.cap.2
     unfold YF at h5
     rw[←xU,hI.space,hI.name] at h5
     rw[hI.space,hI.name]
     have e5:Df 1 o.kind o.ver o.space.data.toList o.name.data.toList o.data=EV:=by rw[hEV];rfl
     rw[e5,←XP] at h5
     exact h5
    have U2:B0++((M.tab.take (i+1)).flatMap fun x=>fQ (false,x.2))=F++EV:=by
     have h1:M.tab[i]?=some (k,o):=by rw[HTM.out,List.getElem?_map,hx];rfl
     obtain⟨h2,h3⟩:=List.getElem?_eq_some_iff.1 h1
     rw[List.take_succ_eq_append_getElem h2,h3,List.flatMap_append,hF,List.append_assoc,hEV]
     simp
    have YG:=Hj U2
    have Yp:=Hj XP
    have HEvL:Hid (EV.length≤10504):=Hj V6
    subst eo
    have i0:(0:Int)≤(i:Int):=by omega
    have i1:(i:Int)<(NX:Int):=by omega
    have i2:(i:Int)≤90:=by have:=HN9.out;omega
    have FM:=Hj hlt
    clear hi hob hkeys hbel hF hFl YE hx hmem hlk hp hIs p1 p2 p3 p4 p5 hpd xU V6 hEV XP U2 hlt
    go_wp2_with (first
     | (go_at_call 45;((with_reducible refine mQ.out.mono ?_);rintro e w4 ⟨rfl,hb4⟩;have HB4:=Hj hb4;clear hb4))
     | (go_at_call 99;(
       have V7:Below w.heap.size w (w4.alloc (.cells #[.int .i64 v.kind,.string v.space,.string v.name,.int .i64 v.ver,.slice v.A v.n v.c] 37)):=(xY.out.trans (HB4.out.mono xY.out.size)).alloc (Cz xY.out.size HB4.out.size) _
       (with_reducible refine(HBy.out _ V7).mono ?_)
       rintro e w5 ⟨A5,k5,rfl,vF,hb5⟩
       have CO:Hid (OB w5 w.heap.size (.slice A5 EL k5) EV):=Hj (OB.mono vF V7.size)
       have kT:Hid (Below wr.heap.size wr w5):=Hj ((HB4.out.alloc HB4.out.size _).trans (hb5.mono (HB4.out.alloc HB4.out.size _).size))
       clear V7 vF hb5))
     | (go_at_call 135;(
       obtain⟨w6,hw6⟩:∃W,W=w5.alloc (.cells #[.nilIface,.nilIface] 32):=⟨_,rfl⟩
       have hr6:=heap_alloc_new w5 (.cells #[.nilIface,.nilIface] 32)
       have hb6:=(Below.refl w5.heap.size w5).alloc Kv (.cells #[.nilIface,.nilIface] 32)
       rw[←hw6] at hr6 hb6 ⊢
       have JJ:Hid (Below wr.heap.size wr w6):=Hj (kT.out.trans (hb6.mono kT.out.size))
       have HO6:Hid (OB w6 w.heap.size (.slice A5 EL k5) EV):=Hj (OB.below CO.out hb6)
       (with_reducible refine(Ns _ _ w6 (Kq 0 hr6) (Kq 1 hr6)).mono ?_)
       rintro e w' ⟨rfl,rfl⟩
       clear hw6 hr6 hb6))
     | (at_builtin;(
       have ho:=OB.below xX.out JJ.out
       have hrb:RB w6 A5 EL EV:=(by
        obtain⟨A',c',e',-,-,h3⟩:=OB.form HO6.out
        injection e' with e1 e2 e3
        rw[e1,e2];exact h3)
       have ho':OB w6 w.heap.size (.slice Ao FL co) F:=ho
       refine aA rfl (.tmp 53) (.tmp 54) 35 rfl ho' rfl (RB.src Tryz.underlying35 hrb) rfl (by have:=HFl.out;have:=HEvL.out;omega) (xY.out.trans (JJ.out.mono xY.out.size)).size ?_
       intro v7 w7 aF bg o8
       have HO7:=Hj aF
       have HB7:Hid (Below w.heap.size w w7):=Hj (aS (xY.out.trans (JJ.out.mono xY.out.size)) bg ho' Kv (xY.out.trans (JJ.out.mono xY.out.size)).size)
       have HK7:Hid (ah w7 0 9 1 (.slice (some ⟨kg,ko,none⟩) NX k3) NX (xs.map fun x=>.string x.1)):=Hj (by
        have h6:=ah.below V5.out JJ.out
        refine ah.kept h6 (Fr.aU bg) fun q hq e=> ?_
        obtain⟨cur,hcur⟩:=ak h6 hq
        obtain⟨cur',jh⟩:=ak ho' e.symm
        exact absurd (aj hcur jh) (by decide))
       clear aF bg o8 ho ho' hrb))
     | fail)
    go_roundg (gk-1)
    case measure=>have:=HI.out;have:=FM.out;omega
    case rel=>exact⟨i+1,by go_num,rfl,by have:=HI.out;have:=FM.out;omega,by rw[YG.out];exact HO7.out,HK7.out,HB7.out⟩
   ·have hin:i=NX:=by omega
    have HEq:Hid (aP M.rev M.tab=F):=Hj (by
     rw[fH.out,hF,List.take_of_length_le]
     rw[HTM.out,List.length_map,←YB.out];omega)
    have YH:Hid ((aP M.rev M.tab).length=FL):=Hj (by rw[HEq.out,YE])
    have q5:¬(i:Int)<(NX:Int):=by omega
    subst eo
    clear hi hob hkeys hbel hF hFl YE hin hlt
    go_wp2
    go_ret2
    refine⟨Ao,co,by rw[YH.out];rfl,?_,xY.out⟩
    rw[YH.out,HEq.out]
    exact xX.out
end
theorem qF (ea:Nat→Addr) (n:Nat):errOf ea n=bK ea n:=by
 cases n with
 | zero=>rfl
 | succ n=>rfl
theorem bM (ea:Nat→Addr) {n:Nat} (h:n≠0):bK ea n=.iface 368 (.pointer (some (ea n))):=by
 cases n with
 | zero=>exact absurd rfl h
 | succ n=>rfl
/-- errors.Is of nil. -/
theorem is_nil (b:Addr) (w:World):
  Calls Tryz.prog 41 #[.nilIface,.iface 368 (.pointer (some b))] w fun e w'=>e=.returned (.bool false)∧w=w':=by
 have heq:=run_eql_iface_nil_left (P:=Tryz.prog) (w:=w) 368 (.pointer (some b)) Tryz.underlying32
 go_enter Tryz.func41,Tryz.ntmps41
 go_wp2
 go_ret
 exact⟨rfl,rfl⟩
section
variable {w w0:World} {Q:Nat→Prop} {g gs:Nat} {m:DM} {L:LM} {M:aY} {ea:Nat→Addr}
/-- The store behind a snapshot. -/
theorem SW.packed {w':World} {m':DM} {L':LM} (h:SW w0 w Q g m' gs L' M) (hw:∀gl gt ev,w.heap[gs]?=some (.cells #[.pointer (some ⟨gl,0,none⟩),.pointer (some ⟨gt,0,none⟩),.int .i64 (M.rev:Int),.int .i64 (M.base:Int),ev] 104 (0,0))→w'.heap[gs]?=some (.cells #[.pointer (some ⟨gl,0,none⟩),.pointer (some ⟨gt,0,none⟩),.int .i64 (M.rev:Int),.int .i64 (M.rev:Int),.slice none 0 0] 104 (0,0)))
  (hf:Fr (fun k=>k=gs) w w'):SW w0 w' (ext Q w w') g m' gs L' M.fresh∧Fr Q w w':=by
 obtain⟨Z,gl,gt,sh,ev,xs,ys,hV,hZ,hU⟩:=h.use
 have hne:¬gt=gs:=fun e=>by
  obtain⟨p,hp,-⟩:=hV.tab
  exact kJ hp e hV.cells (by decide)
 have hs:SV w' Z gl gs gt sh (.slice none 0 0) xs [] M.fresh:=
  ⟨hw gl gt ev hV.cells,hV.tab.fr hf hne fun b cs hb e=>kJ hb e hV.cells (by decide),hV.kK,fun x hx=>(hV.each x hx).fr hf fun k hk e=>(by
   obtain⟨cur,hcur⟩:=ak (hV.each x hx).data hk
   exact kJ hcur e hV.cells (by decide)),ah.nil _ _ _ _,rfl,fun y hy=>(by cases hy),aY.vW hV.ok.tab hV.ok.most,hV.zs,hV.zt,fun k hk=>(by cases hk),hV.zx,fun y hy=>(by cases hy)⟩
 obtain⟨h1,h2⟩:=hU w' Z sh _ xs [] M.fresh (fun _=>False) hs (hf.mono fun i _ e=>by rw[e];exact hV.zs) (fun k hk=>hk.elim) fun k hk=>.inl hk
 exact⟨h1.mono (fun k hk=>hk.elim id False.elim) fun k hk=>eU h.up h.hi h.bel.size hf.size hk,h2⟩
set_option maxHeartbeats 4000000 in
theorem vU (h:SW w0 w Q g m gs L M) (hE:EW w0 ea) (hok:m.Ok) (hL:L.Ok) (hw:m.waits.length≤1000) (hl:M.tab.length≤90):
  Calls Tryz.prog 35 #[.pointer (some ⟨gs,0,none⟩)] w fun e w'=>e=.returned (bK ea (L.mM m (aP M.rev M.tab)))∧
   SW w0 w' (ext Q w w') g (L.lD m (aP M.rev M.tab)) gs (L.cp m (aP M.rev M.tab)) (if L.mM m (aP M.rev M.tab)=0 then M.fresh else M)∧Fr Q w w':=by
 have FN:=Hj (Nu h hl)
 have HSL:Hid ((aP M.rev M.tab).length≤1000000):=Hj (by have:=vT h.ok.tab h.ok.most;omega)
 obtain⟨t,ht⟩:∃t,t=aP M.rev M.tab:=⟨_,rfl⟩
 rw[←ht] at FN HSL ⊢
 obtain⟨TL,hTL⟩:∃n,n=t.length:=⟨_,rfl⟩
 rw[←hTL] at FN HSL
 obtain⟨E,hEE⟩:∃n,n=L.mM m t:=⟨_,rfl⟩
 rw[←hEE]
 have Fj:Hid (∀(w1:World) (A1:Option Addr) (k1:Nat),Below w.heap.size w w1→OB w1 w.heap.size (.slice A1 TL k1) t→∃gl,w1.cell? ⟨gs,0,none⟩=some (.pointer (some ⟨gl,0,none⟩))∧Calls Tryz.prog 80 #[.pointer (some ⟨gl,0,none⟩),.slice A1 TL k1] w1 fun e w'=>e=.returned (bK ea E)∧SW w0 w' (ext Q w w') g (L.lD m t) gs (L.cp m t) M∧Fr Q w w'):=Hj fun w1 A1 k1 hb1 ho1=>by
  obtain⟨S,gl,hdw,hc0,-,hcl⟩:=(h.below hb1).log
  obtain⟨A',c',e',-,-,h3⟩:=OB.form ho1
  injection e' with e1 e2 e3
  refine⟨gl,hc0,(Dj A1 TL k1 t hdw hE hok hL (by rw[e1,e2];exact h3) HSL.out hw).mono ?_⟩
  rintro e w' ⟨rfl,VQ,hf2⟩
  have h2:=h.behind hb1 (hcl _ _ _ VQ hf2)
  exact⟨by rw[hEE],h2.1,h2.2⟩
 have ng:=Hj h
 clear h hE hok hL hw hl ht hTL hEE
 by_cases h0:E=0
 ·subst h0
  rw[if_pos rfl]
  go_enter Tryz.func35,Tryz.ntmps35
  go_wp2_with (first
   | (go_at_call 79;((with_reducible refine FN.out.mono ?_);rintro e w1 ⟨A1,k1,rfl,ho1,hb1⟩;obtain⟨gl,hc0,hcp⟩:=Fj.out w1 A1 k1 hb1 ho1;have V8:=Hj hcp;clear hcp ho1 hb1))
   | (go_at_call 80;(
     (with_reducible refine V8.out.mono ?_)
     rintro e w2 ⟨rfl,JK,hf2⟩
     rw[bQ]
     obtain⟨Z2,gl2,eX,sh2,ev2,xs2,ys2,hV2,-,-⟩:=JK.use
     obtain⟨-,-,q2,q3,q4⟩:=hV2.cell
     have fz:=hV2.fz
     have HS2:=Hj JK
     have HF2:=Hj hf2
     clear JK hf2 hV2))
   | fail)
  go_ret
  have hF:Fr (fun k=>k=gs) w2 ((w2.setCell ⟨gs,3,none⟩ (.int .i64 (M.rev:Int))).setCell ⟨gs,4,none⟩ (.slice none 0 0)):=((Fr.refl (fun k=>k=gs) w2).setCell (p:=⟨gs,3,none⟩) (fun _=>rfl) _).setCell (p:=⟨gs,4,none⟩) (fun _=>rfl) _
  have hP:=HS2.out.packed (fun gl gt ev hr=>heap_setCell_same _ _ 4 _ _ (.slice none 0 0) (heap_setCell_same _ _ 3 _ _ (.int .i64 (M.rev:Int)) hr)) hF
  obtain⟨r1,r2⟩:=ng.out.then HF2.out hP
  exact⟨rfl,r1,r2⟩
 ·rw [if_neg h0]
  have hd:=bM ea h0
  rw[hd] at Fj ⊢
  clear hd h0
  go_enter Tryz.func35,Tryz.ntmps35
  go_wp2_with (first
   | (go_at_call 79;((with_reducible refine FN.out.mono ?_);rintro e w1 ⟨A1,k1,rfl,ho1,hb1⟩;obtain⟨gl,hc0,hcp⟩:=Fj.out w1 A1 k1 hb1 ho1;have V8:=Hj hcp;clear hcp ho1 hb1))
   | (go_at_call 80;(
     (with_reducible refine V8.out.mono ?_)
     rintro e w2 ⟨rfl,JK,hf2⟩
     have HS2:=Hj JK
     have HF2:=Hj hf2
     clear JK hf2))
   | fail)
  go_ret
  exact⟨rfl,HS2.out,HF2.out⟩
end
end Go.Proofs.YtdhbpajamlfacaaGreatDoor
