/- Layer 20 (store): text. -/
import Derived.Test.YtdhbpajamlfacaaGreatDoorStS
import Derived.Test.YtdhbpajamlfacaaGreatDoorStP
import Derived.Test.YtdhbpajamlfacaaGreatDoorTabSO
import Derived.Test.YtdhbpajamlfacaaGreatDoorWalK
import Derived.Test.YtdhbpajamlfacaaGreatDoorApl
import Derived.Test.YtdhbpajamlfacaaGreatDoorErrs
set_option maxHeartbeats 4000000
set_option maxRecDepth 100000
namespace Go.Proofs.YtdhbpajamlfacaaGreatDoor
open Go.RowKit SO
theorem Qa (b c:Nat) (w:World) (c0:w.cell? ⟨b,0,none⟩=some .nilIface) (c1:w.cell? ⟨b,1,none⟩=some .nilIface):
  Cl 135 #[.slice (some ⟨b,0,none⟩) 2 c] w fun e w'=>e=.returned .nilIface∧w=w':=by
 go_enter Tryz.func135,Tryz.ntmps135
 go_wp2
 go_loopg [3,11] 2 (fun gk s3 s11 wr=>∃i:Nat,s11=.int .i64 (i:Int)∧s3=.int .i64 0∧i+gk=2∧wr=w)
 case atStart=>exact⟨0,rfl,rfl,rfl,rfl⟩
 case round=>
  obtain⟨i,rfl,rfl,hi,rfl⟩:=hrel
  rcases(show i=0∨i=1∨i=2 by omega) with rfl | rfl | rfl
  ·go_wp2
   go_roundg (gk-1)
   case measure=>omega
   case rel=>exact⟨1,rfl,rfl,by omega,rfl⟩
  ·go_wp2
   go_roundg (gk-1)
   case measure=>omega
   case rel=>exact⟨2,rfl,rfl,by omega,rfl⟩
  ·go_wp2
   go_ret
   exact⟨rfl,rfl⟩
theorem UM {κ ν:Type} {lt:κ→κ→Bool} (Ln:vZ lt) {l:List (κ×ν)} (hr:aT lt l) {i:Nat} {k:κ} {v:ν} (h:l[i]?=some (k,v)):look lt k l=some v:=by
 obtain⟨hi,e⟩:=fA.1 h
 have e2:l=l.take i++(k,v)::l.drop (i+1):=by
  have h2:=(rE i l).symm
  rw[List.drop_eq_getElem_cons hi,e] at h2
  exact h2
 rw[e2] at hr ⊢
 exact uV Ln hr
theorem Fe {rev:Nat} {tab:List (ByteArray×aC)} (h:wu rev tab) (hr:rev≤1099511627776):(bY rev tab).length≤13+10504*tab.length:=by
 have h1:(bG 2 (dY rev)).length≤13:=bM 2 (m:=9) (jE (by omega)) (by omega)
 have h2:∀l:List (ByteArray×aC),(∀x∈l,x.2.Ok∧x.2.ver≤rev)→(l.flatMap fun x=>jV (false,x.2)).length≤10504*l.length:=by
  intro l
  induction l with
  | nil=>intro _;simp
  | cons x l ih=>
   intro hx
   have h3:=ih fun y hy=>hx y (gK _ hy)
   have h4:=qK (e:=(false,x.2)) (hx x (by simp)).1 (by have:=(hx x (by simp)).2;show x.2.ver≤_;omega)
   rw[List.flatMap_cons,bP,qV]
   omega
 have h3:=h2 tab fun x hx=>⟨(h.each x hx).2.1,(h.each x hx).2.2.2⟩
 unfold bY
 rw[bP]
 omega
section
variable {w w0:World} {Q:Nat→Prop} {g gs:Nat} {m:DM} {L:LM} {M:bQ}
theorem Qb (h:SW w0 w Q g m gs L M) (hl:M.tab.length≤90):
  Cl 79 #[pt gs] w fun e w'=>∃A c,e=.returned (.tuple #[.slice A (bY M.rev M.tab).length c,.nilIface])∧OB w' w.heap.size (.slice A (bY M.rev M.tab).length c) (bY M.rev M.tab)∧Bw w w':=by
 obtain⟨Z,gl,gt,sh,ev,xs,ys,hV,-,-⟩:=h.use
 have hok:=hV.ok
 have hxl:xs.length≤90:=by have:=bJ List.length hV.nD;rw[aX] at this;omega
 have HC:Hid (∀W,Bw w W→W.cell? ⟨gs,1,none⟩=some (pt gt)):=Hj fun W hW=>(hV.below hW).cell.2.1
 have Nj:Hid (∀W,Bw w W→TabAt W gt sh (xs.map fun x=>(x.1,x.2.1))):=Hj fun W hW=>(hV.below hW).tab
 have HRis:=Hj hV.tH
 have rH:Hid (∀W,Bw w W→∀x∈xs,dD W x.2.1 x.2.2):=Hj fun W hW=>(hV.below hW).each
 have KI:Hid (∀x∈xs,x.2.2.Ok∧x.2.2.ver≤1099511627776):=Hj fun x hx=>by
  have:=hok.tab.each (x.1,x.2.2) (by rw[hV.nD];exact bW.2 ⟨x,hx,rfl⟩)
  have hm:=hok.most
  exact⟨this.2.1,by have h4:=this.2.2.2;simp only at h4;omega⟩
 have HTM:=Hj hV.nD
 have HXL:=Hj hxl
 have HSL:Hid ((bY M.rev M.tab).length≤1000000):=Hj (by have:=Fe hok.tab hok.most;omega)
 have c2:w.cell? ⟨gs,2,none⟩=some (.int .i64 (M.rev:Int)):=hV.cell.2.2.1
 have hrm:=hok.most
 have HPW:=Hj (uX M.rev w (by omega))
 have HPL:Hid ((dY M.rev).length≤9):=Hj (jE (by omega))
 obtain⟨K,hK⟩:∃K,K=(dY M.rev).length:=⟨_,rfl⟩
 rw[←hK] at HPW
 have HKE:=Hj hK
 have Z7:=HPL.out
 obtain⟨B0,hB0⟩:∃b,b=bG 2 (dY M.rev):=⟨_,rfl⟩
 obtain⟨E0,hE0⟩:∃n,n=B0.length:=⟨_,rfl⟩
 have uO:Hid (∀(W:World) (A:Option Addr) (k:Nat),OB W w.heap.size (.slice A K k) (dY M.rev)→Cl 107 #[.agg #[.int .i64 2,.slice A K k]] W fun e w'=>∃A' c',e=.returned (.tuple #[.slice A' E0 c',.nilIface])∧OB w' W.heap.size (.slice A' E0 c') B0∧Bw W w'):=Hj fun W A k h=>by
  obtain⟨A',c',e',h1,h2,h3⟩:=OB.form h
  injection e' with e1 e2 e3
  have h4:=KO 2 A K k (dY M.rev) W (.inr (by decide)) (by omega) (by rw[e1,e2];exact h3) (by rw[e2,e3];exact h1) (by rw[e3];exact h2) (by omega)
  rw[←hB0,←hE0] at h4
  exact h4
 have HE0:=Hj hE0
 have HB0:=Hj hB0
 have jg:Hid (bY M.rev M.tab=B0++M.tab.flatMap fun x=>jV (false,x.2)):=Hj (by rw[hB0];rfl)
 obtain⟨NX,hNX⟩:∃n,n=xs.length:=⟨_,rfl⟩
 have HNX:=Hj hNX
 have yw:Hid (∀W,Bw w W→Cl 47 #[pt gt] W fun e w'=>∃A c,e=.returned (.slice A NX c)∧ah w' 0 9 1 (.slice A NX c) NX (xs.map fun x=>.string x.1)∧Bw W w'):=Hj fun W hW=>by
  refine(IW gt sh _ W (Nj.out W hW) (by rw[aX];omega)).mono ?_
  rintro e w' ⟨kv,rfl,hrow,hb⟩
  rw[aX,iH,←hNX] at hrow
  have ho:=ah.rW hrow
  obtain⟨A,c,rfl,-,-⟩:=ho.form
  exact⟨A,c,rfl,ah.mono ho fun _ _=>bU _,hb⟩
 have hnx9:NX≤90:=by omega
 have HN9:=Hj hnx9
 clear h hV hok hl hxl hrm hK Z7 hB0 hE0 hNX hnx9
 by_cases hx0:NX=0
 ·have HX0:=Hj hx0
  have Xl:Hid (bY M.rev M.tab=B0):=Hj (by
   have e:xs=[]:=mP (by rw[←HNX.out];exact hx0)
   rw[jg.out,HTM.out,e];simp)
  have Xm:Hid ((bY M.rev M.tab).length=E0):=Hj (by rw[Xl.out,HE0.out])
  subst hx0
  go_enter Tryz.func79,Tryz.ntmps79
  go_wp2_with (first
   | (go_at_call 134;((refine HPW.out.mono ?_);rintro e w1 ⟨A1,k1,rfl,ho1,hb1⟩;have Yr:=Hj ho1;have HB1:=Hj hb1;clear ho1 hb1))
   | (go_at_call 107;((refine(uO.out w1 A1 k1 Yr.out).mono ?_);rintro e w2 ⟨A2,k2,rfl,ho2,hb2⟩;have UN:=Hj ho2;have HB2:Hid (Bw w w2):=Hj (HB1.out.trans (hb2.mono HB1.out.size));have hgt2:=HC.out w2 HB2.out;clear ho2 hb2))
   | (go_at_call 47;((refine(yw.out w2 HB2.out).mono ?_);rintro e w3 ⟨KA,k3,rfl,hk3,hb3⟩;have HB3:Hid (Bw w w3):=Hj (HB2.out.trans (hb3.mono HB2.out.size));have KQ:Hid (OB w3 w.heap.size (.slice A2 E0 k2) B0):=Hj (OB.mono (OB.below UN.out hb3) HB1.out.size);clear hk3 hb3))
   | fail)
  go_loopg [4,5,28] 1 (fun gk s4 s5 s28 wr=>s28=.int .i64 0∧s5=.nilIface∧s4=.slice A2 E0 k2∧wr=w3)
  case atStart=>exact⟨rfl,rfl,rfl,rfl⟩
  case round=>
   obtain⟨rfl,rfl,rfl,rfl⟩:=hrel
   go_wp2
   go_ret2
   refine⟨A2,k2,by rw[Xm.out];rfl,?_,HB3.out⟩
   rw[Xm.out,Xl.out]
   exact KQ.out
 ·have hx1:0<NX:=Nat.pos_of_ne_zero hx0
  have HX1:=Hj hx1
  clear hx0 hx1
  go_enter Tryz.func79,Tryz.ntmps79
  go_wp2_with (first
   | (go_at_call 134;((refine HPW.out.mono ?_);rintro e w1 ⟨A1,k1,rfl,ho1,hb1⟩;have Yr:=Hj ho1;have HB1:=Hj hb1;clear ho1 hb1))
   | (go_at_call 107;((refine(uO.out w1 A1 k1 Yr.out).mono ?_);rintro e w2 ⟨A2,k2,rfl,ho2,hb2⟩;have UN:=Hj ho2;have HB2:Hid (Bw w w2):=Hj (HB1.out.trans (hb2.mono HB1.out.size));have hgt2:=HC.out w2 HB2.out;clear ho2 hb2))
   | (go_at_call 47;((refine(yw.out w2 HB2.out).mono ?_);rintro e w3 ⟨KA,k3,rfl,hk3,hb3⟩;obtain⟨kg,ko,kcap,ek,-,-,-⟩:=ah.cells hk3 (by rw[aX,←HNX.out];exact HX1.out);injection ek with ek1 ek2 ek3;subst ek1;have Yt:=Hj hk3;clear ek2 ek3;have HB3:Hid (Bw w w3):=Hj (HB2.out.trans (hb3.mono HB2.out.size));have KQ:Hid (OB w3 w.heap.size (.slice A2 E0 k2) B0):=Hj (OB.mono (OB.below UN.out hb3) HB1.out.size);clear hk3 hb3))
   | fail)
  go_loopg [4,5,28] NX (fun gk s4 s5 s28 wr=>∃i:Nat,s28=.int .i64 (i:Int)∧s5=.nilIface∧i+gk=NX∧OB wr w.heap.size s4 (B0++(M.tab.take i).flatMap fun x=>jV (false,x.2))∧ah wr 0 9 1 (.slice (some ⟨kg,ko,none⟩) NX k3) NX (xs.map fun x=>.string x.1)∧Bw w wr)
  case atStart=>exact⟨0,rfl,rfl,by omega,by simp only[List.take_zero,List.flatMap_nil,List.append_nil];exact KQ.out,Yt.out,HB3.out⟩
  case round=>
   obtain⟨i,rfl,rfl,hi,hob,hkeys,hbel⟩:=hrel
   have HI:=Hj hi
   have Af:=Hj hob
   have Yu:=Hj hkeys
   have Ag:=Hj hbel
   obtain⟨Ao,co,eo,-,-,-⟩:=hob.form
   obtain⟨F,hF⟩:∃F,F=(B0++(M.tab.take i).flatMap fun x=>jV (false,x.2)):=⟨_,rfl⟩
   rw[←hF] at Af eo
   have HFE:=Hj hF
   have hFl:F.length≤1000000:=by
    have h1:=HSL.out
    rw[jg.out] at h1
    rw[hF]
    have h2:((M.tab.take i).flatMap fun x=>jV (false,x.2)).length≤(M.tab.flatMap fun x=>jV (false,x.2)).length:=by
     conv=>rhs;rw[←rE i M.tab,List.flatMap_append,bP]
     omega
    rw[bP] at h1 ⊢
    omega
   have HFl:=Hj hFl
   obtain⟨FL,hFL⟩:∃n,n=F.length:=⟨_,rfl⟩
   rw[←hFL] at eo
   have HFLe:=Hj hFL
   by_cases hlt:i<NX
   ·have hx:∃k v o,xs[i]?=some (k,(v,o)):=by
     have h1:i<xs.length:=by have:=HNX.out;omega
     exact⟨_,_,_,fJ h1⟩
    obtain⟨k,v,o,hx⟩:=hx
    have HXI:=Hj hx
    have hmem:(k,(v,o))∈xs:=gJ hx
    have hck:wr.cell? ⟨kg,ko+i,none⟩=some (.string k):=by
     obtain⟨g',o',cap',e',-,-,hc⟩:=ah.cells hkeys (by rw[aX,←HNX.out];omega)
     injection e' with e1 e2 e3
     injection e1 with e1
     injection e1 with e4 e5
     rw[e4,e5]
     exact hc i _ (by rw[dK,hx];rfl)
    have hgt:=HC.out wr hbel
    have hlk:look aS k (xs.map fun x=>(x.1,x.2.1))=some v:=UM dh HRis.out (i:=i) (by rw[dK,hx];rfl)
    have pJ:=Hj (kF gt k v sh _ wr (Nj.out wr hbel) HRis.out hlk)
    have hp:=KI.out _ hmem
    have hIs:=rH.out wr hbel _ hmem
    simp only at hp hIs
    have HIsv:Hid (∀W,Bw w W→dD W v o):=Hj fun W hW=>rH.out W hW _ hmem
    obtain⟨p1,p2,p3,p4,p5⟩:=hp.1.parts
    have hpd:=hp.1.data
    have Ac:=hIs.ver
    have Yv:=qK (e:=(false,o)) hp.1 hp.2
    obtain⟨EV,hEV⟩:∃b,b=jV (false,o):=⟨_,rfl⟩
    obtain⟨EL,Z4⟩:∃n,n=EV.length:=⟨_,rfl⟩
    rw[←hEV] at Yv
    have HBy:Hid (∀W,Bw w W→Cl 99 #[.agg #[.int .i64 v.ver,.bool false,.int .i64 v.kind,.string v.space,.string v.name,.int .i64 v.ver,.slice v.A v.n v.c]] W fun e w'=>∃A c,e=.returned (.tuple #[.slice A EL c,.nilIface])∧OB w' W.heap.size (.slice A EL c) EV∧Bw W w'):=Hj fun W hW=>by
     have hI:=HIsv.out W hW
     have h5:=Bj o.ver o.kind v o.data W hI.kind (by omega) (by omega) (by rw[hI.space];omega) (by rw[hI.name];omega) hI.rb (by rw[hI.num];omega) hI.cap.1 hI.cap.2
     unfold evV at h5
     rw[←Ac,hI.space,hI.name] at h5
     rw[hI.space,hI.name]
     have e5:E5 1 o.kind o.ver o.space.data.toList o.name.data.toList o.data=EV:=by rw[hEV];rfl
     rw[e5,←Z4] at h5
     exact h5
    have Xn:B0++((M.tab.take (i+1)).flatMap fun x=>jV (false,x.2))=F++EV:=by
     have h1:M.tab[i]?=some (k,o):=by rw[HTM.out,dK,hx];rfl
     obtain⟨h2,h3⟩:=fA.1 h1
     rw[mO h2,h3,List.flatMap_append,hF,mQ,hEV]
     simp
    have HFlat:=Hj Xn
    have HELe:=Hj Z4
    have HEvL:Hid (EV.length≤10504):=Hj Yv
    subst eo
    have i0:(0:Int)≤(i:Int):=by omega
    have i1:(i:Int)<(NX:Int):=by omega
    have i2:(i:Int)≤90:=by have:=HN9.out;omega
    have IX:=Hj hlt
    clear hi hob hkeys hbel hF hFl hFL hx hmem hlk hp hIs p1 p2 p3 p4 p5 hpd Ac Yv hEV Z4 Xn hlt
    go_wp2_with (first
     | (go_at_call 45;((refine pJ.out.mono ?_);rintro e w4 ⟨rfl,hb4⟩;have HB4:=Hj hb4;clear hb4))
     | (go_at_call 99;(
       have Yw:Bw w (w4.alloc (.cells (ov v) 37)):=(Ag.out.trans (HB4.out.mono Ag.out.size)).alloc (Cz Ag.out.size HB4.out.size) _
       (with_reducible refine(HBy.out _ Yw).mono ?_)
       rintro e w5 ⟨A5,k5,rfl,sZ,hb5⟩
       have EP:Hid (OB w5 w.heap.size (.slice A5 EL k5) EV):=Hj (OB.mono sZ Yw.size)
       have nH:Hid (Bw wr w5):=Hj ((HB4.out.alloc HB4.out.size _).trans (hb5.mono (HB4.out.alloc HB4.out.size _).size))
       clear Yw sZ hb5))
     | (go_at_call 135;(
       obtain⟨w6,hw6⟩:∃W,W=w5.alloc (.cells #[.nilIface,.nilIface] 32):=⟨_,rfl⟩
       have Xo:=aA w5 (.cells #[.nilIface,.nilIface] 32)
       have hb6:=(aj w5.heap.size w5).alloc Kv (.cells #[.nilIface,.nilIface] 32)
       rw[←hw6] at Xo hb6 ⊢
       have yx:Hid (Bw wr w6):=Hj (nH.out.trans (hb6.mono nH.out.size))
       have HO6:Hid (OB w6 w.heap.size (.slice A5 EL k5) EV):=Hj (OB.below EP.out hb6)
       (with_reducible refine(Qa _ _ w6 (Kq 0 Xo) (Kq 1 Xo)).mono ?_)
       rintro e w' ⟨rfl,rfl⟩
       clear hw6 Xo hb6))
     | (at_builtin;(
       have ho:=OB.below Af.out yx.out
       have hrb:RB w6 A5 EL EV:=(by
        obtain⟨A',c',e',-,-,h3⟩:=OB.form HO6.out
        injection e' with e1 e2 e3
        rw[e1,e2];exact h3)
       have ho':OB w6 w.heap.size (.slice Ao FL co) F:=ho
       refine aN rfl (.tmp 53) (.tmp 54) 35 rfl ho' rfl (RB.src Tryz.underlying35 hrb) rfl (by have:=HFl.out;have:=HEvL.out;omega) (Ag.out.trans (yx.out.mono Ag.out.size)).size ?_
       intro v7 w7 aU cu tX
       have HO7:=Hj aU
       have Z8:Hid (Bw w w7):=Hj (bD (Ag.out.trans (yx.out.mono Ag.out.size)) cu ho' Kv (Ag.out.trans (yx.out.mono Ag.out.size)).size)
       have HK7:Hid (ah w7 0 9 1 (.slice (some ⟨kg,ko,none⟩) NX k3) NX (xs.map fun x=>.string x.1)):=Hj (by
        have h6:=ah.below Yu.out yx.out
        refine ah.kept h6 (Fr.bF cu) fun q hq e=> ?_
        obtain⟨cur,hcur⟩:=au h6 hq
        obtain⟨cur',kE⟩:=au ho' e.symm
        exact absurd (ak hcur kE) (by decide))
       clear aU cu tX ho ho' hrb))
     | fail)
    go_roundg (gk-1)
    case measure=>have:=HI.out;have:=IX.out;omega
    case rel=>exact⟨i+1,by go_num,rfl,by have:=HI.out;have:=IX.out;omega,by rw[HFlat.out];exact HO7.out,HK7.out,Z8.out⟩
   ·have hin:i=NX:=by omega
    have HEq:Hid (bY M.rev M.tab=F):=Hj (by
     rw[jg.out,hF,fO]
     rw[HTM.out,aX,←HNX.out];omega)
    have HEqL:Hid ((bY M.rev M.tab).length=FL):=Hj (by rw[HEq.out,hFL])
    have q5:¬(i:Int)<(NX:Int):=by omega
    subst eo
    clear hi hob hkeys hbel hF hFl hFL hin hlt
    go_wp2
    go_ret2
    refine⟨Ao,co,by rw[HEqL.out];rfl,?_,Ag.out⟩
    rw[HEqL.out,HEq.out]
    exact Af.out
end
theorem tY (ea:Nat→Addr) (n:Nat):errOf ea n=jC ea n:=by
 cases n with
 | zero=>rfl
 | succ n=>rfl
theorem dM (ea:Nat→Addr) {n:Nat} (h:n≠0):jC ea n=.iface 368 (.pointer (some (ea n))):=by
 cases n with
 | zero=>exact absurd rfl h
 | succ n=>rfl
/-- errors.Is of nil. -/
theorem is_nil (b:Addr) (w:World):
  Cl 41 #[.nilIface,.iface 368 (.pointer (some b))] w fun e w'=>e=.returned (.bool false)∧w=w':=by
 have heq:=run_eql_iface_nil_left (P:=Tryz.prog) (w:=w) 368 (.pointer (some b)) Tryz.underlying32
 go_enter Tryz.func41,Tryz.ntmps41
 go_wp2
 go_ret
 exact⟨rfl,rfl⟩
section
variable {w w0:World} {Q:Nat→Prop} {g gs:Nat} {m:DM} {L:LM} {M:bQ} {ea:Nat→Addr}
/-- The store behind a snapshot. -/
theorem SW.packed {w':World} {m':DM} {L':LM} (h:SW w0 w Q g m' gs L' M) (hw:∀gl gt ev,w.heap[gs]?=some (.cells #[pt gl,pt gt,.int .i64 (M.rev:Int),.int .i64 (M.base:Int),ev] 104 (0,0))→w'.heap[gs]?=some (.cells #[pt gl,pt gt,.int .i64 (M.rev:Int),.int .i64 (M.rev:Int),.slice none 0 0] 104 (0,0)))
  (hf:Fr (fun k=>k=gs) w w'):SW w0 w' (ext Q w w') g m' gs L' M.fresh∧Fr Q w w':=by
 obtain⟨Z,gl,gt,sh,ev,xs,ys,hV,hZ,hU⟩:=h.use
 have hne:¬gt=gs:=fun e=>by
  obtain⟨p,hp,-⟩:=hV.tab
  exact nC hp e hV.cells (by decide)
 have hs:SV w' Z gl gs gt sh (.slice none 0 0) xs [] M.fresh:=
  ⟨hw gl gt ev hV.cells,hV.tab.fr hf hne fun b cs hb e=>nC hb e hV.cells (by decide),hV.nD,fun x hx=>(hV.each x hx).fr hf fun k hk e=>(by
   obtain⟨cur,hcur⟩:=au (hV.each x hx).data hk
   exact nC hcur e hV.cells (by decide)),ah.nil _ _ _ _,rfl,fun y hy=>(by cases hy),bQ.Bo hV.ok.tab hV.ok.most,hV.zs,hV.zt,fun k hk=>(by cases hk),hV.zx,fun y hy=>(by cases hy)⟩
 obtain⟨h1,h2⟩:=hU w' Z sh _ xs [] M.fresh (fun _=>False) hs (hf.mono fun i _ e=>by rw[e];exact hV.zs) (fun k hk=>hk.elim) fun k hk=>.inl hk
 exact⟨h1.mono (fun k hk=>hk.elim id False.elim) fun k hk=>gX h.up h.hi h.bel.size hf.size hk,h2⟩
theorem yt (h:SW w0 w Q g m gs L M) (hE:EW w0 ea) (hl:M.tab.length≤90):
  Cl 35 #[pt gs] w fun e w'=>e=.returned (jC ea (L.zW m (bY M.rev M.tab)))∧
   SW w0 w' (ext Q w w') g (L.zV m (bY M.rev M.tab)) gs (L.cp m (bY M.rev M.tab)) (if L.zW m (bY M.rev M.tab)=0 then M.fresh else M)∧Fr Q w w':=by
 have UO:=Hj (Qb h hl)
 have HSL:Hid ((bY M.rev M.tab).length≤1000000):=Hj (by have:=Fe h.ok.tab h.ok.most;omega)
 obtain⟨t,ht⟩:∃t,t=bY M.rev M.tab:=⟨_,rfl⟩
 rw[←ht] at UO HSL ⊢
 obtain⟨TL,hTL⟩:∃n,n=t.length:=⟨_,rfl⟩
 rw[←hTL] at UO HSL
 obtain⟨E,hEE⟩:∃n,n=L.zW m t:=⟨_,rfl⟩
 rw[←hEE]
 have OW:Hid (∀(w1:World) (A1:Option Addr) (k1:Nat),Bw w w1→OB w1 w.heap.size (.slice A1 TL k1) t→∃gl,w1.cell? ⟨gs,0,none⟩=some (pt gl)∧Cl 80 #[pt gl,.slice A1 TL k1] w1 fun e w'=>e=.returned (jC ea E)∧SW w0 w' (ext Q w w') g (L.zV m t) gs (L.cp m t) M∧Fr Q w w'):=Hj fun w1 A1 k1 hb1 ho1=>by
  obtain⟨S,gl,hdw,hc0,-,hcl⟩:=(h.below hb1).log
  obtain⟨A',c',e',-,-,h3⟩:=OB.form ho1
  injection e' with e1 e2 e3
  refine⟨gl,hc0,(Fg A1 TL k1 t hdw hE (by rw[e1,e2];exact h3) HSL.out).mono ?_⟩
  rintro e w' ⟨rfl,Yi,hf2⟩
  have h2:=h.behind hb1 (hcl _ _ _ Yi hf2)
  exact⟨by rw[hEE],h2.1,h2.2⟩
 have qY:=Hj h
 clear h hE hl ht hTL hEE
 by_cases h0:E=0
 ·subst h0
  rw[aF rfl]
  go_enter Tryz.func35,Tryz.ntmps35
  go_wp2_with (first
   | (go_at_call 79;((refine UO.out.mono ?_);rintro e w1 ⟨A1,k1,rfl,ho1,hb1⟩;obtain⟨gl,hc0,hcp⟩:=OW.out w1 A1 k1 hb1 ho1;have Yx:=Hj hcp;clear hcp ho1 hb1))
   | (go_at_call 80;(
     (with_reducible refine Yx.out.mono ?_)
     rintro e w2 ⟨rfl,Nk,hf2⟩
     rw[iF]
     obtain⟨Z2,gl2,iT,sh2,ev2,xs2,ys2,hV2,-,-⟩:=Nk.use
     obtain⟨-,-,q2,q3,q4⟩:=hV2.cell
     have fz:=hV2.fz
     have HS2:=Hj Nk
     have HF2:=Hj hf2
     clear Nk hf2 hV2))
   | fail)
  go_ret
  have hF:Fr (fun k=>k=gs) w2 ((w2.setCell ⟨gs,3,none⟩ (.int .i64 (M.rev:Int))).setCell ⟨gs,4,none⟩ (.slice none 0 0)):=((Fr.refl (fun k=>k=gs) w2).setCell (p:=⟨gs,3,none⟩) (fun _=>rfl) _).setCell (p:=⟨gs,4,none⟩) (fun _=>rfl) _
  have hP:=HS2.out.packed (fun gl gt ev hr=>aI _ _ 4 _ _ (.slice none 0 0) (aI _ _ 3 _ _ (.int .i64 (M.rev:Int)) hr)) hF
  obtain⟨r1,r2⟩:=qY.out.then HF2.out hP
  exact⟨rfl,r1,r2⟩
 ·rw [aG h0]
  have hd:=dM ea h0
  rw[hd] at OW ⊢
  clear hd h0
  go_enter Tryz.func35,Tryz.ntmps35
  go_wp2_with (first
   | (go_at_call 79;((refine UO.out.mono ?_);rintro e w1 ⟨A1,k1,rfl,ho1,hb1⟩;obtain⟨gl,hc0,hcp⟩:=OW.out w1 A1 k1 hb1 ho1;have Yx:=Hj hcp;clear hcp ho1 hb1))
   | (go_at_call 80;(
     (with_reducible refine Yx.out.mono ?_)
     rintro e w2 ⟨rfl,Nk,hf2⟩
     have HS2:=Hj Nk
     have HF2:=Hj hf2
     clear Nk hf2))
   | fail)
  go_ret
  exact⟨rfl,HS2.out,HF2.out⟩
end
end Go.Proofs.YtdhbpajamlfacaaGreatDoor
