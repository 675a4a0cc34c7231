/- The document's store (layer 20): Create. -/
import Derived.Test.YtdhbpajamlfacaaGreatDoorRe
set_option maxRecDepth 100000
namespace Go.Proofs.YtdhbpajamlfacaaGreatDoor
open Go.RowKit SO
/-- What Find answers. -/
def Fd (M:aY) (kind:Int) (space name:ByteArray) (r:Int):Prop:=(getM M kind space name=none∧r= -1)∨((getM M kind space name).isSome=true∧0≤r)
theorem Fd.some {M:aY} {kind:Int} {space name:ByteArray} {r:Int} (h:Fd M kind space name r) (hs:(getM M kind space name).isSome=true):0≤r:=h.elim (fun h=>by rw[h.1] at hs;cases hs) fun h=>h.2
theorem Fd.none {M:aY} {kind:Int} {space name:ByteArray} {r:Int} (h:Fd M kind space name r) (hs:getM M kind space name=none):r= -1:=h.elim (fun h=>h.2) fun h=>by rw[hs] at h;cases h.1
section
variable {w w' w0:World} {Z Q S X:Nat→Prop} {gs gl:Nat} {m m':DM} {L L':LM} {M M':aY}
theorem dO.find (h:dO w0 w Q gs m L M) (hl:M.tab.length≤100000) (v:OV):
  Calls Tryz.prog 29 #[.pointer (some ⟨gs,0,none⟩),.agg #[.int .i64 v.kind,.string v.space,.string v.name,.int .i64 v.ver,.slice v.A v.n v.c]] w fun e w'=>∃r,e=.returned (.int .i64 r)∧Fd M v.kind v.space v.name r∧Below w.heap.size w w':=by
 obtain⟨Z,gl,av,ev,xs,ys,hv,-,-⟩:=h.use
 refine(Jb hv (by rw[hv.len.1];exact hl) v).mono ?_
 rintro e w' ⟨r,rfl,hf,hb⟩
 refine⟨r,rfl,?_,hb⟩
 rcases qV h.ok hf with ⟨h1,h2⟩ | ⟨i,o,h1,-,h2,-⟩
 ·exact .inl ⟨h2,h1⟩
 ·exact .inr ⟨by rw[h2];rfl,by omega⟩
set_option maxHeartbeats 8000000 in
theorem Ku (h:dO w0 w Q gs m L M) (sp nm:ByteArray) (ve:Int) (A:Option Addr) (n c:Nat) (data:List UInt8) (hrb:RB w A n data) (hr:M.rev<1099511627776) (hl:M.tab.length≤90) (hl2:M.evs.length≤100000):
  Calls Tryz.prog 30 #[.pointer (some ⟨gs,0,none⟩),.agg #[.int .i64 1,.string sp,.string nm,.int .i64 ve,.slice A n c]] w fun en w'=>∃n' E M' L' m',en=.returned (.tuple #[.int .i64 ((n':Nat):Int),.int .i64 ((E:Nat):Int)])∧Puts M L m (dD M (⟨1,sp,nm,ve,A,n,c⟩:OV)) (false,dW M (⟨1,sp,nm,ve,A,n,c⟩:OV) data) n' E M' L' m'∧dO w0 w' (ext Q w w') gs m' L' M'∧Fr Q w w':=by
 obtain⟨w1,hw1,B,hB,hb1,hr1⟩:=aX w (⟨1,sp,nm,ve,A,n,c⟩:OV)
 have HB1:=Hj hb1
 have HW:=Hj (And.intro hw1 hB)
 have KW:Hid (∀W,Below w1.heap.size w1 W→VB W B (⟨1,sp,nm,ve,A,n,c⟩:OV)):=Hj fun W hW=>VB.aG ((hW.block B (Cq hr1)).trans hr1)
 have pO:=Hj (AZ (⟨1,sp,nm,ve,A,n,c⟩:OV) w1)
 have Tv:Hid (∀W,Below w.heap.size w W→Calls Tryz.prog 29 #[.pointer (some ⟨gs,0,none⟩),.agg #[.int .i64 1,.string ⟨#[]⟩,.string sp,.int .i64 0,.slice none 0 0]] W fun e w'=>∃r,e=.returned (.int .i64 r)∧Fd M 1 ⟨#[]⟩ sp r∧Below W.heap.size W w'):=Hj fun W hW=>(h.below hW).find (by omega) ⟨1,⟨#[]⟩,sp,0,none,0,0⟩
 have HF2:Hid (∀W,Below w.heap.size w W→Calls Tryz.prog 29 #[.pointer (some ⟨gs,0,none⟩),.agg #[.int .i64 1,.string sp,.string nm,.int .i64 ve,.slice A n c]] W fun e w'=>∃r,e=.returned (.int .i64 r)∧Fd M 1 sp nm r∧Below W.heap.size W w'):=Hj fun W hW=>(h.below hW).find (by omega) (⟨1,sp,nm,ve,A,n,c⟩:OV)
 have Kr:=Hj fun ha=>h.putting (⟨1,sp,nm,ve,A,n,c⟩:OV) data hrb ha hr hl hl2
 have HS:=Hj h
 by_cases hn:bU 1 sp nm=true
 ·have Rf:Hid (∀W,Below w.heap.size w W→Calls Tryz.prog 74 #[.pointer (some ⟨gs,0,none⟩),.int .i64 1,.string sp] W fun e w'=>∃A n c,e=.returned (.slice A n c)∧(n:Int)=iR M 1 sp∧Below W.heap.size W w'):=Hj fun W hW=>by
   obtain⟨p1,p2,-⟩:=jP hn
   have e:(((1:Int).toNat:Nat):Int)=1:=Int.toNat_of_nonneg (by omega)
   have:=(h.below hW).ofs hl (K:=(1:Int).toNat) (by omega) (lW hn)
   rw[e] at this
   exact this.mono fun en w' ⟨A,n,c,h1,h2,_,h3⟩=>⟨A,n,c,h1,h2,h3⟩
  clear h hrb hr hl hl2 hw1 hB hb1 hr1
  by_cases hv:8192<n
  ·have k1:(8192:Int)<(n:Int):=by omega
   have ha:bG (⟨1,sp,nm,ve,A,n,c⟩:OV)=3:=by unfold bG;rw[if_pos hn,if_pos hv]
   have HU:Hid (dD M (⟨1,sp,nm,ve,A,n,c⟩:OV)=3):=Hj (by unfold dD;rw[if_neg (by rw[ha];decide),ha])
   clear ha
   go_enter Tryz.func30,Tryz.ntmps30
   go_wp2_with (first
     | (go_at_call 49;rw[←HW.out.1,←HW.out.2];((with_reducible refine pO.out.mono ?_);rintro e w2 ⟨rfl,hb⟩;obtain⟨x0,x1,x2,x3,x4⟩:=KW.out w2 hb;have HB2:=Hj (HB1.out.trans (hb.mono HB1.out.size));have B2:=Hj hb;clear hb))
     | fail)
   exact bodyPost_ret (results_tmp2 rfl _ _ _) rfl ⟨0,3,_,_,_,rfl,.inl ⟨by rw[HU.out];decide,rfl,HU.out.symm,rfl,rfl,rfl⟩,HS.out.made (HB1.out.trans (B2.out.mono HB1.out.size))⟩
  ·have k1:¬(8192:Int)<(n:Int):=by omega
   have ha:bG (⟨1,sp,nm,ve,A,n,c⟩:OV)=0:=by unfold bG;rw[if_pos hn,if_neg hv]
   have HA:=Hj ha
   have hI:iH 1=false:=rfl
   have h18:¬(iH 1=true∧(getM M 1 ⟨#[]⟩ sp).isSome=false):=fun h=>by cases h.1
   by_cases hg:(getM M 1 sp nm).isSome=true
   ·have HU:Hid (dD M (⟨1,sp,nm,ve,A,n,c⟩:OV)=19):=Hj (by unfold dD;rw[if_pos ha,if_neg h18,if_pos hg])
    have HG:=Hj hg
    clear hg h18
    have HR2:Hid (∀r,Fd M 1 sp nm r→0≤r):=Hj fun r hr=>hr.some HG.out
    go_enter Tryz.func30,Tryz.ntmps30
    go_wp2_with (first
      | (go_at_call 49;rw[←HW.out.1,←HW.out.2];((with_reducible refine pO.out.mono ?_);rintro e w2 ⟨rfl,hb⟩;obtain⟨x0,x1,x2,x3,x4⟩:=KW.out w2 hb;have HB2:=Hj (HB1.out.trans (hb.mono HB1.out.size));have B2:=Hj hb;clear hb))
      | (go_at_call 73;((with_reducible refine(fK _ w2).mono ?_);rw[hI];rintro e w3 ⟨rfl,rfl⟩))
      | (go_at_call 29;((with_reducible refine(HF2.out w3 (HB1.out.trans (B2.out.mono HB1.out.size))).mono ?_);rintro e w5 ⟨r2,rfl,hr2,hb⟩;obtain⟨z0,z1,z2,z3,z4⟩:=KW.out w5 (B2.out.trans (hb.mono B2.out.size));have B5:=Hj (B2.out.trans (hb.mono B2.out.size));clear hb;have hr3:=HR2.out r2 hr2))
      | fail)
    exact bodyPost_ret (results_tmp2 rfl _ _ _) rfl ⟨0,19,_,_,_,rfl,.inl ⟨by rw[HU.out];decide,rfl,HU.out.symm,rfl,rfl,rfl⟩,HS.out.made (HB1.out.trans (B5.out.mono HB1.out.size))⟩
   ·have h19:=hg
    have HG:Hid (getM M 1 sp nm=none):=Hj (by cases h:getM M 1 sp nm with | none=>rfl | some o=>exact absurd (by rw[h];rfl) hg)
    have HR2:Hid (∀r,Fd M 1 sp nm r→r= -1):=Hj fun r hr=>hr.none HG.out
    by_cases hm:(8:Int)≤iR M 1 sp
    ·have HU:Hid (dD M (⟨1,sp,nm,ve,A,n,c⟩:OV)=21):=Hj (by unfold dD;rw[if_pos ha,if_neg h18,if_neg h19,if_pos (by rw[if_pos rfl];exact hm)])
     have HM:=Hj hm
     clear hm h19 h18 hg
     go_enter Tryz.func30,Tryz.ntmps30
     go_wp2_with (first
       | (go_at_call 49;rw[←HW.out.1,←HW.out.2];((with_reducible refine pO.out.mono ?_);rintro e w2 ⟨rfl,hb⟩;obtain⟨x0,x1,x2,x3,x4⟩:=KW.out w2 hb;have HB2:=Hj (HB1.out.trans (hb.mono HB1.out.size));have B2:=Hj hb;clear hb))
       | (go_at_call 73;((with_reducible refine(fK _ w2).mono ?_);rw[hI];rintro e w3 ⟨rfl,rfl⟩))
       | (go_at_call 29;((with_reducible refine(HF2.out w3 (HB1.out.trans (B2.out.mono HB1.out.size))).mono ?_);rintro e w5 ⟨r2,rfl,hr2,hb⟩;have hr3:=HR2.out r2 hr2;subst hr3;obtain⟨z0,z1,z2,z3,z4⟩:=KW.out w5 (B2.out.trans (hb.mono B2.out.size));have B5:=Hj (B2.out.trans (hb.mono B2.out.size));clear hb))
       | (go_at_call 74;((with_reducible refine(Rf.out w5 (HB1.out.trans (B5.out.mono HB1.out.size))).mono ?_);rintro e w6 ⟨A6,n6,c6,rfl,Jd,hb⟩;obtain⟨u0,u1,u2,u3,u4⟩:=KW.out w6 (B5.out.trans (hb.mono B5.out.size));have B6:=Hj (B5.out.trans (hb.mono B5.out.size));clear hb;have Oi:(8:Int)≤(n6:Int):=(by have:=HM.out;omega);clear Jd))
       | fail)
     exact bodyPost_ret (results_tmp2 rfl _ _ _) rfl ⟨0,21,_,_,_,rfl,.inl ⟨by rw[HU.out];decide,rfl,HU.out.symm,rfl,rfl,rfl⟩,HS.out.made (HB1.out.trans (B6.out.mono HB1.out.size))⟩
    ·have HU:Hid (dD M (⟨1,sp,nm,ve,A,n,c⟩:OV)=0):=Hj (by unfold dD;rw[if_pos ha,if_neg h18,if_neg h19,if_neg (by rw[if_pos rfl];exact hm)])
     have HM:=Hj hm
     clear hm h19 h18 hg
     go_enter Tryz.func30,Tryz.ntmps30
     go_wp2_with (first
       | (go_at_call 49;rw[←HW.out.1,←HW.out.2];((with_reducible refine pO.out.mono ?_);rintro e w2 ⟨rfl,hb⟩;obtain⟨x0,x1,x2,x3,x4⟩:=KW.out w2 hb;have HB2:=Hj (HB1.out.trans (hb.mono HB1.out.size));have B2:=Hj hb;clear hb))
       | (go_at_call 73;((with_reducible refine(fK _ w2).mono ?_);rw[hI];rintro e w3 ⟨rfl,rfl⟩))
       | (go_at_call 29;((with_reducible refine(HF2.out w3 (HB1.out.trans (B2.out.mono HB1.out.size))).mono ?_);rintro e w5 ⟨r2,rfl,hr2,hb⟩;have hr3:=HR2.out r2 hr2;subst hr3;obtain⟨z0,z1,z2,z3,z4⟩:=KW.out w5 (B2.out.trans (hb.mono B2.out.size));have B5:=Hj (B2.out.trans (hb.mono B2.out.size));clear hb))
       | (go_at_call 74;((with_reducible refine(Rf.out w5 (HB1.out.trans (B5.out.mono HB1.out.size))).mono ?_);rintro e w6 ⟨A6,n6,c6,rfl,Jd,hb⟩;obtain⟨u0,u1,u2,u3,u4⟩:=KW.out w6 (B5.out.trans (hb.mono B5.out.size));have B6:=Hj (B5.out.trans (hb.mono B5.out.size));clear hb;have Oi:¬(8:Int)≤(n6:Int):=(by have:=HM.out;omega);clear Jd))
       | (go_at_call 75;((with_reducible refine(Kr.out HA.out w6 (HB1.out.trans (B6.out.mono HB1.out.size))).mono ?_);rintro e w7 ⟨n7,E,M',L',m',rfl,hC,hR,hF⟩;have Zq:=Hj hC;have Zr:=Hj hR;have Zt:=Hj hF;clear hC hR hF))
       | fail)
     exact bodyPost_ret (results_tmp2 rfl _ _ _) rfl ⟨n7,E,M',L',m',rfl,.inr ⟨HU.out,Zq.out⟩,Zr.out,Zt.out⟩
 ·have hn2:bU 1 sp nm=false:=by simpa using hn
  have ha:bG (⟨1,sp,nm,ve,A,n,c⟩:OV)=9:=by unfold bG;rw[if_neg hn]
  have HU:Hid (dD M (⟨1,sp,nm,ve,A,n,c⟩:OV)=9):=Hj (by unfold dD;rw[if_neg (by rw[ha];decide),ha])
  clear hn ha h hrb hr hl hl2 hw1 hB hb1 hr1
  go_enter Tryz.func30,Tryz.ntmps30
  go_wp2_with (first
    | (go_at_call 49;rw[←HW.out.1,←HW.out.2];((with_reducible refine pO.out.mono ?_);rintro e w2 ⟨rfl,hb⟩;obtain⟨x0,x1,x2,x3,x4⟩:=KW.out w2 hb;have HB2:=Hj (HB1.out.trans (hb.mono HB1.out.size));have B2:=Hj hb;clear hb))
    | fail)
  exact bodyPost_ret (results_tmp2 rfl _ _ _) rfl ⟨0,9,_,_,_,rfl,.inl ⟨by rw[HU.out];decide,rfl,HU.out.symm,rfl,rfl,rfl⟩,HS.out.made (HB1.out.trans (B2.out.mono HB1.out.size))⟩
set_option maxHeartbeats 8000000 in
theorem Kw (h:dO w0 w Q gs m L M) (kd:Int) (hk:¬kd=1) (sp nm:ByteArray) (ve:Int) (A:Option Addr) (n c:Nat) (data:List UInt8) (hrb:RB w A n data) (hr:M.rev<1099511627776) (hl:M.tab.length≤90) (hl2:M.evs.length≤100000):
  Calls Tryz.prog 30 #[.pointer (some ⟨gs,0,none⟩),.agg #[.int .i64 kd,.string sp,.string nm,.int .i64 ve,.slice A n c]] w fun en w'=>∃n' E M' L' m',en=.returned (.tuple #[.int .i64 ((n':Nat):Int),.int .i64 ((E:Nat):Int)])∧Puts M L m (dD M (⟨kd,sp,nm,ve,A,n,c⟩:OV)) (false,dW M (⟨kd,sp,nm,ve,A,n,c⟩:OV) data) n' E M' L' m'∧dO w0 w' (ext Q w w') gs m' L' M'∧Fr Q w w':=by
 obtain⟨w1,hw1,B,hB,hb1,hr1⟩:=aX w (⟨kd,sp,nm,ve,A,n,c⟩:OV)
 have HB1:=Hj hb1
 have HW:=Hj (And.intro hw1 hB)
 have KW:Hid (∀W,Below w1.heap.size w1 W→VB W B (⟨kd,sp,nm,ve,A,n,c⟩:OV)):=Hj fun W hW=>VB.aG ((hW.block B (Cq hr1)).trans hr1)
 have pO:=Hj (AZ (⟨kd,sp,nm,ve,A,n,c⟩:OV) w1)
 have Tv:Hid (∀W,Below w.heap.size w W→Calls Tryz.prog 29 #[.pointer (some ⟨gs,0,none⟩),.agg #[.int .i64 1,.string ⟨#[]⟩,.string sp,.int .i64 0,.slice none 0 0]] W fun e w'=>∃r,e=.returned (.int .i64 r)∧Fd M 1 ⟨#[]⟩ sp r∧Below W.heap.size W w'):=Hj fun W hW=>(h.below hW).find (by omega) ⟨1,⟨#[]⟩,sp,0,none,0,0⟩
 have HF2:Hid (∀W,Below w.heap.size w W→Calls Tryz.prog 29 #[.pointer (some ⟨gs,0,none⟩),.agg #[.int .i64 kd,.string sp,.string nm,.int .i64 ve,.slice A n c]] W fun e w'=>∃r,e=.returned (.int .i64 r)∧Fd M kd sp nm r∧Below W.heap.size W w'):=Hj fun W hW=>(h.below hW).find (by omega) (⟨kd,sp,nm,ve,A,n,c⟩:OV)
 have Kr:=Hj fun ha=>h.putting (⟨kd,sp,nm,ve,A,n,c⟩:OV) data hrb ha hr hl hl2
 have HS:=Hj h
 by_cases hn:bU kd sp nm=true
 ·have Rf:Hid (∀W,Below w.heap.size w W→Calls Tryz.prog 74 #[.pointer (some ⟨gs,0,none⟩),.int .i64 kd,.string sp] W fun e w'=>∃A n c,e=.returned (.slice A n c)∧(n:Int)=iR M kd sp∧Below W.heap.size W w'):=Hj fun W hW=>by
   obtain⟨p1,p2,-⟩:=jP hn
   have e:(((kd:Int).toNat:Nat):Int)=kd:=Int.toNat_of_nonneg (by omega)
   have:=(h.below hW).ofs hl (K:=(kd:Int).toNat) (by omega) (lW hn)
   rw[e] at this
   exact this.mono fun en w' ⟨A,n,c,h1,h2,_,h3⟩=>⟨A,n,c,h1,h2,h3⟩
  clear h hrb hr hl hl2 hw1 hB hb1 hr1
  by_cases hv:8192<n
  ·have k1:(8192:Int)<(n:Int):=by omega
   have ha:bG (⟨kd,sp,nm,ve,A,n,c⟩:OV)=3:=by unfold bG;rw[if_pos hn,if_pos hv]
   have HU:Hid (dD M (⟨kd,sp,nm,ve,A,n,c⟩:OV)=3):=Hj (by unfold dD;rw[if_neg (by rw[ha];decide),ha])
   clear ha
   go_enter Tryz.func30,Tryz.ntmps30
   go_wp2_with (first
     | (go_at_call 49;rw[←HW.out.1,←HW.out.2];((with_reducible refine pO.out.mono ?_);rintro e w2 ⟨rfl,hb⟩;obtain⟨x0,x1,x2,x3,x4⟩:=KW.out w2 hb;have HB2:=Hj (HB1.out.trans (hb.mono HB1.out.size));have B2:=Hj hb;clear hb))
     | fail)
   exact bodyPost_ret (results_tmp2 rfl _ _ _) rfl ⟨0,3,_,_,_,rfl,.inl ⟨by rw[HU.out];decide,rfl,HU.out.symm,rfl,rfl,rfl⟩,HS.out.made (HB1.out.trans (B2.out.mono HB1.out.size))⟩
  ·have k1:¬(8192:Int)<(n:Int):=by omega
   have ha:bG (⟨kd,sp,nm,ve,A,n,c⟩:OV)=0:=by unfold bG;rw[if_pos hn,if_neg hv]
   have HA:=Hj ha
   cases hI:iH kd with
   | false=>
    have h18:¬(iH kd=true∧(getM M 1 ⟨#[]⟩ sp).isSome=false):=fun h=>by rw[hI] at h;cases h.1
    by_cases hg:(getM M kd sp nm).isSome=true
    ·have HU:Hid (dD M (⟨kd,sp,nm,ve,A,n,c⟩:OV)=19):=Hj (by unfold dD;rw[if_pos ha,if_neg h18,if_pos hg])
     have HG:=Hj hg
     clear hg h18
     have HR2:Hid (∀r,Fd M kd sp nm r→0≤r):=Hj fun r hr=>hr.some HG.out
     go_enter Tryz.func30,Tryz.ntmps30
     go_wp2_with (first
       | (go_at_call 49;rw[←HW.out.1,←HW.out.2];((with_reducible refine pO.out.mono ?_);rintro e w2 ⟨rfl,hb⟩;obtain⟨x0,x1,x2,x3,x4⟩:=KW.out w2 hb;have HB2:=Hj (HB1.out.trans (hb.mono HB1.out.size));have B2:=Hj hb;clear hb))
       | (go_at_call 73;((with_reducible refine(fK _ w2).mono ?_);rw[hI];rintro e w3 ⟨rfl,rfl⟩))
       | (go_at_call 29;((with_reducible refine(HF2.out w3 (HB1.out.trans (B2.out.mono HB1.out.size))).mono ?_);rintro e w5 ⟨r2,rfl,hr2,hb⟩;obtain⟨z0,z1,z2,z3,z4⟩:=KW.out w5 (B2.out.trans (hb.mono B2.out.size));have B5:=Hj (B2.out.trans (hb.mono B2.out.size));clear hb;have hr3:=HR2.out r2 hr2))
       | fail)
     exact bodyPost_ret (results_tmp2 rfl _ _ _) rfl ⟨0,19,_,_,_,rfl,.inl ⟨by rw[HU.out];decide,rfl,HU.out.symm,rfl,rfl,rfl⟩,HS.out.made (HB1.out.trans (B5.out.mono HB1.out.size))⟩
    ·have h19:=hg
     have HG:Hid (getM M kd sp nm=none):=Hj (by cases h:getM M kd sp nm with | none=>rfl | some o=>exact absurd (by rw[h];rfl) hg)
     have HR2:Hid (∀r,Fd M kd sp nm r→r= -1):=Hj fun r hr=>hr.none HG.out
     by_cases hm:(32:Int)≤iR M kd sp
     ·have HU:Hid (dD M (⟨kd,sp,nm,ve,A,n,c⟩:OV)=21):=Hj (by unfold dD;rw[if_pos ha,if_neg h18,if_neg h19,if_pos (by rw[if_neg hk];exact hm)])
      have HM:=Hj hm
      clear hm h19 h18 hg
      go_enter Tryz.func30,Tryz.ntmps30
      go_wp2_with (first
        | (go_at_call 49;rw[←HW.out.1,←HW.out.2];((with_reducible refine pO.out.mono ?_);rintro e w2 ⟨rfl,hb⟩;obtain⟨x0,x1,x2,x3,x4⟩:=KW.out w2 hb;have HB2:=Hj (HB1.out.trans (hb.mono HB1.out.size));have B2:=Hj hb;clear hb))
        | (go_at_call 73;((with_reducible refine(fK _ w2).mono ?_);rw[hI];rintro e w3 ⟨rfl,rfl⟩))
        | (go_at_call 29;((with_reducible refine(HF2.out w3 (HB1.out.trans (B2.out.mono HB1.out.size))).mono ?_);rintro e w5 ⟨r2,rfl,hr2,hb⟩;have hr3:=HR2.out r2 hr2;subst hr3;obtain⟨z0,z1,z2,z3,z4⟩:=KW.out w5 (B2.out.trans (hb.mono B2.out.size));have B5:=Hj (B2.out.trans (hb.mono B2.out.size));clear hb))
        | (go_at_call 74;((with_reducible refine(Rf.out w5 (HB1.out.trans (B5.out.mono HB1.out.size))).mono ?_);rintro e w6 ⟨A6,n6,c6,rfl,Jd,hb⟩;obtain⟨u0,u1,u2,u3,u4⟩:=KW.out w6 (B5.out.trans (hb.mono B5.out.size));have B6:=Hj (B5.out.trans (hb.mono B5.out.size));clear hb;have Oi:(32:Int)≤(n6:Int):=(by have:=HM.out;omega);clear Jd))
        | fail)
      exact bodyPost_ret (results_tmp2 rfl _ _ _) rfl ⟨0,21,_,_,_,rfl,.inl ⟨by rw[HU.out];decide,rfl,HU.out.symm,rfl,rfl,rfl⟩,HS.out.made (HB1.out.trans (B6.out.mono HB1.out.size))⟩
     ·have HU:Hid (dD M (⟨kd,sp,nm,ve,A,n,c⟩:OV)=0):=Hj (by unfold dD;rw[if_pos ha,if_neg h18,if_neg h19,if_neg (by rw[if_neg hk];exact hm)])
      have HM:=Hj hm
      clear hm h19 h18 hg
      go_enter Tryz.func30,Tryz.ntmps30
      go_wp2_with (first
        | (go_at_call 49;rw[←HW.out.1,←HW.out.2];((with_reducible refine pO.out.mono ?_);rintro e w2 ⟨rfl,hb⟩;obtain⟨x0,x1,x2,x3,x4⟩:=KW.out w2 hb;have HB2:=Hj (HB1.out.trans (hb.mono HB1.out.size));have B2:=Hj hb;clear hb))
        | (go_at_call 73;((with_reducible refine(fK _ w2).mono ?_);rw[hI];rintro e w3 ⟨rfl,rfl⟩))
        | (go_at_call 29;((with_reducible refine(HF2.out w3 (HB1.out.trans (B2.out.mono HB1.out.size))).mono ?_);rintro e w5 ⟨r2,rfl,hr2,hb⟩;have hr3:=HR2.out r2 hr2;subst hr3;obtain⟨z0,z1,z2,z3,z4⟩:=KW.out w5 (B2.out.trans (hb.mono B2.out.size));have B5:=Hj (B2.out.trans (hb.mono B2.out.size));clear hb))
        | (go_at_call 74;((with_reducible refine(Rf.out w5 (HB1.out.trans (B5.out.mono HB1.out.size))).mono ?_);rintro e w6 ⟨A6,n6,c6,rfl,Jd,hb⟩;obtain⟨u0,u1,u2,u3,u4⟩:=KW.out w6 (B5.out.trans (hb.mono B5.out.size));have B6:=Hj (B5.out.trans (hb.mono B5.out.size));clear hb;have Oi:¬(32:Int)≤(n6:Int):=(by have:=HM.out;omega);clear Jd))
        | (go_at_call 75;((with_reducible refine(Kr.out HA.out w6 (HB1.out.trans (B6.out.mono HB1.out.size))).mono ?_);rintro e w7 ⟨n7,E,M',L',m',rfl,hC,hR,hF⟩;have Zq:=Hj hC;have Zr:=Hj hR;have Zt:=Hj hF;clear hC hR hF))
        | fail)
      exact bodyPost_ret (results_tmp2 rfl _ _ _) rfl ⟨n7,E,M',L',m',rfl,.inr ⟨HU.out,Zq.out⟩,Zr.out,Zt.out⟩
   | true=>
    by_cases hs:(getM M 1 ⟨#[]⟩ sp).isSome=false
    ·have HU:Hid (dD M (⟨kd,sp,nm,ve,A,n,c⟩:OV)=18):=Hj (by unfold dD;rw[if_pos ha,if_pos ⟨hI,hs⟩])
     have HR1:Hid (∀r,Fd M 1 ⟨#[]⟩ sp r→r= -1):=Hj fun r hr=>hr.none (by cases h:getM M 1 ⟨#[]⟩ sp with | none=>rfl | some o=>rw[h] at hs;cases hs)
     clear hs ha
     go_enter Tryz.func30,Tryz.ntmps30
     go_wp2_with (first
       | (go_at_call 49;rw[←HW.out.1,←HW.out.2];((with_reducible refine pO.out.mono ?_);rintro e w2 ⟨rfl,hb⟩;obtain⟨x0,x1,x2,x3,x4⟩:=KW.out w2 hb;have HB2:=Hj (HB1.out.trans (hb.mono HB1.out.size));have B2:=Hj hb;clear hb))
       | (go_at_call 73;((with_reducible refine(fK _ w2).mono ?_);rw[hI];rintro e w3 ⟨rfl,rfl⟩))
       | (go_at_call 29;((with_reducible refine(Tv.out w3 HB2.out).mono ?_);rintro e w4 ⟨r1,rfl,hr1,hb⟩;have B4:=Hj (B2.out.trans (hb.mono B2.out.size));clear hb;have hr3:=HR1.out r1 hr1;subst hr3))
       | fail)
     exact bodyPost_ret (results_tmp2 rfl _ _ _) rfl ⟨0,18,_,_,_,rfl,.inl ⟨by rw[HU.out];decide,rfl,HU.out.symm,rfl,rfl,rfl⟩,HS.out.made (HB1.out.trans (B4.out.mono HB1.out.size))⟩
    ·have h18:¬(iH kd=true∧(getM M 1 ⟨#[]⟩ sp).isSome=false):=fun h=>hs h.2
     have HR1:Hid (∀r,Fd M 1 ⟨#[]⟩ sp r→0≤r):=Hj fun r hr=>hr.some (by revert hs;cases (getM M 1 ⟨#[]⟩ sp).isSome<;>simp)
     clear hs
     by_cases hg:(getM M kd sp nm).isSome=true
     ·have HU:Hid (dD M (⟨kd,sp,nm,ve,A,n,c⟩:OV)=19):=Hj (by unfold dD;rw[if_pos ha,if_neg h18,if_pos hg])
      have HG:=Hj hg
      clear hg h18
      have HR2:Hid (∀r,Fd M kd sp nm r→0≤r):=Hj fun r hr=>hr.some HG.out
      go_enter Tryz.func30,Tryz.ntmps30
      go_wp2_with (first
        | (go_at_call 49;rw[←HW.out.1,←HW.out.2];((with_reducible refine pO.out.mono ?_);rintro e w2 ⟨rfl,hb⟩;obtain⟨x0,x1,x2,x3,x4⟩:=KW.out w2 hb;have HB2:=Hj (HB1.out.trans (hb.mono HB1.out.size));have B2:=Hj hb;clear hb))
        | (go_at_call 73;((with_reducible refine(fK _ w2).mono ?_);rw[hI];rintro e w3 ⟨rfl,rfl⟩))
        | (go_at_call 29;((with_reducible refine(Tv.out w3 HB2.out).mono ?_);rintro e w4 ⟨r1,rfl,hr1,hb⟩;obtain⟨y0,y1,y2,y3,y4⟩:=KW.out w4 (B2.out.trans (hb.mono B2.out.size));have B4:=Hj (B2.out.trans (hb.mono B2.out.size));clear hb;have hr3:=HR1.out r1 hr1;have hr4:¬r1<0:=(by omega)))
        | (go_at_call 29;((with_reducible refine(HF2.out w4 (HB1.out.trans (B4.out.mono HB1.out.size))).mono ?_);rintro e w5 ⟨r2,rfl,hr2,hb⟩;obtain⟨z0,z1,z2,z3,z4⟩:=KW.out w5 (B4.out.trans (hb.mono B4.out.size));have B5:=Hj (B4.out.trans (hb.mono B4.out.size));clear hb;have hr3:=HR2.out r2 hr2))
        | fail)
      exact bodyPost_ret (results_tmp2 rfl _ _ _) rfl ⟨0,19,_,_,_,rfl,.inl ⟨by rw[HU.out];decide,rfl,HU.out.symm,rfl,rfl,rfl⟩,HS.out.made (HB1.out.trans (B5.out.mono HB1.out.size))⟩
     ·have h19:=hg
      have HG:Hid (getM M kd sp nm=none):=Hj (by cases h:getM M kd sp nm with | none=>rfl | some o=>exact absurd (by rw[h];rfl) hg)
      have HR2:Hid (∀r,Fd M kd sp nm r→r= -1):=Hj fun r hr=>hr.none HG.out
      by_cases hm:(32:Int)≤iR M kd sp
      ·have HU:Hid (dD M (⟨kd,sp,nm,ve,A,n,c⟩:OV)=21):=Hj (by unfold dD;rw[if_pos ha,if_neg h18,if_neg h19,if_pos (by rw[if_neg hk];exact hm)])
       have HM:=Hj hm
       clear hm h19 h18 hg
       go_enter Tryz.func30,Tryz.ntmps30
       go_wp2_with (first
         | (go_at_call 49;rw[←HW.out.1,←HW.out.2];((with_reducible refine pO.out.mono ?_);rintro e w2 ⟨rfl,hb⟩;obtain⟨x0,x1,x2,x3,x4⟩:=KW.out w2 hb;have HB2:=Hj (HB1.out.trans (hb.mono HB1.out.size));have B2:=Hj hb;clear hb))
         | (go_at_call 73;((with_reducible refine(fK _ w2).mono ?_);rw[hI];rintro e w3 ⟨rfl,rfl⟩))
         | (go_at_call 29;((with_reducible refine(Tv.out w3 HB2.out).mono ?_);rintro e w4 ⟨r1,rfl,hr1,hb⟩;obtain⟨y0,y1,y2,y3,y4⟩:=KW.out w4 (B2.out.trans (hb.mono B2.out.size));have B4:=Hj (B2.out.trans (hb.mono B2.out.size));clear hb;have hr3:=HR1.out r1 hr1;have hr4:¬r1<0:=(by omega)))
         | (go_at_call 29;((with_reducible refine(HF2.out w4 (HB1.out.trans (B4.out.mono HB1.out.size))).mono ?_);rintro e w5 ⟨r2,rfl,hr2,hb⟩;have hr3:=HR2.out r2 hr2;subst hr3;obtain⟨z0,z1,z2,z3,z4⟩:=KW.out w5 (B4.out.trans (hb.mono B4.out.size));have B5:=Hj (B4.out.trans (hb.mono B4.out.size));clear hb))
         | (go_at_call 74;((with_reducible refine(Rf.out w5 (HB1.out.trans (B5.out.mono HB1.out.size))).mono ?_);rintro e w6 ⟨A6,n6,c6,rfl,Jd,hb⟩;obtain⟨u0,u1,u2,u3,u4⟩:=KW.out w6 (B5.out.trans (hb.mono B5.out.size));have B6:=Hj (B5.out.trans (hb.mono B5.out.size));clear hb;have Oi:(32:Int)≤(n6:Int):=(by have:=HM.out;omega);clear Jd))
         | fail)
       exact bodyPost_ret (results_tmp2 rfl _ _ _) rfl ⟨0,21,_,_,_,rfl,.inl ⟨by rw[HU.out];decide,rfl,HU.out.symm,rfl,rfl,rfl⟩,HS.out.made (HB1.out.trans (B6.out.mono HB1.out.size))⟩
      ·have HU:Hid (dD M (⟨kd,sp,nm,ve,A,n,c⟩:OV)=0):=Hj (by unfold dD;rw[if_pos ha,if_neg h18,if_neg h19,if_neg (by rw[if_neg hk];exact hm)])
       have HM:=Hj hm
       clear hm h19 h18 hg
       go_enter Tryz.func30,Tryz.ntmps30
       go_wp2_with (first
         | (go_at_call 49;rw[←HW.out.1,←HW.out.2];((with_reducible refine pO.out.mono ?_);rintro e w2 ⟨rfl,hb⟩;obtain⟨x0,x1,x2,x3,x4⟩:=KW.out w2 hb;have HB2:=Hj (HB1.out.trans (hb.mono HB1.out.size));have B2:=Hj hb;clear hb))
         | (go_at_call 73;((with_reducible refine(fK _ w2).mono ?_);rw[hI];rintro e w3 ⟨rfl,rfl⟩))
         | (go_at_call 29;((with_reducible refine(Tv.out w3 HB2.out).mono ?_);rintro e w4 ⟨r1,rfl,hr1,hb⟩;obtain⟨y0,y1,y2,y3,y4⟩:=KW.out w4 (B2.out.trans (hb.mono B2.out.size));have B4:=Hj (B2.out.trans (hb.mono B2.out.size));clear hb;have hr3:=HR1.out r1 hr1;have hr4:¬r1<0:=(by omega)))
         | (go_at_call 29;((with_reducible refine(HF2.out w4 (HB1.out.trans (B4.out.mono HB1.out.size))).mono ?_);rintro e w5 ⟨r2,rfl,hr2,hb⟩;have hr3:=HR2.out r2 hr2;subst hr3;obtain⟨z0,z1,z2,z3,z4⟩:=KW.out w5 (B4.out.trans (hb.mono B4.out.size));have B5:=Hj (B4.out.trans (hb.mono B4.out.size));clear hb))
         | (go_at_call 74;((with_reducible refine(Rf.out w5 (HB1.out.trans (B5.out.mono HB1.out.size))).mono ?_);rintro e w6 ⟨A6,n6,c6,rfl,Jd,hb⟩;obtain⟨u0,u1,u2,u3,u4⟩:=KW.out w6 (B5.out.trans (hb.mono B5.out.size));have B6:=Hj (B5.out.trans (hb.mono B5.out.size));clear hb;have Oi:¬(32:Int)≤(n6:Int):=(by have:=HM.out;omega);clear Jd))
         | (go_at_call 75;((with_reducible refine(Kr.out HA.out w6 (HB1.out.trans (B6.out.mono HB1.out.size))).mono ?_);rintro e w7 ⟨n7,E,M',L',m',rfl,hC,hR,hF⟩;have Zq:=Hj hC;have Zr:=Hj hR;have Zt:=Hj hF;clear hC hR hF))
         | fail)
       exact bodyPost_ret (results_tmp2 rfl _ _ _) rfl ⟨n7,E,M',L',m',rfl,.inr ⟨HU.out,Zq.out⟩,Zr.out,Zt.out⟩
 ·have hn2:bU kd sp nm=false:=by simpa using hn
  have ha:bG (⟨kd,sp,nm,ve,A,n,c⟩:OV)=9:=by unfold bG;rw[if_neg hn]
  have HU:Hid (dD M (⟨kd,sp,nm,ve,A,n,c⟩:OV)=9):=Hj (by unfold dD;rw[if_neg (by rw[ha];decide),ha])
  clear hn ha h hrb hr hl hl2 hw1 hB hb1 hr1
  go_enter Tryz.func30,Tryz.ntmps30
  go_wp2_with (first
    | (go_at_call 49;rw[←HW.out.1,←HW.out.2];((with_reducible refine pO.out.mono ?_);rintro e w2 ⟨rfl,hb⟩;obtain⟨x0,x1,x2,x3,x4⟩:=KW.out w2 hb;have HB2:=Hj (HB1.out.trans (hb.mono HB1.out.size));have B2:=Hj hb;clear hb))
    | fail)
  exact bodyPost_ret (results_tmp2 rfl _ _ _) rfl ⟨0,9,_,_,_,rfl,.inl ⟨by rw[HU.out];decide,rfl,HU.out.symm,rfl,rfl,rfl⟩,HS.out.made (HB1.out.trans (B2.out.mono HB1.out.size))⟩
theorem Tz (h:dO w0 w Q gs m L M) (v:OV) (data:List UInt8) (hrb:RB w v.A v.n data) (hr:M.rev<1099511627776) (hl:M.tab.length≤90) (hl2:M.evs.length≤100000):
  Calls Tryz.prog 30 #[.pointer (some ⟨gs,0,none⟩),.agg #[.int .i64 v.kind,.string v.space,.string v.name,.int .i64 v.ver,.slice v.A v.n v.c]] w fun en w'=>∃n E M' L' m',en=.returned (.tuple #[.int .i64 ((n:Nat):Int),.int .i64 ((E:Nat):Int)])∧Puts M L m (dD M v) (false,dW M v data) n E M' L' m'∧dO w0 w' (ext Q w w') gs m' L' M'∧Fr Q w w':=by
 obtain⟨kd,sp,nm,ve,A,n,c⟩:=v
 by_cases hk:kd=1
 ·subst hk
  exact Ku h sp nm ve A n c data hrb hr hl hl2
 ·exact Kw h kd hk sp nm ve A n c data hrb hr hl hl2
end
end Go.Proofs.YtdhbpajamlfacaaGreatDoor
