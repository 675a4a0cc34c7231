/- The document's store (layer 20): Delete. -/
import Derived.Test.YtdhbpajamlfacaaGreatDoorRc
set_option maxHeartbeats 8000000
set_option maxRecDepth 100000
namespace Go.Proofs.YtdhbpajamlfacaaGreatDoor
open Go.RowKit SO
section
variable {w w' w0:World} {D Z Q S X:Nat→Prop} {gs gl:Nat} {m m':DM} {L L':LM} {M M':bQ}
theorem Cc {kind:Int} {space name:ByteArray} (h:dJ kind space name=true):sJ name:=by
 unfold dJ at h
 rw[jA,jA,jA] at h
 exact Gm h.2.2.2
theorem fG.ofs (h:fG D w0 w Q gs m L M) (hl:M.tab.length≤90) {K:Nat} (hK:K≤7) {sp:ByteArray} (hS:sJ sp):
  Cl 74 #[pt gs,.int .i64 (K:Int),.string sp] w fun e w'=>∃A n c,e=.returned (.slice A n c)∧(n:Int)=jW M (K:Int) sp∧n≤90∧Bw w w':=by
 obtain⟨Z,gl,av,ev,xs,ys,hv,-,-⟩:=h.use
 refine(OfR hv (by rw[hv.len.1];omega) (K:Int) sp (fun o=>decide (o.kind=K∧o.space=sp)) (fun o=>decide_eq_decide.2 (by constructor<;>rintro⟨a,b⟩<;>exact⟨by omega,b⟩))).mono ?_
 rintro e w' ⟨A,c,rfl,hb⟩
 exact⟨A,_,c,rfl,Zc h.ok hK hS (fun o=>rfl),Cz (kZ _ _) (by rw[aX];exact hl),hb⟩
theorem fG.taking (h:fG D w0 w Q gs m L M) (v:OV) (ha:dL ⟨v.kind,v.space,v.name,v.ver,none,0,0⟩=0) (hp:gV M v=0) (hr:M.rev<1099511627776) (hl:M.tab.length≤90) (hl2:M.evs.length≤100000) (W:World) (hW:Bw w W):
  Cl 75 #[pt gs,.int .i64 2,.agg #[.int .i64 v.kind,.string v.space,.string v.name,.int .i64 v.ver,.slice none 0 0]] W fun en w'=>∃n E M' L' m',en=.returned (.tuple #[.int .i64 ((n:Nat):Int),.int .i64 ((E:Nat):Int)])∧Nb M L m (true,fU M v []) n E M' L' m'∧fG D w0 w' (ext Q w w') gs m' L' M'∧Fr Q w w':=by
 obtain⟨hc,hk⟩:=yB ha hp hr
 refine(LQ ⟨v.kind,v.space,v.name,v.ver,none,0,0⟩ (fU M v []) true (h.below hW) (RB.nil _ _) ⟨hk,rfl,rfl⟩ hc (fun _=> ?_) hr hl hl2).mono ?_
 ·rw [←hk]
  show (getM M v.kind v.space v.name).isSome=true
  unfold gV at hp
  cases hg:getM M v.kind v.space v.name with
  | none=>rw[hg] at hp;cases hp
  | some o=>rfl
 ·rintro e w' ⟨n,E,M',L',m',rfl,hC,r1,r2⟩
  exact⟨n,E,M',L',m',rfl,hC,h.behind hW ⟨r1,r2⟩⟩
theorem Vz (h:fG D w0 w Q gs m L M) (v:OV) (hr:M.rev<1099511627776) (hl:M.tab.length≤90) (hl2:M.evs.length≤100000):
  Cl 34 #[pt gs,.agg (ov v)] w fun en w'=>∃n E M' L' m',en=.returned (.tuple #[.int .i64 ((n:Nat):Int),.int .i64 ((E:Nat):Int)])∧Puts M L m (mG M v) (true,fU M v []) n E M' L' m'∧fG D w0 w' (ext Q w w') gs m' L' M'∧Fr Q w w':=by
 obtain⟨w1,hw1,B,hB,hb1,hr1⟩:=bI w v
 have HB1:=Hj hb1
 have HW:=Hj (aB hw1 hB)
 have dZ:Hid (∀W,Bw w1 W→W.heap[B]?=some (.cells (ov v) 37 (0,0))):=Hj fun W hW=>(hW.block B (Cq hr1)).trans hr1
 have KW:Hid (∀W,Bw w1 W→VB W B v∧W.frozen? ⟨B,4,none⟩=false∧VB (W.setCell ⟨B,4,none⟩ (.slice none 0 0)) B ⟨v.kind,v.space,v.name,v.ver,none,0,0⟩∧Bw w (W.setCell ⟨B,4,none⟩ (.slice none 0 0))):=Hj fun W hW=>⟨VB.aK (dZ.out W hW),Kj (dZ.out W hW),VB.aK (aI _ _ 4 _ _ _ (dZ.out W hW)),(hb1.trans (hW.mono hb1.size)).setCell (p:=⟨B,4,none⟩) (by show w.heap.size≤B;omega) _⟩
 have Gi:=Hj (Ef v w1)
 have HCu:Hid (∀W,Bw w W→_):=Hj fun W hW=>(h.below hW).current (by omega) v
 have HOf:Hid (∀W,Bw w W→∀K:Nat,K≤7→sJ v.name→_):=Hj fun W hW K hK hS=>(h.below hW).ofs hl (K:=K) hK hS
 have XE:=Hj fun ha hp=>h.taking v ha hp hr hl hl2
 have HS:=Hj h
 clear h hr hl hl2 hw1 hB hb1 hr1
 by_cases hn:dJ v.kind v.space v.name=true
 ·have ha:dL ⟨v.kind,v.space,v.name,v.ver,none,0,0⟩=0:=by
   unfold dL
   rw[aF hn]
   rfl
  have H47:=Hj (Cc hn)
  by_cases hc:gV M v=0
  ·have q1:((gV M v:Nat):Int)=0:=by rw[hc];rfl
   have HA:=Hj ha
   have HC:=Hj hc
   have H5:Hid (∀W,Bw w W→Cl 74 #[pt gs,.int .i64 5,.string v.name] W fun e w'=>∃A n c,e=.returned (.slice A n c)∧(n:Int)=jW M 5 v.name∧n≤90∧Bw W w'):=Hj fun W hW=>HOf.out W hW 5 (by omega) H47.out
   have H6:Hid (∀W,Bw w W→Cl 74 #[pt gs,.int .i64 6,.string v.name] W fun e w'=>∃A n c,e=.returned (.slice A n c)∧(n:Int)=jW M 6 v.name∧n≤90∧Bw W w'):=Hj fun W hW=>HOf.out W hW 6 (by omega) H47.out
   have HU:Hid (mG M v=if v.kind=1∧tZ M v=true then 24 else 0):=Hj (by unfold mG;rw[aF ha,aF hc])
   clear ha hc
   by_cases hk:v.kind=1
   ·have HK:=Hj hk
    clear hk
    go_enter Tryz.func34,Tryz.ntmps34
    go_wp2_with (first
     | (go_at_call 49;rw[←HW.out.1,←HW.out.2];((refine Gi.out.mono ?_);rintro e w2 ⟨rfl,hb⟩;obtain⟨⟨x0,x1,x2,x3,x4⟩,-⟩:=KW.out w2 hb;have HB2:=Hj (HB1.out.trans (hb.mono HB1.out.size));have Eh:=Hj hb;clear hb))
     | (go_at_call 77;((refine(HCu.out w2 HB2.out).mono ?_);rw[q1];rintro e w3 ⟨rfl,hb⟩;have Ri:=Hj (Eh.out.trans (hb.mono Eh.out.size));obtain⟨⟨y0,y1,y2,y3,y4⟩,-⟩:=KW.out w3 Ri.out;have HB3:=Hj (HB2.out.trans (hb.mono HB2.out.size));clear hb))
     | fail)
    rw[HK.out] at y0
    have BD:Hid (Bw w1 w3.drew):=Hj (bV Ri.out)
    go_region_held3 (fun w'=>w'.cell? ⟨B,0,none⟩=some (.int .i64 1)∧w'.cell? ⟨B,2,none⟩=some (.string v.name)) (first | exact⟨by assumption,by assumption⟩ | go_keep) (first
     | (go_at_call 74;((with_reducible refine(H5.out w3.drew (HB1.out.trans (BD.out.mono HB1.out.size))).mono ?_);rintro e w4 ⟨A5,n5,c5,rfl,hn5,hm5,hb⟩;have B4:=Hj (BD.out.trans (hb.mono BD.out.size));obtain⟨⟨z0,z1,z2,z3,z4⟩,-⟩:=KW.out w4 B4.out;rw[HK.out] at z0;clear hb))
     | (go_at_call 74;((with_reducible refine(H6.out w4 (HB1.out.trans (B4.out.mono HB1.out.size))).mono ?_);rintro e w5 ⟨A6,n6,c6,rfl,NK,hm6,hb⟩;have B5:=Hj (B4.out.trans (hb.mono B4.out.size));obtain⟨⟨u0,u1,u2,u3,u4⟩,uf,⟨t0,t1,t2,t3,t4⟩,hbs⟩:=KW.out w5 B5.out;rw[HK.out] at u0;have HBS:=Hj hbs;clear hb hbs))
     | fail)
    all_goals
     have qw:IntKind.i64.wrap (jW M 5 v.name+jW M 6 v.name)=jW M 5 v.name+jW M 6 v.name:=cO _ (by omega)
     by_cases hu:0<jW M 5 v.name+jW M 6 v.name
     ·have HD:Hid (mG M v=24):=Hj (by rw[HU.out,aF ⟨HK.out,by unfold tZ;rw[Bool.or_eq_true,lD,lD];omega⟩])
      clear hn5 NK hm5 hm6
      go_wp2
      exact bg (eG rfl _ _ _) rfl ⟨0,24,_,_,_,rfl,.inl ⟨by rw[HD.out];decide,rfl,HD.out.symm,rfl,rfl,rfl⟩,HS.out.made (HB1.out.trans (B5.out.mono HB1.out.size))⟩
     ·have HD:Hid (mG M v=0):=Hj (by rw[HU.out,aG fun h=>by have h2:=h.2;unfold tZ at h2;rw[Bool.or_eq_true,lD,lD] at h2;omega])
      clear hn5 NK hm5 hm6
      go_wp2_with (first
       | (go_at_call 75;((refine(XE.out HA.out HC.out _ HBS.out).mono ?_);rintro e w9 ⟨n,E,M',L',m',rfl,hC,hR,hF⟩;have I7:=Hj hC;have Yo:=Hj hR;have HF9:=Hj hF;clear hC hR hF))
       | fail)
      exact bg (eG rfl _ _ _) rfl ⟨n,E,M',L',m',rfl,.inr ⟨HD.out,I7.out⟩,Yo.out,HF9.out⟩
   ·have HD:Hid (mG M v=0):=Hj (by rw[HU.out,aG fun h=>hk h.1])
    go_enter Tryz.func34,Tryz.ntmps34
    go_wp2_with (first
     | (go_at_call 49;rw[←HW.out.1,←HW.out.2];((refine Gi.out.mono ?_);rintro e w2 ⟨rfl,hb⟩;obtain⟨⟨x0,x1,x2,x3,x4⟩,-⟩:=KW.out w2 hb;have HB2:=Hj (HB1.out.trans (hb.mono HB1.out.size));have Eh:=Hj hb;clear hb))
     | (go_at_call 77;((refine(HCu.out w2 HB2.out).mono ?_);rw[q1];rintro e w3 ⟨rfl,hb⟩;have Ri:=Hj (Eh.out.trans (hb.mono Eh.out.size));obtain⟨⟨y0,y1,y2,y3,y4⟩,-⟩:=KW.out w3 Ri.out;clear hb))
     | fail)
    go_quiet (fail)
    obtain⟨⟨u0,u1,u2,u3,u4⟩,uf,⟨t0,t1,t2,t3,t4⟩,hbs⟩:=KW.out (w3.drewN nq) (below_drewN Ri.out nq)
    have HBS:=Hj hbs
    clear hbs
    go_wp2_with (first
     | (go_at_call 75;((refine(XE.out HA.out HC.out _ HBS.out).mono ?_);rintro e w9 ⟨n,E,M',L',m',rfl,hC,hR,hF⟩;have I7:=Hj hC;have Yo:=Hj hR;have HF9:=Hj hF;clear hC hR hF))
     | fail)
    exact bg (eG rfl _ _ _) rfl ⟨n,E,M',L',m',rfl,.inr ⟨HD.out,I7.out⟩,Yo.out,HF9.out⟩
  ·have q1:¬((gV M v:Nat):Int)=0:=by omega
   have HU:Hid (mG M v=gV M v):=Hj (by unfold mG;rw[aF ha,aG hc])
   have HC:=Hj hc
   clear hc ha
   go_enter Tryz.func34,Tryz.ntmps34
   go_wp2_with (first
    | (go_at_call 49;rw[←HW.out.1,←HW.out.2];((refine Gi.out.mono ?_);rintro e w2 ⟨rfl,hb⟩;obtain⟨⟨x0,x1,x2,x3,x4⟩,-⟩:=KW.out w2 hb;have HB2:=Hj (HB1.out.trans (hb.mono HB1.out.size));clear hb))
    | (go_at_call 77;((refine(HCu.out w2 HB2.out).mono ?_);rintro e w3 ⟨rfl,hb⟩;have HB3:=Hj (HB2.out.trans (hb.mono HB2.out.size));clear hb))
    | fail)
   exact bg (eG rfl _ _ _) rfl ⟨0,gV M v,_,_,_,rfl,.inl ⟨by rw[HU.out];exact HC.out,rfl,HU.out.symm,rfl,rfl,rfl⟩,HS.out.made HB3.out⟩
 ·have hn2:dJ v.kind v.space v.name=false:=by simpa using hn
  have HU:Hid (mG M v=9):=Hj (by
   have ha:dL ⟨v.kind,v.space,v.name,v.ver,none,0,0⟩=9:=by unfold dL;rw[aG hn]
   unfold mG;rw[aG (by rw[ha];decide),ha])
  clear hn
  go_enter Tryz.func34,Tryz.ntmps34
  go_wp2_with (first
   | (go_at_call 49;rw[←HW.out.1];((refine Gi.out.mono ?_);rintro e w2 ⟨rfl,hb⟩;have HB2:=Hj (HB1.out.trans (hb.mono HB1.out.size));clear hb))
   | fail)
  exact bg (eG rfl _ _ _) rfl ⟨0,9,_,_,_,rfl,.inl ⟨by rw[HU.out];decide,rfl,HU.out.symm,rfl,rfl,rfl⟩,HS.out.made HB2.out⟩
end
/-- What Find answers. -/
def Fd (M:bQ) (kind:Int) (space name:ByteArray) (r:Int):Prop:=(getM M kind space name=none∧r= -1)∨((getM M kind space name).isSome=true∧0≤r)
theorem Fd.some {M:bQ} {kind:Int} {space name:ByteArray} {r:Int} (h:Fd M kind space name r) (hs:(getM M kind space name).isSome=true):0≤r:=h.elim (fun h=>by rw[h.1] at hs;cases hs) fun h=>h.2
theorem Fd.none {M:bQ} {kind:Int} {space name:ByteArray} {r:Int} (h:Fd M kind space name r) (hs:getM M kind space name=none):r= -1:=h.elim (fun h=>h.2) fun h=>by rw[hs] at h;cases h.1
section
variable {w w' w0:World} {D Z Q S X:Nat→Prop} {gs gl:Nat} {m m':DM} {L L':LM} {M M':bQ}
theorem fG.find (h:fG D w0 w Q gs m L M) (hl:M.tab.length≤100000) (v:OV):
  Cl 29 #[pt gs,.agg (ov v)] w fun e w'=>∃r,e=.returned (.int .i64 r)∧Fd M v.kind v.space v.name r∧Bw w w':=by
 obtain⟨Z,gl,av,ev,xs,ys,hv,-,-⟩:=h.use
 refine(Gt hv (by rw[hv.len.1];exact hl) v).mono ?_
 rintro e w' ⟨r,rfl,hf,hb⟩
 refine⟨r,rfl,?_,hb⟩
 rcases oP h.ok hf with ⟨h1,h2⟩ | ⟨i,o,h1,-,h2,-⟩
 ·exact .inl ⟨h2,h1⟩
 ·exact .inr ⟨by rw[h2];rfl,by omega⟩
theorem VA (h:fG D w0 w Q gs m L M) (v:OV) (data:List UInt8) (hrb:RB w v.A v.n data) (hr:M.rev<1099511627776) (hl:M.tab.length≤90) (hl2:M.evs.length≤100000):
  Cl 30 #[pt gs,.agg (ov v)] w fun en w'=>∃n E M' L' m',en=.returned (.tuple #[.int .i64 ((n:Nat):Int),.int .i64 ((E:Nat):Int)])∧Puts M L m (jS M v) (false,fU M v data) n E M' L' m'∧fG D w0 w' (ext Q w w') gs m' L' M'∧Fr Q w w':=by
 obtain⟨w1,hw1,B,hB,hb1,hr1⟩:=bI w v
 have HB1:=Hj hb1
 have HW:=Hj (aB hw1 hB)
 have KW:Hid (∀W,Bw w1 W→VB W B v):=Hj fun W hW=>VB.aK ((hW.block B (Cq hr1)).trans hr1)
 have Gi:=Hj (Ef v w1)
 have HF:Hid (∀x:OV,∀W,Bw w1 W→Cl 29 #[pt gs,.agg (ov x)] W fun e w'=>∃r,e=.returned (.int .i64 r)∧(((getM M x.kind x.space x.name).isSome=false∧r= -1)∨((getM M x.kind x.space x.name).isSome=true∧0≤r))∧Bw W w'):=Hj fun x W hW=>((h.below (hb1.trans (hW.mono hb1.size))).find (by omega) x).mono fun e w' ⟨r,h1,h2,h3⟩=>⟨r,h1,h2.imp (fun h=>⟨by rw[h.1];rfl,h.2⟩) id,h3⟩
 have HF1:=Hj (HF.out ⟨1,⟨#[]⟩,v.space,0,none,0,0⟩)
 have HF2:=Hj (HF.out v)
 dsimp only at HF1
 have HOf:Hid (dJ v.kind v.space v.name=true→∀W,Bw w1 W→Cl 74 #[pt gs,.int .i64 v.kind,.string v.space] W fun e w'=>∃A n c,e=.returned (.slice A n c)∧(n:Int)=jW M v.kind v.space∧Bw W w'):=Hj fun hn W hW=>by
  obtain⟨p1,p2,-⟩:=oz hn
  have e:(((v.kind:Int).toNat:Nat):Int)=v.kind:=Int.toNat_of_nonneg (by omega)
  have:=(h.below (hb1.trans (hW.mono hb1.size))).ofs hl (K:=(v.kind:Int).toNat) (by omega) (oO hn)
  rw[e] at this
  exact this.mono fun en w' ⟨A,n,c,h1,h2,_,h3⟩=>⟨A,n,c,h1,h2,h3⟩
 have XE:=Hj fun ha=>h.putting v data hrb ha hr hl hl2
 have Fh:Hid (∀k W,k≠0→jS M v=k→Bw w1 W→Puts M L m (jS M v) (false,fU M v data) 0 k M L m∧fG D w0 W (ext Q w W) gs m L M∧Fr Q w W):=Hj fun k W h0 h1 hW=>⟨.inl ⟨by rw[h1];exact h0,rfl,h1.symm,rfl,rfl,rfl⟩,h.made (hb1.trans (hW.mono hb1.size))⟩
 have hU:jS M v=(if dJ v.kind v.space v.name=true then (if (8192:Int)<(v.n:Int) then 3 else if fV v.kind=true∧(getM M 1 ⟨#[]⟩ v.space).isSome=false then 18 else if (getM M v.kind v.space v.name).isSome=true then 19 else if (if v.kind=1 then 8 else 32)≤jW M v.kind v.space then 21 else 0) else 9):=by
  unfold jS dL
  have h3:(8192:Int)<(v.n:Int)↔8192<v.n:=by omega
  by_cases h1:dJ v.kind v.space v.name=true<;>by_cases h2:8192<v.n<;>simp[h1,h2,h3]
 have HAs:Hid (dJ v.kind v.space v.name=true→¬(8192:Int)<(v.n:Int)→dL v=0):=Hj fun h1 h2=>by unfold dL;rw[aF h1,aG (by omega)]
 have hI:fV v.kind=true→(v.kind==1)=false:=fun h=>by
  unfold fV at h
  rw[Bool.or_eq_true,lD,lD] at h
  rw[gQ]
  omega
 obtain⟨q,hq⟩:∃q:Int,q=if v.kind=1 then 8 else 32:=⟨_,rfl⟩
 obtain⟨t,ht⟩:∃t,t=jW M v.kind v.space:=⟨_,rfl⟩
 have hkq:((v.kind==1)=true∧q=8)∨((v.kind==1)=false∧q=32):=by
  rw[hq]
  by_cases h:v.kind=1<;>simp[h]
 rw[←hq,←ht] at hU
 rw[←ht] at HOf
 clear h hrb hr hl hl2 hw1 hB hb1 hr1 hq ht HF
 generalize (getM M 1 ⟨#[]⟩ v.space).isSome=b1 at*
 generalize (getM M v.kind v.space v.name).isSome=b2 at*
 have tq:=Hj fun W=>Gu v.kind W
 generalize hn:dJ v.kind v.space v.name=bn at*
 generalize fV v.kind=bi at*
 have hc:(bn=false∧jS M v=9)∨(bn=true∧(((8192:Int)<(v.n:Int)∧jS M v=3)∨(¬(8192:Int)<(v.n:Int)∧((bi=true∧(v.kind==1)=false∧q=32∧b1=false∧jS M v=18)∨(((bi=true∧(v.kind==1)=false∧q=32∧b1=true)∨(bi=false∧(v.kind==1)=true∧q=8)∨(bi=false∧(v.kind==1)=false∧q=32))∧((b2=true∧jS M v=19)∨(b2=false∧((q≤t∧jS M v=21)∨(¬q≤t∧jS M v=0))))))))):=by
  rw[hU]
  by_cases hx:(8192:Int)<(v.n:Int)
  ·rw [aF hx]
   cases bn<;>simp[hx]
  ·rw [aG hx]
   by_cases hy:q≤t
   ·rw [aF hy]
    rcases hkq with ⟨k1,k2⟩ | ⟨k1,k2⟩<;>rw[k1] at hI ⊢ <;>cases bn<;>cases bi<;>cases b1<;>cases b2<;>simp_all
   ·rw [aG hy]
    rcases hkq with ⟨k1,k2⟩ | ⟨k1,k2⟩<;>rw[k1] at hI ⊢ <;>cases bn<;>cases bi<;>cases b1<;>cases b2<;>simp_all
 clear hkq hI
 clear hn
 clear hU
 rcases hc with ⟨rfl,hU⟩ | ⟨rfl,⟨hv,hU⟩ | ⟨hv,⟨rfl,k1,rfl,rfl,hU⟩ | ⟨⟨rfl,k1,rfl,rfl⟩ | ⟨rfl,k1,rfl⟩ | ⟨rfl,k1,rfl⟩,⟨rfl,hU⟩ | ⟨rfl,⟨hq,hU⟩ | ⟨hq,hU⟩⟩⟩⟩⟩
 all_goals
  have HU:=Hj hU
  clear hU
  try (have HQ:=Hj hq)
  try (have HVv:=Hj hv)
  go_enter Tryz.func30,Tryz.ntmps30
  go_wp2_with (first
   | (go_at_call 49;rw[←HW.out.1,←HW.out.2];((refine Gi.out.mono ?_);rintro e w2 ⟨rfl,hb⟩;obtain⟨x0,x1,x2,x3,x4⟩:=KW.out w2 hb;have B2:=Hj hb;clear hb))
   | (go_at_call 73;((refine(tq.out w2).mono ?_);rintro e w3 ⟨rfl,rfl⟩;have BB:=B2))
   | (go_at_call 29;(first
     | ((with_reducible refine(HF1.out _ BB.out).mono ?_);rintro e w4 ⟨r1,rfl,hr,hb⟩;rcases hr with ⟨g,rfl⟩ | ⟨g,h0⟩<;>cases g<;>(try (have h1:¬r1<0:=(by omega)));obtain⟨y0,y1,y2,y3,y4⟩:=KW.out w4 (BB.out.trans (hb.mono BB.out.size));replace BB:=Hj (BB.out.trans (hb.mono BB.out.size));clear hb)
     | (((with_reducible refine(HF2.out _ BB.out).mono ?_);rintro e w5 ⟨r2,rfl,hr,hb⟩;rcases hr with ⟨g,rfl⟩ | ⟨g,h0⟩<;>cases g;obtain⟨z0,z1,z2,z3,z4⟩:=KW.out w5 (BB.out.trans (hb.mono BB.out.size));replace BB:=Hj (BB.out.trans (hb.mono BB.out.size));clear hb))))
   | (go_at_call 74;((refine(HOf.out (by simp) _ BB.out).mono ?_);rintro e w6 ⟨A6,n6,c6,rfl,NK,hb⟩;rw[←NK] at HQ;have hq6:=HQ.out;obtain⟨u0,u1,u2,u3,u4⟩:=KW.out w6 (BB.out.trans (hb.mono BB.out.size));replace BB:=Hj (BB.out.trans (hb.mono BB.out.size));clear hb))
   | (go_at_call 75;((refine(XE.out (HAs.out (by simp) (by have:=HVv.out;omega)) _ (HB1.out.trans (BB.out.mono HB1.out.size))).mono ?_);rintro e w7 ⟨n7,E,M',L',m',rfl,hC,hR,hF⟩;have HC7:=Hj hC;have HR7:=Hj hR;have HF7:=Hj hF;clear hC hR hF))
   | fail)
  first
  | exact bg (eG rfl _ _ _) rfl ⟨n7,E,M',L',m',rfl,.inr ⟨HU.out,HC7.out⟩,HR7.out,HF7.out⟩
  | exact bg (eG rfl _ _ _) rfl ⟨0,9,_,_,_,rfl,Fh.out 9 _ (by decide) HU.out B2.out⟩
  | exact bg (eG rfl _ _ _) rfl ⟨0,3,_,_,_,rfl,Fh.out 3 _ (by decide) HU.out B2.out⟩
  | exact bg (eG rfl _ _ _) rfl ⟨0,18,_,_,_,rfl,Fh.out 18 _ (by decide) HU.out BB.out⟩
  | exact bg (eG rfl _ _ _) rfl ⟨0,19,_,_,_,rfl,Fh.out 19 _ (by decide) HU.out BB.out⟩
  | exact bg (eG rfl _ _ _) rfl ⟨0,21,_,_,_,rfl,Fh.out 21 _ (by decide) HU.out BB.out⟩
end
end Go.Proofs.YtdhbpajamlfacaaGreatDoor
