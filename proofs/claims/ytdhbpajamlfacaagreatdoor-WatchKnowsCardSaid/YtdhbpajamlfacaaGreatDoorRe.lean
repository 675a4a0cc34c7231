/- The document's store (layer 20): current, Update. -/
import Derived.Test.YtdhbpajamlfacaaGreatDoorRa
set_option maxRecDepth 100000
namespace Go.Proofs.YtdhbpajamlfacaaGreatDoor
open Go.RowKit SO
section
variable {w w' w0:World} {Z Q S X:Nat→Prop} {gs gl:Nat} {m m':DM} {L L':LM} {M M':aY} {av ev:Value} {xs:List (OV×aH)} {ys:List (Bool×(OV×aH))}
set_option maxHeartbeats 4000000 in
theorem Pj (h:RV w Z gs gl av ev xs ys M) (hM:M.Ok) (hl:xs.length≤100000) (v:OV):
  Calls Tryz.prog 77 #[.pointer (some ⟨gs,0,none⟩),.agg #[.int .i64 v.kind,.string v.space,.string v.name,.int .i64 v.ver,.slice v.A v.n v.c]] w fun e w'=>e=.returned (.int .i64 (eY M v:Int))∧Below w.heap.size w w':=by
 obtain⟨w1,hw1,B,hB,hb1,hr1⟩:=aX w v
 have HB1:=Hj hb1
 have HW:=Hj (And.intro hw1 hB)
 have KW:Hid (∀W,Below w1.heap.size w1 W→VB W B v):=Hj fun W hW=>VB.aG ((hW.block B (Cq hr1)).trans hr1)
 have HV:Hid (∀W,Below w1.heap.size w1 W→RV W Z gs gl av ev xs ys M):=Hj fun W hW=>(h.below hb1).below hW
 have HF:=Hj (Jb (h.below hb1) hl v)
 have HA:=Hj h.allM
 have HLn:=Hj hl
 cases hg:getM M v.kind v.space v.name with
 | none=>
  have HN:Hid (eY M v=18):=Hj (by unfold eY;rw[hg])
  have HR:Hid (∀r,Jc (M.tab.map fun x=>x.2) v.kind v.space v.name r→r= -1):=Hj fun r hf=>by
   rcases qV hM hf with ⟨e,-⟩ | ⟨i,o,-,-,hs,-⟩
   ·exact e
   ·rw [hg] at hs;cases hs
  rw[HN.out]
  clear h hM hl hw1 hB hb1 hr1 hg
  go_enter Tryz.func77,Tryz.ntmps77
  go_wp2_with (first
   | (go_at_call 29;rw[←HW.out.1];((with_reducible refine HF.out.mono ?_);rintro e w2 ⟨r,rfl,hf,hb⟩;have hr:=HR.out r hf;subst hr;have HB2:=Hj hb;clear hb hf))
   | fail)
  go_ret
  exact⟨rfl,HB1.out.trans (HB2.out.mono HB1.out.size)⟩
 | some o=>
  have HR:Hid (∀r,Jc (M.tab.map fun x=>x.2) v.kind v.space v.name r→∃(i:Nat) (x:OV×aH),r=(i:Int)∧xs[i]?=some x∧x.2=o):=Hj fun r hf=>by
   rcases qV hM hf with ⟨-,e⟩ | ⟨i,o',e,hi,hs,-⟩
   ·rw [hg] at e;cases e
   ·rw [hg] at hs
    injection hs with hs
    have hx:(xs.map fun x=>x.2)[i]?=some o':=by rw[←HA.out,List.getElem?_map,hi];rfl
    rw[List.getElem?_map] at hx
    cases hxi:xs[i]? with
    | none=>rw[hxi] at hx;cases hx
    | some y=>
     rw[hxi] at hx
     injection hx with hx
     exact⟨i,y,e,hxi,hx.trans hs.symm⟩
  have HE:Hid (∀x,x∈xs→x.2=o→x.1.ver=(o.ver:Int)):=Hj fun x hx e=>by rw[←e];exact(h.each x hx).ver
  have HN:Hid (eY M v=if (o.ver:Int)=v.ver then 0 else 20):=Hj (by unfold eY;rw[hg])
  rw[HN.out]
  clear h hM hl hw1 hB hb1 hr1 hg
  by_cases hv:(o.ver:Int)=v.ver
  all_goals
   first | rw[if_pos hv] | rw[if_neg hv]
   go_enter Tryz.func77,Tryz.ntmps77
   go_wp2_with (first
    | (go_at_call 29;rw[←HW.out.1,←HW.out.2];((with_reducible refine HF.out.mono ?_);rintro e w2 ⟨r,rfl,hf,hb⟩;obtain⟨i,x,hr,hx,hxo⟩:=HR.out r hf;subst hr;have hi:=(List.getElem?_eq_some_iff.1 hx).1;obtain⟨A,cA,-,k1,hrow⟩:=(HV.out w2 hb).row;obtain⟨b,o',rfl,hcell⟩:=hrow (by omega);obtain⟨-,-,-,d3,-⟩:=hcell i x hx;rw[HE.out x (List.mem_of_getElem? hx) hxo] at d3;obtain⟨-,-,-,b3,-⟩:=KW.out w2 hb;have k0:(0:Int)≤(i:Int):=(by omega);have k2:(i:Int)<(xs.length:Int):=(by omega);have k3:(i:Int)≤100000:=(by have:=HLn.out;omega);have k4:¬(i:Int)<0:=(by omega);have HB2:=Hj hb;clear hb hf hcell hrow hx hxo hi))
    | fail)
   go_region_held3 (fun w'=>w'.cell? ⟨gs,1,none⟩=some (.slice (some ⟨b,o',none⟩) xs.length cA)∧w'.cell? ⟨b,o'+i*5+3,none⟩=some (.int .i64 (o.ver:Int))∧w'.cell? ⟨B,3,none⟩=some (.int .i64 v.ver)) (first | exact⟨by assumption,by assumption,by assumption⟩ | go_keep) (fail)
   go_wp2
   go_ret
   exact⟨rfl,HB1.out.trans ((Below.drew HB2.out).mono HB1.out.size)⟩
theorem dO.current (h:dO w0 w Q gs m L M) (hl:M.tab.length≤100000) (v:OV):
  Calls Tryz.prog 77 #[.pointer (some ⟨gs,0,none⟩),.agg #[.int .i64 v.kind,.string v.space,.string v.name,.int .i64 v.ver,.slice v.A v.n v.c]] w fun e w'=>e=.returned (.int .i64 (eY M v:Int))∧Below w.heap.size w w':=by
 obtain⟨Z,gl,av,ev,xs,ys,hv,-,-⟩:=h.use
 exact Pj hv h.ok (by rw[hv.len.1];exact hl) v
/-- A change that puts, at a world that stands behind. -/
theorem dO.putting (h:dO w0 w Q gs m L M) (v:OV) (data:List UInt8) (hrb:RB w v.A v.n data) (ha:bG v=0) (hr:M.rev<1099511627776) (hl:M.tab.length≤90) (hl2:M.evs.length≤100000) (W:World) (hW:Below w.heap.size w W):
  Calls Tryz.prog 75 #[.pointer (some ⟨gs,0,none⟩),.int .i64 1,.agg #[.int .i64 v.kind,.string v.space,.string v.name,.int .i64 v.ver,.slice v.A v.n v.c]] W fun en w'=>∃n E M' L' m',en=.returned (.tuple #[.int .i64 ((n:Nat):Int),.int .i64 ((E:Nat):Int)])∧Ir M L m (false,dW M v data) n E M' L' m'∧dO w0 w' (ext Q w w') gs m' L' M'∧Fr Q w w':=by
 obtain⟨hc,hk⟩:=jl (M:=M) (data:=data) ha hrb.1.symm hr
 refine(Ja v (dW M v data) false (h.below hW) (hrb.keep (Kz hW)) ⟨hk,rfl,rfl⟩ hc (fun e=>by cases e) hr hl hl2).mono ?_
 rintro e w' ⟨n,E,M',L',m',rfl,hC,r1,r2⟩
 exact⟨n,E,M',L',m',rfl,hC,h.behind hW ⟨r1,r2⟩⟩
set_option maxHeartbeats 4000000 in
theorem Tq (h:dO w0 w Q gs m L M) (v:OV) (data:List UInt8) (hrb:RB w v.A v.n data) (hr:M.rev<1099511627776) (hl:M.tab.length≤90) (hl2:M.evs.length≤100000):
  Calls Tryz.prog 32 #[.pointer (some ⟨gs,0,none⟩),.agg #[.int .i64 v.kind,.string v.space,.string v.name,.int .i64 v.ver,.slice v.A v.n v.c]] w fun en w'=>∃n E M' L' m',en=.returned (.tuple #[.int .i64 ((n:Nat):Int),.int .i64 ((E:Nat):Int)])∧Puts M L m (mV M v) (false,dW M v data) n E M' L' m'∧dO w0 w' (ext Q w w') gs m' L' M'∧Fr Q w w':=by
 obtain⟨w1,hw1,B,hB,hb1,hr1⟩:=aX w v
 have HB1:=Hj hb1
 have HW:=Hj (And.intro hw1 hB)
 have KW:Hid (∀W,Below w1.heap.size w1 W→VB W B v):=Hj fun W hW=>VB.aG ((hW.block B (Cq hr1)).trans hr1)
 have pO:=Hj (AZ v w1)
 have Ya:Hid (∀W,Below w.heap.size w W→_):=Hj fun W hW=>(h.below hW).current (by omega) v
 have Kr:=Hj fun ha=>h.putting v data hrb ha hr hl hl2
 have HS:=Hj h
 clear h hrb hr hl hl2 hw1 hB hb1 hr1
 by_cases hn:bU v.kind v.space v.name=true
 ·by_cases hv:8192<v.n
  ·have k1:(8192:Int)<(v.n:Int):=by omega
   have HU:Hid (mV M v=3):=Hj (by unfold mV bG;rw[if_pos hn,if_pos hv];rfl)
   go_enter Tryz.func32,Tryz.ntmps32
   go_wp2_with (first
    | (go_at_call 49;rw[←HW.out.1,←HW.out.2];((with_reducible refine pO.out.mono ?_);rintro e w2 ⟨rfl,hb⟩;obtain⟨x0,x1,x2,x3,x4⟩:=KW.out w2 hb;have HB2:=Hj (HB1.out.trans (hb.mono HB1.out.size));clear hb))
    | fail)
   exact bodyPost_ret (results_tmp2 rfl _ _ _) rfl ⟨0,3,_,_,_,rfl,.inl ⟨by rw[HU.out];decide,rfl,HU.out.symm,rfl,rfl,rfl⟩,HS.out.made HB2.out⟩
  ·have k1:¬(8192:Int)<(v.n:Int):=by omega
   have ha:bG v=0:=by unfold bG;rw[if_pos hn,if_neg hv]
   have HU:Hid (mV M v=eY M v):=Hj (by unfold mV;rw[if_pos ha])
   have HA:=Hj ha
   clear ha
   by_cases hc:eY M v=0
   ·have q1:((eY M v:Nat):Int)=0:=by rw[hc];rfl
    have HC:=Hj hc
    clear hc
    go_enter Tryz.func32,Tryz.ntmps32
    go_wp2_with (first
     | (go_at_call 49;rw[←HW.out.1,←HW.out.2];((with_reducible refine pO.out.mono ?_);rintro e w2 ⟨rfl,hb⟩;obtain⟨x0,x1,x2,x3,x4⟩:=KW.out w2 hb;have HB2:=Hj (HB1.out.trans (hb.mono HB1.out.size));have Bc:=Hj hb;clear hb))
     | (go_at_call 77;((with_reducible refine(Ya.out w2 HB2.out).mono ?_);rw[q1];rintro e w3 ⟨rfl,hb⟩;obtain⟨y0,y1,y2,y3,y4⟩:=KW.out w3 (Bc.out.trans (hb.mono Bc.out.size));have HB3:=Hj (HB2.out.trans (hb.mono HB2.out.size));clear hb))
     | (go_at_call 75;((with_reducible refine(Kr.out HA.out w3 HB3.out).mono ?_);rintro e w4 ⟨n,E,M',L',m',rfl,hC,hR,hF⟩;have HC4:=Hj hC;have HR4:=Hj hR;have HF4:=Hj hF;clear hC hR hF))
     | fail)
    exact bodyPost_ret (results_tmp2 rfl _ _ _) rfl ⟨n,E,M',L',m',rfl,.inr ⟨by rw[HU.out];exact HC.out,HC4.out⟩,HR4.out,HF4.out⟩
   ·have q1:¬((eY M v:Nat):Int)=0:=by omega
    have HC:=Hj hc
    clear hc
    go_enter Tryz.func32,Tryz.ntmps32
    go_wp2_with (first
     | (go_at_call 49;rw[←HW.out.1,←HW.out.2];((with_reducible refine pO.out.mono ?_);rintro e w2 ⟨rfl,hb⟩;obtain⟨x0,x1,x2,x3,x4⟩:=KW.out w2 hb;have HB2:=Hj (HB1.out.trans (hb.mono HB1.out.size));have Bc:=Hj hb;clear hb))
     | (go_at_call 77;((with_reducible refine(Ya.out w2 HB2.out).mono ?_);rintro e w3 ⟨rfl,hb⟩;have HB3:=Hj (HB2.out.trans (hb.mono HB2.out.size));clear hb))
     | fail)
    exact bodyPost_ret (results_tmp2 rfl _ _ _) rfl ⟨0,eY M v,_,_,_,rfl,.inl ⟨by rw[HU.out];exact HC.out,rfl,HU.out.symm,rfl,rfl,rfl⟩,HS.out.made HB3.out⟩
 ·have hn2:bU v.kind v.space v.name=false:=by simpa using hn
  have HU:Hid (mV M v=9):=Hj (by unfold mV bG;rw[if_neg hn];rfl)
  clear hn
  go_enter Tryz.func32,Tryz.ntmps32
  go_wp2_with (first
   | (go_at_call 49;rw[←HW.out.1];((with_reducible refine pO.out.mono ?_);rintro e w2 ⟨rfl,hb⟩;have HB2:=Hj (HB1.out.trans (hb.mono HB1.out.size));clear hb))
   | fail)
  exact bodyPost_ret (results_tmp2 rfl _ _ _) rfl ⟨0,9,_,_,_,rfl,.inl ⟨by rw[HU.out];decide,rfl,HU.out.symm,rfl,rfl,rfl⟩,HS.out.made HB2.out⟩
end
section
variable {w w' w0:World} {Z Q S X:Nat→Prop} {gs gl:Nat} {m m':DM} {L L':LM} {M M':aY}
theorem Kt {kind:Int} {space name:ByteArray} (h:bU kind space name=true):oI name:=by
 unfold bU at h
 rw[Bool.and_eq_true,Bool.and_eq_true,Bool.and_eq_true] at h
 exact Eh h.2.2.2
theorem dO.ofs (h:dO w0 w Q gs m L M) (hl:M.tab.length≤90) {K:Nat} (hK:K≤7) {sp:ByteArray} (hS:oI sp):
  Calls Tryz.prog 74 #[.pointer (some ⟨gs,0,none⟩),.int .i64 (K:Int),.string sp] w fun e w'=>∃A n c,e=.returned (.slice A n c)∧(n:Int)=iR M (K:Int) sp∧n≤90∧Below w.heap.size w w':=by
 obtain⟨Z,gl,av,ev,xs,ys,hv,-,-⟩:=h.use
 refine(OfR hv (by rw[hv.len.1];omega) (K:Int) sp (fun o=>decide (o.kind=K∧o.space=sp)) (fun o=>decide_eq_decide.2 (by constructor<;>rintro⟨a,b⟩<;>exact⟨by omega,b⟩))).mono ?_
 rintro e w' ⟨A,c,rfl,hb⟩
 exact⟨A,_,c,rfl,Xd h.ok hK hS (fun o=>rfl),Cz (List.length_filter_le _ _) (by rw[List.length_map];exact hl),hb⟩
theorem dO.taking (h:dO w0 w Q gs m L M) (v:OV) (ha:bG ⟨v.kind,v.space,v.name,v.ver,none,0,0⟩=0) (hp:eY M v=0) (hr:M.rev<1099511627776) (hl:M.tab.length≤90) (hl2:M.evs.length≤100000) (W:World) (hW:Below w.heap.size w W):
  Calls Tryz.prog 75 #[.pointer (some ⟨gs,0,none⟩),.int .i64 2,.agg #[.int .i64 v.kind,.string v.space,.string v.name,.int .i64 v.ver,.slice none 0 0]] W fun en w'=>∃n E M' L' m',en=.returned (.tuple #[.int .i64 ((n:Nat):Int),.int .i64 ((E:Nat):Int)])∧Ir M L m (true,dW M v []) n E M' L' m'∧dO w0 w' (ext Q w w') gs m' L' M'∧Fr Q w w':=by
 obtain⟨hc,hk⟩:=vY ha hp hr
 refine(Ja ⟨v.kind,v.space,v.name,v.ver,none,0,0⟩ (dW M v []) true (h.below hW) (RB.nil _ _) ⟨hk,rfl,rfl⟩ hc (fun _=> ?_) hr hl hl2).mono ?_
 ·rw [←hk]
  show (getM M v.kind v.space v.name).isSome=true
  unfold eY at hp
  cases hg:getM M v.kind v.space v.name with
  | none=>rw[hg] at hp;cases hp
  | some o=>rfl
 ·rintro e w' ⟨n,E,M',L',m',rfl,hC,r1,r2⟩
  exact⟨n,E,M',L',m',rfl,hC,h.behind hW ⟨r1,r2⟩⟩
set_option maxHeartbeats 4000000 in
set_option maxRecDepth 100000 in
theorem Tt (h:dO w0 w Q gs m L M) (v:OV) (hr:M.rev<1099511627776) (hl:M.tab.length≤90) (hl2:M.evs.length≤100000):
  Calls Tryz.prog 34 #[.pointer (some ⟨gs,0,none⟩),.agg #[.int .i64 v.kind,.string v.space,.string v.name,.int .i64 v.ver,.slice v.A v.n v.c]] w fun en w'=>∃n E M' L' m',en=.returned (.tuple #[.int .i64 ((n:Nat):Int),.int .i64 ((E:Nat):Int)])∧Puts M L m (kL M v) (true,dW M v []) n E M' L' m'∧dO w0 w' (ext Q w w') gs m' L' M'∧Fr Q w w':=by
 obtain⟨w1,hw1,B,hB,hb1,hr1⟩:=aX w v
 have HB1:=Hj hb1
 have HW:=Hj (And.intro hw1 hB)
 have dR:Hid (∀W,Below w1.heap.size w1 W→W.heap[B]?=some (.cells #[.int .i64 v.kind,.string v.space,.string v.name,.int .i64 v.ver,.slice v.A v.n v.c] 37 (0,0))):=Hj fun W hW=>(hW.block B (Cq hr1)).trans hr1
 have KW:Hid (∀W,Below w1.heap.size w1 W→VB W B v∧W.frozen? ⟨B,4,none⟩=false∧VB (W.setCell ⟨B,4,none⟩ (.slice none 0 0)) B ⟨v.kind,v.space,v.name,v.ver,none,0,0⟩∧Below w.heap.size w (W.setCell ⟨B,4,none⟩ (.slice none 0 0))):=Hj fun W hW=>⟨VB.aG (dR.out W hW),Kj (dR.out W hW),VB.aG (heap_setCell_same _ _ 4 _ _ _ (dR.out W hW)),(hb1.trans (hW.mono hb1.size)).setCell (p:=⟨B,4,none⟩) (by show w.heap.size≤B;omega) _⟩
 have pO:=Hj (AZ v w1)
 have Ya:Hid (∀W,Below w.heap.size w W→_):=Hj fun W hW=>(h.below hW).current (by omega) v
 have Rf:Hid (∀W,Below w.heap.size w W→∀K:Nat,K≤7→oI v.name→_):=Hj fun W hW K hK hS=>(h.below hW).ofs hl (K:=K) hK hS
 have Kr:=Hj fun ha hp=>h.taking v ha hp hr hl hl2
 have HS:=Hj h
 clear h hr hl hl2 hw1 hB hb1 hr1
 by_cases hn:bU v.kind v.space v.name=true
 ·have ha:bG ⟨v.kind,v.space,v.name,v.ver,none,0,0⟩=0:=by
   unfold bG
   rw[if_pos hn]
   rfl
  have H47:=Hj (Kt hn)
  by_cases hc:eY M v=0
  ·have q1:((eY M v:Nat):Int)=0:=by rw[hc];rfl
   have HA:=Hj ha
   have HC:=Hj hc
   have H5:Hid (∀W,Below w.heap.size w W→Calls Tryz.prog 74 #[.pointer (some ⟨gs,0,none⟩),.int .i64 5,.string v.name] W fun e w'=>∃A n c,e=.returned (.slice A n c)∧(n:Int)=iR M 5 v.name∧n≤90∧Below W.heap.size W w'):=Hj fun W hW=>Rf.out W hW 5 (by omega) H47.out
   have H6:Hid (∀W,Below w.heap.size w W→Calls Tryz.prog 74 #[.pointer (some ⟨gs,0,none⟩),.int .i64 6,.string v.name] W fun e w'=>∃A n c,e=.returned (.slice A n c)∧(n:Int)=iR M 6 v.name∧n≤90∧Below W.heap.size W w'):=Hj fun W hW=>Rf.out W hW 6 (by omega) H47.out
   have HU:Hid (kL M v=if v.kind=1∧vX M v=true then 24 else 0):=Hj (by unfold kL;rw[if_pos ha,if_pos hc])
   clear ha hc
   by_cases hk:v.kind=1
   ·have HK:=Hj hk
    clear hk
    go_enter Tryz.func34,Tryz.ntmps34
    go_wp2_with (first
     | (go_at_call 49;rw[←HW.out.1,←HW.out.2];((with_reducible refine pO.out.mono ?_);rintro e w2 ⟨rfl,hb⟩;obtain⟨⟨x0,x1,x2,x3,x4⟩,-⟩:=KW.out w2 hb;have HB2:=Hj (HB1.out.trans (hb.mono HB1.out.size));have Bc:=Hj hb;clear hb))
     | (go_at_call 77;((with_reducible refine(Ya.out w2 HB2.out).mono ?_);rw[q1];rintro e w3 ⟨rfl,hb⟩;have Pm:=Hj (Bc.out.trans (hb.mono Bc.out.size));obtain⟨⟨y0,y1,y2,y3,y4⟩,-⟩:=KW.out w3 Pm.out;have HB3:=Hj (HB2.out.trans (hb.mono HB2.out.size));clear hb))
     | fail)
    rw[HK.out] at y0
    have BD:Hid (Below w1.heap.size w1 w3.drew):=Hj (Below.drew Pm.out)
    go_region_held3 (fun w'=>w'.cell? ⟨B,0,none⟩=some (.int .i64 1)∧w'.cell? ⟨B,2,none⟩=some (.string v.name)) (first | exact⟨by assumption,by assumption⟩ | go_keep) (first
     | (go_at_call 74;((with_reducible refine(H5.out w3.drew (HB1.out.trans (BD.out.mono HB1.out.size))).mono ?_);rintro e w4 ⟨A5,n5,c5,rfl,Y3,hm5,hb⟩;have B4:=Hj (BD.out.trans (hb.mono BD.out.size));obtain⟨⟨z0,z1,z2,z3,z4⟩,-⟩:=KW.out w4 B4.out;rw[HK.out] at z0;clear hb))
     | (go_at_call 74;((with_reducible refine(H6.out w4 (HB1.out.trans (B4.out.mono HB1.out.size))).mono ?_);rintro e w5 ⟨A6,n6,c6,rfl,Jd,Oi,hb⟩;have B5:=Hj (B4.out.trans (hb.mono B4.out.size));obtain⟨⟨u0,u1,u2,u3,u4⟩,uf,⟨t0,t1,t2,t3,t4⟩,hbs⟩:=KW.out w5 B5.out;rw[HK.out] at u0;have HBS:=Hj hbs;clear hb hbs))
     | fail)
    all_goals
     have qw:IntKind.i64.wrap (iR M 5 v.name+iR M 6 v.name)=iR M 5 v.name+iR M 6 v.name:=IntWalk.i64_in _ (by omega)
     by_cases hu:0<iR M 5 v.name+iR M 6 v.name
     ·have HD:Hid (kL M v=24):=Hj (by rw[HU.out,if_pos ⟨HK.out,by unfold vX;rw[Bool.or_eq_true,decide_eq_true_iff,decide_eq_true_iff];omega⟩])
      clear Y3 Jd hm5 Oi
      go_wp2
      exact bodyPost_ret (results_tmp2 rfl _ _ _) rfl ⟨0,24,_,_,_,rfl,.inl ⟨by rw[HD.out];decide,rfl,HD.out.symm,rfl,rfl,rfl⟩,HS.out.made (HB1.out.trans (B5.out.mono HB1.out.size))⟩
     ·have HD:Hid (kL M v=0):=Hj (by rw[HU.out,if_neg fun h=>by have h2:=h.2;unfold vX at h2;rw[Bool.or_eq_true,decide_eq_true_iff,decide_eq_true_iff] at h2;omega])
      clear Y3 Jd hm5 Oi
      go_wp2_with (first
       | (go_at_call 75;((with_reducible refine(Kr.out HA.out HC.out _ HBS.out).mono ?_);rintro e w9 ⟨n,E,M',L',m',rfl,hC,hR,hF⟩;have FT:=Hj hC;have VX:=Hj hR;have HF9:=Hj hF;clear hC hR hF))
       | fail)
      exact bodyPost_ret (results_tmp2 rfl _ _ _) rfl ⟨n,E,M',L',m',rfl,.inr ⟨HD.out,FT.out⟩,VX.out,HF9.out⟩
   ·have HD:Hid (kL M v=0):=Hj (by rw[HU.out,if_neg fun h=>hk h.1])
    go_enter Tryz.func34,Tryz.ntmps34
    go_wp2_with (first
     | (go_at_call 49;rw[←HW.out.1,←HW.out.2];((with_reducible refine pO.out.mono ?_);rintro e w2 ⟨rfl,hb⟩;obtain⟨⟨x0,x1,x2,x3,x4⟩,-⟩:=KW.out w2 hb;have HB2:=Hj (HB1.out.trans (hb.mono HB1.out.size));have Bc:=Hj hb;clear hb))
     | (go_at_call 77;((with_reducible refine(Ya.out w2 HB2.out).mono ?_);rw[q1];rintro e w3 ⟨rfl,hb⟩;have Pm:=Hj (Bc.out.trans (hb.mono Bc.out.size));obtain⟨⟨y0,y1,y2,y3,y4⟩,-⟩:=KW.out w3 Pm.out;clear hb))
     | fail)
    go_quiet (fail)
    obtain⟨⟨u0,u1,u2,u3,u4⟩,uf,⟨t0,t1,t2,t3,t4⟩,hbs⟩:=KW.out (w3.drewN nq) (below_drewN Pm.out nq)
    have HBS:=Hj hbs
    clear hbs
    go_wp2_with (first
     | (go_at_call 75;((with_reducible refine(Kr.out HA.out HC.out _ HBS.out).mono ?_);rintro e w9 ⟨n,E,M',L',m',rfl,hC,hR,hF⟩;have FT:=Hj hC;have VX:=Hj hR;have HF9:=Hj hF;clear hC hR hF))
     | fail)
    exact bodyPost_ret (results_tmp2 rfl _ _ _) rfl ⟨n,E,M',L',m',rfl,.inr ⟨HD.out,FT.out⟩,VX.out,HF9.out⟩
  ·have q1:¬((eY M v:Nat):Int)=0:=by omega
   have HU:Hid (kL M v=eY M v):=Hj (by unfold kL;rw[if_pos ha,if_neg hc])
   have HC:=Hj hc
   clear hc ha
   go_enter Tryz.func34,Tryz.ntmps34
   go_wp2_with (first
    | (go_at_call 49;rw[←HW.out.1,←HW.out.2];((with_reducible refine pO.out.mono ?_);rintro e w2 ⟨rfl,hb⟩;obtain⟨⟨x0,x1,x2,x3,x4⟩,-⟩:=KW.out w2 hb;have HB2:=Hj (HB1.out.trans (hb.mono HB1.out.size));clear hb))
    | (go_at_call 77;((with_reducible refine(Ya.out w2 HB2.out).mono ?_);rintro e w3 ⟨rfl,hb⟩;have HB3:=Hj (HB2.out.trans (hb.mono HB2.out.size));clear hb))
    | fail)
   exact bodyPost_ret (results_tmp2 rfl _ _ _) rfl ⟨0,eY M v,_,_,_,rfl,.inl ⟨by rw[HU.out];exact HC.out,rfl,HU.out.symm,rfl,rfl,rfl⟩,HS.out.made HB3.out⟩
 ·have hn2:bU v.kind v.space v.name=false:=by simpa using hn
  have HU:Hid (kL M v=9):=Hj (by
   have ha:bG ⟨v.kind,v.space,v.name,v.ver,none,0,0⟩=9:=by unfold bG;rw[if_neg hn]
   unfold kL;rw[if_neg (by rw[ha];decide),ha])
  clear hn
  go_enter Tryz.func34,Tryz.ntmps34
  go_wp2_with (first
   | (go_at_call 49;rw[←HW.out.1];((with_reducible refine pO.out.mono ?_);rintro e w2 ⟨rfl,hb⟩;have HB2:=Hj (HB1.out.trans (hb.mono HB1.out.size));clear hb))
   | fail)
  exact bodyPost_ret (results_tmp2 rfl _ _ _) rfl ⟨0,9,_,_,_,rfl,.inl ⟨by rw[HU.out];decide,rfl,HU.out.symm,rfl,rfl,rfl⟩,HS.out.made HB2.out⟩
end
end Go.Proofs.YtdhbpajamlfacaaGreatDoor
