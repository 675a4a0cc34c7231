/- Layer 20 (store): change. -/
import Derived.Test.YtdhbpajamlfacaaGreatDoorCpt
set_option maxHeartbeats 20000000
set_option maxRecDepth 100000
namespace Go.Proofs.YtdhbpajamlfacaaGreatDoor
open Go.RowKit SO
theorem MX {r R:Nat} (h:r<1099511627776) (e:R=r+1):IntKind.i64.wrap ((r:Int)+1)=(R:Int)∧wrap64 ((r:Int)+1)=(R:Int):=by
 refine⟨?_,?_⟩
 ·rw [cO _ (by omega)];omega
 ·unfold wrap64;omega
section
variable {w w' w0 w5 w6:World} {Q Y:Nat→Prop} {g gs:Nat} {m m':DM} {L L':LM} {M M':bQ} {ea:Nat→Addr}
theorem SW.fin (h:SW w0 w Q g m gs L M) (hb:Bw w w5) (h6:Fr Q w5 w6) (h9:SW w0 w' (fun k=>ext (ext Q w5 w6) w6 w' k∨Y k) g m' gs L' M') (xw:Fr (ext Q w5 w6) w6 w') (hY:∀k,Y k→w.heap.size≤k∧k<w'.heap.size):
  SW w0 w' (ext Q w w') g m' gs L' M'∧Fr Q w w':=by
 have hs:=hb.size
 refine⟨h9.mono (fun k hk=> ?_) fun k hk=>gX h.up h.hi h.bel.size (Cz hs (Cz h6.size xw.size)) hk,((Fr.of_below (S:=Q) hb).trans h6 fun _ _ hk=>hk).trans xw fun i hi hk=>hk.elim id fun hk=>absurd hk.1 (by omega)⟩
 rcases hk with hk | hk
 ·rcases iE h6.size xw.size hk with hk | hk
  ·exact .inl hk
  ·exact .inr ⟨Cz hs hk.1,hk.2⟩
 ·exact .inr (hY k hk)
theorem Bh (A:Option Addr) (n k:Nat) (b:List UInt8) (h:SW w0 w Q g m gs L M) (hE:EW w0 ea) (hbl:b.length≤16384) (ho:OB w 0 (.slice A n k) b) (hoff:∀q,(Value.slice A n k).ownBlock=some q→¬Q q):
  ∃gl,w.cell? ⟨gs,0,none⟩=some (pt gl)∧Cl 100 #[pt gl,.slice A n k] w fun e w'=>e=.returned (jC ea (L.yj m b))∧SW w0 w' (ext Q w w') g (L.uS m b) gs (L.app m b) M∧Fr Q w w':=by
 obtain⟨S,gl,hdw,hc0,hSQ,hcl⟩:=h.log
 obtain⟨A',c',e',h1,h2,h3⟩:=OB.form ho
 injection e' with e1 e2 e3
 refine⟨gl,hc0,(IQ A n k b hdw hE (by rw[e1,e2];exact h3) (fun _ p hp hs=>hoff p.block (by rw[hp];rfl) (hSQ _ hs)) (by rw[e2,e3];exact h1) (by rw[e3];exact h2) hbl).mono ?_⟩
 rintro e w' ⟨rfl,Yi,hf2⟩
 have h2:=hcl _ _ _ Yi hf2
 exact⟨rfl,h2.1,h2.2⟩
theorem MZ (v:OV) (o:aC) (d:Bool) (hv:dD w v o) (ho:o.Ok) (hm:o.ver≤1099511627776):
  Cl 99 #[.agg #[.int .i64 (o.ver:Int),.bool d,.int .i64 v.kind,.string v.space,.string v.name,.int .i64 v.ver,.slice v.A v.n v.c]] w fun e w'=>∃A c,e=.returned (.tuple #[.slice A (jV (d,o)).length c,.nilIface])∧OB w' w.heap.size (.slice A (jV (d,o)).length c) (jV (d,o))∧Bw w w':=by
 obtain⟨p1,p2,p3,p4,p5⟩:=ho.parts
 have hpd:=ho.data
 cases d with
 | false=>
  have h:=Bj o.ver o.kind v o.data w hv.kind (by omega) (by omega) (by rw[hv.space];omega) (by rw[hv.name];omega) hv.rb (by rw[hv.num];omega) hv.cap.1 hv.cap.2
  have e:jV (false,o)=E5 1 o.kind o.ver v.space.data.toList v.name.data.toList o.data:=by rw[hv.space,hv.name];rfl
  rw[e]
  exact h
 | true=>
  have h:=Na o.ver o.kind v o.data w hv.kind (by omega) (by omega) (by rw[hv.space];omega) (by rw[hv.name];omega) hv.rb (by rw[hv.num];omega) hv.cap.1 hv.cap.2
  have e:jV (true,o)=E5 2 o.kind o.ver v.space.data.toList v.name.data.toList []:=by rw[hv.space,hv.name];rfl
  rw[e]
  exact h
theorem rY (v:OV) (o:aC) (del:Bool) (h:SW w0 w Q g m gs L M) (hErr:Errs w0 ea) (hE:EW w0 ea) (hrb:RB w v.A v.n o.data) (hk:v.kind=(o.kind:Int)∧v.space=o.space∧v.name=o.name) (hc:M.Can (del,o)) (hr:M.rev<1099511627776) (hl:M.tab.length≤90) (hl2:M.evs.length≤100000):
  Cl 60 #[pt gs,.agg (ov v),.bool del] w fun en w'=>∃n E M' L' m',en=.returned (.tuple #[.int .i64 ((n:Nat):Int),jC ea E])∧Nb M L m (del,o) n E M' L' m'∧SW w0 w' (ext Q w w') g m' gs L' M'∧Fr Q w w':=by
 have hge:¬(1099511627776:Int)≤(M.rev:Int):=by clear hl hl2;omega
 obtain⟨w1,hw1,B,hB,hb1,hr1⟩:=bI w v
 have HS:Hid (∀W,Bw w1 W→(fun w'=>w'.cell? ⟨gs,2,none⟩=some (.int .i64 (M.rev:Int))∧w'.cell? ⟨B,0,none⟩=some (.int .i64 v.kind)∧w'.cell? ⟨B,1,none⟩=some (.string v.space)∧w'.cell? ⟨B,2,none⟩=some (.string v.name)∧w'.cell? ⟨B,3,none⟩=some (.int .i64 v.ver)∧w'.cell? ⟨B,4,none⟩=some (.slice v.A v.n v.c)) W):=Hj fun W hW=>by
  have hr:=(hW.block B (Cq hr1)).trans hr1
  obtain⟨_,_,_,_,_,_,_,hV,_,_⟩:=((h.below hb1).below hW).use
  exact⟨hV.cell.2.2.1,Kq 0 hr,Kq 1 hr,Kq 2 hr,Kq 3 hr,Kq 4 hr⟩
 dsimp only at HS
 have hnum:o.data.length=v.n:=hrb.1
 have hdl:=hc.ok.data
 have HCo:Hid (∀W,Bw w1 W→Cl 46 #[.agg (ov v)] W fun e w'=>∃A1 c1,e=.returned (.agg #[.int .i64 v.kind,.string v.space,.string v.name,.int .i64 v.ver,.slice A1 v.n c1])∧OB w' W.heap.size (.slice A1 v.n c1) o.data∧Bw W w'):=Hj fun W hW=>lQ v W o.data ((hrb.keep (Kz hb1)).keep (Kz hW)) (by simp only at hdl;omega)
 obtain⟨R,hR⟩:∃r,r=M.rev+1:=⟨_,rfl⟩
 have Ac:=hc.ver
 simp only at Ac
 rw[←hR] at Ac
 have PW:Hid (o.ver=R):=Hj Ac
 have HK:Hid (v.kind=(o.kind:Int)∧v.space=o.space∧v.name=o.name∧(R:Int)=(o.ver:Int)∧v.n=o.data.length):=Hj ⟨hk.1,hk.2.1,hk.2.2,by rw[Ac],hnum.symm⟩
 have Xf:w1.cell? ⟨gs,2,none⟩=some (.int .i64 (M.rev:Int)):=(HS.out w1 (aj _ _)).1
 have hrev1:(w.alloc (.cells (ov v) 37)).cell? ⟨gs,2,none⟩=some (.int .i64 (M.rev:Int)):=by rw[←hw1];exact Xf
 obtain⟨bb,hbb⟩:∃b,b=jV (del,o):=⟨_,rfl⟩
 obtain⟨EL,Z4⟩:∃n,n=bb.length:=⟨_,rfl⟩
 have jg:Hid (bb=jV (del,o)):=Hj hbb
 have HELe:Hid (EL=bb.length):=Hj Z4
 have jD:Hid (bb.length≤16384):=Hj (by rw[hbb];exact Cz (qK hc.ok hc.most) (by omega))
 have qY:=Hj h
 have IU:=Hj hc
 have lH:=Hj hErr
 have HEW:=Hj hE
 have HTl:=Hj hl
 have PX:=Hj hl2
 have UF:=Hj hr
 have HB1:=Hj hb1
 have HW1:=Hj hw1
 have kT:=Hj hB
 obtain⟨tt,htt⟩:∃t,t=bY M.rev M.tab:=⟨_,rfl⟩
 have HTe:Hid (tt=bY M.rev M.tab):=Hj htt
 obtain⟨hwr,hwr2⟩:=MX hr hR
 clear h hErr hE hrb hk hc hr hl hl2 hw1 hB hb1 hr1 Ac hnum hdl hR hbb Z4 Xf htt
 go_enter Tryz.func60,Tryz.ntmps60
 go_wp2
 rw[←HW1.out,←kT.out]
 clear hrev1
 refine wp_region_noPanic ?_
 refine wp_region_held_drew (S:=(fun w'=>w'.cell? ⟨gs,2,none⟩=some (.int .i64 (M.rev:Int))∧w'.cell? ⟨B,0,none⟩=some (.int .i64 v.kind)∧w'.cell? ⟨B,1,none⟩=some (.string v.space)∧w'.cell? ⟨B,2,none⟩=some (.string v.name)∧w'.cell? ⟨B,3,none⟩=some (.int .i64 v.ver)∧w'.cell? ⟨B,4,none⟩=some (.slice v.A v.n v.c))) (by kernel_rfl) ?_ (fun hHeld=> ?_)
 ·exact HS.out w1.drew ⟨rfl,rfl,rfl,bZ _,fun _ _=>rfl⟩
 refine tk 0 hHeld ?_
 try simp only[pa]
 refine tk 1 hHeld ?_
 try simp only[pa]
 refine tk 2 hHeld ?_
 try simp only[pa]
 refine tk 3 hHeld ?_
 try simp only[pa]
 refine tk 4 hHeld ?_
 try simp only[pa]
 refine tk 5 hHeld ?_
 try simp only[pa]
 refine tk 6 hHeld ?_
 try simp only[pa]
 refine PO 7 9 rfl rfl (fun K hK=> ?_) (fun K hK=> ?_)
 focus
  go_simp
  refine(HCo.out w1.drew ⟨rfl,rfl,rfl,bZ _,fun _ _=>rfl⟩).mono ?_
  rintro e wk ⟨A9,c9,rfl,OU,hbk⟩
  have pV:Hid (Bw w1 wk):=Hj (Below.trans (aj w1.heap.size w1) (Below.mono ⟨hbk.os,hbk.tape,hbk.output,hbk.size,hbk.block⟩ ((aj w1.heap.size w1)).size))
  have KI:Hid (OB wk w1.heap.size (.slice A9 v.n c9) o.data):=Hj (OB.mono OU ((aj w1.heap.size w1)).size)
  have hwk:=HS.out _ pV.out
  clear hbk OU
  refine hK.out _ _ ?_ (fun hHeld=> ?_)
  ·exact hwk
  clear hK K
  try simp only[pa]
  refine tk 8 hHeld ?_
  try simp only[pa]
  refine mD 9 rfl (fun K hK=> ?_)
  go_simp
  obtain⟨wx,hwx⟩:∃W,W=(wk).alloc (.cells #[.int .i64 0,.bool false,.int .i64 0,.string ⟨#[]⟩,.string ⟨#[]⟩,.int .i64 0,.slice none 0 0] 99):=⟨_,rfl⟩
  obtain⟨BX,vY⟩:∃B,B=(wk).heap.size:=⟨_,rfl⟩
  have Fa:Hid (wx.heap[BX]?=some (.cells #[.int .i64 0,.bool false,.int .i64 0,.string ⟨#[]⟩,.string ⟨#[]⟩,.int .i64 0,.slice none 0 0] 99 (0,0))):=Hj (by rw[hwx,vY];exact aA (wk) _)
  have hbx:=(aj (wk).heap.size (wk)).alloc Kv (.cells #[.int .i64 0,.bool false,.int .i64 0,.string ⟨#[]⟩,.string ⟨#[]⟩,.int .i64 0,.slice none 0 0] 99)
  have HOx:Hid (OB wx w1.heap.size (.slice A9 v.n c9) o.data):=Hj (by rw[hwx];exact OB.below KI.out hbx)
  have Bl:Hid (Bw w1 wx):=Hj (by rw[hwx];exact pV.out.alloc pV.out.size _)
  have PY:Hid (w1.heap.size≤BX):=Hj (by rw[vY];exact(pV.out).size)
  have fx:∀k,wx.frozen? ⟨BX,k,none⟩=false:=fun k=>Kj Fa.out
  obtain⟨d0,d1,d2,d3,d4,d5,d6⟩:=uT Fa.out
  have Dl:=HS.out _ Bl.out
  rw[←hwx,←vY]
  clear hwx vY hbx
  refine hK.out _ _ ?_ (fun hHeld=> ?_)
  ·exact Dl
  clear hK K
  try simp only[pa]
  refine mD 10 rfl (fun K hK=> ?_)
  go_simp
  obtain⟨wf,hwf⟩:∃W,W=(((((((wx.setCell ⟨BX,0,none⟩ (.int .i64 (R:Int))).setCell ⟨BX,1,none⟩ (.bool del)).setCell ⟨BX,2,none⟩ (.int .i64 v.kind)).setCell ⟨BX,3,none⟩ (.string v.space)).setCell ⟨BX,4,none⟩ (.string v.name)).setCell ⟨BX,5,none⟩ (.int .i64 v.ver)).setCell ⟨BX,6,none⟩ (.slice A9 v.n c9)):=⟨_,rfl⟩
  have MP:Hid (wf.heap[BX]?=some (.cells #[.int .i64 (R:Int),.bool del,.int .i64 v.kind,.string v.space,.string v.name,.int .i64 v.ver,.slice A9 v.n c9] 99 (0,0))):=Hj (by rw[hwf];exact(st7 Fa.out))
  have EY:Hid (Bw w1 wf):=Hj (by rw[hwf];exact(bel7 Bl.out PY.out (.int .i64 (R:Int)) (.bool del) (.int .i64 v.kind) (.string v.space) (.string v.name) (.int .i64 v.ver) (.slice A9 v.n c9)))
  have HOF:Hid (OB wf w1.heap.size (.slice A9 v.n c9) o.data):=Hj (by
   have hF:=(fr7 BX wx (.int .i64 (R:Int)) (.bool del) (.int .i64 v.kind) (.string v.space) (.string v.name) (.int .i64 v.ver) (.slice A9 v.n c9))
   rw[←hwf] at hF
   exact OB.eY HOx.out fun k hk=>hF.block k (HOx.out.lt k hk).2 fun e=>(by
    obtain⟨cur,hcur⟩:=au HOx.out hk
    exact nC hcur e Fa.out (by decide)))
 rotate_right
 focus
  go_simp
  obtain⟨wx,hwx⟩:∃W,W=(w1.alloc (.cells #[.int .i64 0,.bool false,.int .i64 0,.string ⟨#[]⟩,.string ⟨#[]⟩,.int .i64 0,.slice none 0 0] 99)).drew:=⟨_,rfl⟩
  obtain⟨BX,vY⟩:∃B,B=w1.heap.size:=⟨_,rfl⟩
  have Fa:Hid (wx.heap[BX]?=some (.cells #[.int .i64 0,.bool false,.int .i64 0,.string ⟨#[]⟩,.string ⟨#[]⟩,.int .i64 0,.slice none 0 0] 99 (0,0))):=Hj (by rw[hwx,vY];exact aA w1 _)
  have Bl:Hid (Bw w1 wx):=Hj (by rw[hwx];exact⟨((aj w1.heap.size w1).alloc Kv (.cells #[.int .i64 0,.bool false,.int .i64 0,.string ⟨#[]⟩,.string ⟨#[]⟩,.int .i64 0,.slice none 0 0] 99)).os,((aj w1.heap.size w1).alloc Kv (.cells #[.int .i64 0,.bool false,.int .i64 0,.string ⟨#[]⟩,.string ⟨#[]⟩,.int .i64 0,.slice none 0 0] 99)).tape,((aj w1.heap.size w1).alloc Kv (.cells #[.int .i64 0,.bool false,.int .i64 0,.string ⟨#[]⟩,.string ⟨#[]⟩,.int .i64 0,.slice none 0 0] 99)).output,((aj w1.heap.size w1).alloc Kv (.cells #[.int .i64 0,.bool false,.int .i64 0,.string ⟨#[]⟩,.string ⟨#[]⟩,.int .i64 0,.slice none 0 0] 99)).size,((aj w1.heap.size w1).alloc Kv (.cells #[.int .i64 0,.bool false,.int .i64 0,.string ⟨#[]⟩,.string ⟨#[]⟩,.int .i64 0,.slice none 0 0] 99)).block⟩)
  have PY:Hid (w1.heap.size≤BX):=Hj (by rw[vY];exact bZ _)
  have Dl:=HS.out _ Bl.out
  rw[←hwx,←vY]
  clear hwx vY
  refine hK.out _ _ ?_ (fun hHeld=> ?_)
  ·exact Dl
  clear hK K
  try simp only[pa]
  refine mD 7 rfl (fun K hK=> ?_)
  go_simp
  refine(HCo.out wx Bl.out).mono ?_
  rintro e wk ⟨A9,c9,rfl,OU,hbk⟩
  have pV:Hid (Bw w1 wk):=Hj (Below.trans Bl.out (Below.mono ⟨hbk.os,hbk.tape,hbk.output,hbk.size,hbk.block⟩ (Bl.out).size))
  have KI:Hid (OB wk w1.heap.size (.slice A9 v.n c9) o.data):=Hj (OB.mono OU (Bl.out).size)
  have HRk:Hid (wk.heap[BX]?=some (.cells #[.int .i64 0,.bool false,.int .i64 0,.string ⟨#[]⟩,.string ⟨#[]⟩,.int .i64 0,.slice none 0 0] 99 (0,0))):=Hj ((hbk.block BX (Cq Fa.out)).trans Fa.out)
  have fx:∀k,wk.frozen? ⟨BX,k,none⟩=false:=fun k=>Kj HRk.out
  obtain⟨d0,d1,d2,d3,d4,d5,d6⟩:=uT HRk.out
  have hwk:=HS.out _ pV.out
  clear hbk OU
  refine hK.out _ _ ?_ (fun hHeld=> ?_)
  ·exact hwk
  clear hK K
  try simp only[pa]
  refine tk 8 hHeld ?_
  try simp only[pa]
  refine mD 10 rfl (fun K hK=> ?_)
  go_simp
  obtain⟨wf,hwf⟩:∃W,W=(((((((wk.setCell ⟨BX,0,none⟩ (.int .i64 (R:Int))).setCell ⟨BX,1,none⟩ (.bool del)).setCell ⟨BX,2,none⟩ (.int .i64 v.kind)).setCell ⟨BX,3,none⟩ (.string v.space)).setCell ⟨BX,4,none⟩ (.string v.name)).setCell ⟨BX,5,none⟩ (.int .i64 v.ver)).setCell ⟨BX,6,none⟩ (.slice A9 v.n c9)):=⟨_,rfl⟩
  have MP:Hid (wf.heap[BX]?=some (.cells #[.int .i64 (R:Int),.bool del,.int .i64 v.kind,.string v.space,.string v.name,.int .i64 v.ver,.slice A9 v.n c9] 99 (0,0))):=Hj (by rw[hwf];exact(st7 HRk.out))
  have EY:Hid (Bw w1 wf):=Hj (by rw[hwf];exact(bel7 pV.out PY.out (.int .i64 (R:Int)) (.bool del) (.int .i64 v.kind) (.string v.space) (.string v.name) (.int .i64 v.ver) (.slice A9 v.n c9)))
  have HOF:Hid (OB wf w1.heap.size (.slice A9 v.n c9) o.data):=Hj (by
   have hF:=(fr7 BX wk (.int .i64 (R:Int)) (.bool del) (.int .i64 v.kind) (.string v.space) (.string v.name) (.int .i64 v.ver) (.slice A9 v.n c9))
   rw[←hwf] at hF
   exact OB.eY KI.out fun k hk=>hF.block k (KI.out.lt k hk).2 fun e=>(by
    obtain⟨cur,hcur⟩:=au KI.out hk
    exact nC hcur e HRk.out (by decide)))
 all_goals
  have Yg:=Hj (HS.out _ EY.out)
  rw[←hwf]
  clear hwf d0 d1 d2 d3 d4 d5 d6 fx
  refine hK.out _ _ ?_ (fun hHeld=> ?_)
  ·exact Yg.out
  clear hK K
  try simp only[pa]
  refine wpAnyH_done (by kernel_rfl) ?_ _
  refine NoPanic.normal ?_
  obtain⟨hfwf0,hfwf1,hfwf2,hfwf3,hfwf4,hfwf5,hfwf6⟩:=uT MP.out;have hfzwf:∀k,wf.frozen? ⟨BX,k,none⟩=false:=(fun k=>Kj MP.out)
  rcases jm L m bb with ⟨-,a1,a2,a3⟩ | ⟨-,a1,-,-⟩
  focus
   rcases lT L m tt with ⟨-,b1,b2,b3⟩ | ⟨-,b1,-,-⟩
   rotate_left
   focus
    rcases jm (L.cp m tt) (L.zV m tt) bb with ⟨-,e1,e2,e3⟩ | ⟨-,e1,-,-⟩
  all_goals
   go_wp2_with (first
    | (go_at_call 99;(
     obtain⟨wg,hwg⟩:∃W,W=wf.setCell ⟨BX,5,none⟩ (.int .i64 (R:Int)):=⟨_,rfl⟩
     have hRg:wg.heap[BX]?=some (.cells #[.int .i64 (R:Int),.bool del,.int .i64 v.kind,.string v.space,.string v.name,.int .i64 (R:Int),.slice A9 v.n c9] 99 (0,0)):=(by rw[hwg];exact aI _ _ 5 _ _ (.int .i64 (R:Int)) MP.out)
     have hBg:Bw w1 wg:=(by rw[hwg];exact Below.setCell EY.out (p:=⟨BX,5,none⟩) PY.out _)
     have hOg:OB wg w1.heap.size (.slice A9 v.n c9) o.data:=(by rw[hwg];exact OB.other HOF.out MP.out (by decide))
     have hIg:dD wg ⟨v.kind,v.space,v.name,(R:Int),A9,v.n,c9⟩ o:=⟨HK.out.1,HK.out.2.1,HK.out.2.2.1,HK.out.2.2.2.1,HK.out.2.2.2.2,OB.mono hOg (bU _)⟩
     rw[←hwg]
     have hBy:=MZ ⟨v.kind,v.space,v.name,(R:Int),A9,v.n,c9⟩ o del hIg IU.out.ok IU.out.most
     rw[PW.out,←jg.out,←HELe.out] at hBy
     (with_reducible refine hBy.mono ?_)
     rintro e w5 ⟨A5,k5,rfl,sZ,hb5⟩
     have nH:Hid (Bw w w5):=Hj ((HB1.out.trans (hBg.mono HB1.out.size)).trans (hb5.mono (Cz HB1.out.size hBg.size)))
     have EP:Hid (OB w5 w.heap.size (.slice A5 EL k5) bb):=Hj (OB.mono sZ (Cz HB1.out.size hBg.size))
     have HV5:Hid (dD w5 ⟨v.kind,v.space,v.name,(R:Int),A9,v.n,c9⟩ o):=Hj (hIg.below hb5)
     have Xg:Hid (∀k,(sl ⟨v.kind,v.space,v.name,(R:Int),A9,v.n,c9⟩).ownBlock=some k→w.heap.size≤k):=Hj fun k hk=>Cz HB1.out.size (ah.lt hOg k hk).1
     have Nc:Hid (w5.heap[BX]?=some (.cells #[.int .i64 (R:Int),.bool del,.int .i64 v.kind,.string v.space,.string v.name,.int .i64 (R:Int),.slice A9 v.n c9] 99 (0,0))):=Hj ((hb5.block BX (Cq hRg)).trans hRg)
     have PZ:Hid (w.heap.size≤BX):=Hj (Cz HB1.out.size PY.out)
     have h5:=qY.out.below nH.out
     have H5:=Hj h5
     obtain⟨gl,hc0,hap⟩:=Bh A5 EL k5 bb h5 HEW.out jD.out (OB.mono sZ (bU _)) (fun q hq hQ=>absurd (qY.out.hi q hQ) (Nat.not_lt.2 (ah.lt EP.out q hq).1))
     first | rw[a1,a2,a3,dM ea (by decide:(26:Nat)≠0)] at hap | rw[a1,iF] at hap
     have HAp:=Hj hap
     clear hwg hRg hBg hOg hIg hBy sZ hb5 h5 hap))
    | (go_at_call 100;have hg2:=P6;clear hg2;(
     (with_reducible refine P6.out.mono ?_)
     rintro e w8 ⟨rfl,hs8,Nh⟩
     obtain⟨hs8,Nh⟩:=H5.out.then Yj.out ⟨hs8,Nh⟩
     have P7:=Hj hs8
     have Yk:=Hj Nh
     have Xh:Hid (∀k,w.heap.size≤k→k<w5.heap.size→w8.heap[k]?=w5.heap[k]?):=Hj fun k h1 h2=>Yk.out.block k h2 fun hq=>absurd (qY.out.hi k hq) (Nat.not_lt.2 h1)
     have UG:Hid (w8.heap[BX]?=some (.cells #[.int .i64 (R:Int),.bool del,.int .i64 v.kind,.string v.space,.string v.name,.int .i64 (R:Int),.slice A9 v.n c9] 99 (0,0))):=Hj ((Xh.out BX PZ.out (Cq Nc.out)).trans Nc.out)
     have herrw8:w8.cell? ⟨25,0,none⟩=some (.iface 368 (.pointer (some (ea 26)))):=(lH.out.below P7.out.bel).cell 26 (by decide) (by decide)
     have HErw8:Hid (Errs w8 ea):=Hj (lH.out.below P7.out.bel)
     obtain⟨hfw80,hfw81,hfw82,hfw83,hfw84,hfw85,hfw86⟩:=uT UG.out;have hfzw8:∀k,w8.frozen? ⟨BX,k,none⟩=false:=(fun k=>Kj UG.out)
     clear hs8 Nh))
    | (go_at_call 100;(
     (with_reducible refine HAp.out.mono ?_)
     rintro e w6 ⟨rfl,hs6,hf6⟩
     have UH:=Hj hs6
     have Yl:=Hj hf6
     have Xi:Hid (∀k,w.heap.size≤k→k<w5.heap.size→w6.heap[k]?=w5.heap[k]?):=Hj fun k h1 h2=>Yl.out.block k h2 fun hq=>absurd (qY.out.hi k hq) (Nat.not_lt.2 h1)
     have UJ:Hid (w6.heap[BX]?=some (.cells #[.int .i64 (R:Int),.bool del,.int .i64 v.kind,.string v.space,.string v.name,.int .i64 (R:Int),.slice A9 v.n c9] 99 (0,0))):=Hj ((Xi.out BX PZ.out (Cq Nc.out)).trans Nc.out)
     have herrw6:w6.cell? ⟨25,0,none⟩=some (.iface 368 (.pointer (some (ea 26)))):=(lH.out.below UH.out.bel).cell 26 (by decide) (by decide)
     have HErw6:Hid (Errs w6 ea):=Hj (lH.out.below UH.out.bel)
     obtain⟨hfw60,hfw61,hfw62,hfw63,hfw64,hfw65,hfw66⟩:=uT UJ.out;have hfzw6:∀k,w6.frozen? ⟨BX,k,none⟩=false:=(fun k=>Kj UJ.out)
     clear hs6 hf6))
    | (go_at_call 41;(
     first
      | (with_reducible refine(is_nil (ea 26) w6).mono ?_)
      | (have his:=HErw6.out.is 26 26 (by decide) (by decide) (by decide) (by decide);rw[aZ rfl] at his;(with_reducible refine his.mono ?_))
     rintro e w' ⟨rfl,rfl⟩))
    | (go_at_call 35;(
     have hcm:=yt UH.out HEW.out HTl.out
     rw[←HTe.out] at hcm
     first | rw[b1,b2,b3,dM ea (by decide:(26:Nat)≠0),aG (by decide)] at hcm | rw[b1,iF,aF rfl] at hcm
     (with_reducible refine hcm.mono ?_)
     rintro e w7 ⟨rfl,hs7,Xj⟩
     obtain⟨hs7,Xj⟩:=H5.out.then Yl.out ⟨hs7,Xj⟩
     have Ym:=Hj hs7
     have Yj:=Hj Xj
     have Xk:Hid (∀k,w.heap.size≤k→k<w5.heap.size→w7.heap[k]?=w5.heap[k]?):=Hj fun k h1 h2=>Yj.out.block k h2 fun hq=>absurd (qY.out.hi k hq) (Nat.not_lt.2 h1)
     have HRw7:Hid (w7.heap[BX]?=some (.cells #[.int .i64 (R:Int),.bool del,.int .i64 v.kind,.string v.space,.string v.name,.int .i64 (R:Int),.slice A9 v.n c9] 99 (0,0))):=Hj ((Xk.out BX PZ.out (Cq Nc.out)).trans Nc.out)
     have herrw7:w7.cell? ⟨25,0,none⟩=some (.iface 368 (.pointer (some (ea 26)))):=(lH.out.below Ym.out.bel).cell 26 (by decide) (by decide)
     have HErw7:Hid (Errs w7 ea):=Hj (lH.out.below Ym.out.bel)
     try (obtain⟨gl7,hc7,UK⟩:=Bh A5 EL k5 bb hs7 HEW.out jD.out (OB.eY (OB.mono EP.out (bU _)) fun k hk=>Xk.out k (ah.lt EP.out k hk).1 (ah.lt EP.out k hk).2) (fun q hq hQ=>hQ.elim (fun hQ=>absurd (qY.out.hi q hQ) (Nat.not_lt.2 (ah.lt EP.out q hq).1)) fun hQ=>absurd (ah.lt EP.out q hq).2 (Nat.not_lt.2 hQ.1));(first | rw[e1,e2,e3,dM ea (by decide:(26:Nat)≠0)] at UK | rw[e1,iF] at UK);have P6:=Hj UK;clear UK)
     clear hs7 Xj hcm))
    | (go_at_call 67;have HS8:=P7;clear HS8;(
     have Yn:dD w8 ⟨v.kind,v.space,v.name,(R:Int),A9,v.n,c9⟩ o:=HV5.out.eY fun k hk=>Xh.out k (Xg.out k hk) (HV5.out.data.lt k hk).2
     have hXw8:∀k,(sl ⟨v.kind,v.space,v.name,(R:Int),A9,v.n,c9⟩).ownBlock=some k→¬ext Q w5 w8 k∧w0.heap.size≤k:=(fun k hk=>⟨fun hq=>hq.elim (fun hq=>absurd (qY.out.hi k hq) (Nat.not_lt.2 (Xg.out k hk))) fun hq=>absurd (HV5.out.data.lt k hk).2 (Nat.not_lt.2 hq.1),Cz qY.out.bel.size (Xg.out k hk)⟩)
     have IV:=Bg ⟨v.kind,v.space,v.name,(R:Int),A9,v.n,c9⟩ o del P7.out Yn hXw8 (qL IU.out) (show M.tab.length≤_ from Cz HTl.out (by decide)) (by show ([]:List (Bool×aC)).length≤_;decide)
     rw[PW.out] at IV
     (with_reducible refine IV.mono ?_)
     rintro e w9 ⟨rfl,hs9,xw⟩
     have HY9:Hid (∀k,(sl ⟨v.kind,v.space,v.name,(R:Int),A9,v.n,c9⟩).ownBlock=some k→w.heap.size≤k∧k<w9.heap.size):=Hj fun k hk=>⟨Xg.out k hk,dP (Yn.data.lt k hk).2 xw.size⟩
     have HFin:=Hj (qY.out.fin nH.out Yk.out hs9 xw HY9.out)
     have Yo:Hid (w9.heap[BX]?=some (.cells #[.int .i64 (R:Int),.bool del,.int .i64 v.kind,.string v.space,.string v.name,.int .i64 (R:Int),.slice A9 v.n c9] 99 (0,0))):=Hj ((xw.block BX (Cq UG.out) fun hq=>hq.elim (fun hq=>absurd (qY.out.hi BX hq) (Nat.not_lt.2 PZ.out)) fun hq=>absurd (Cq Nc.out) (Nat.not_lt.2 hq.1)).trans UG.out)
     have Yp:=Kq 0 Yo.out
     simp at Yp
     clear hs9 xw IV Yn hXw8))
    | (go_at_call 67;(
     have Yq:dD w6 ⟨v.kind,v.space,v.name,(R:Int),A9,v.n,c9⟩ o:=HV5.out.eY fun k hk=>Xi.out k (Xg.out k hk) (HV5.out.data.lt k hk).2
     have hXw6:∀k,(sl ⟨v.kind,v.space,v.name,(R:Int),A9,v.n,c9⟩).ownBlock=some k→¬ext Q w5 w6 k∧w0.heap.size≤k:=(fun k hk=>⟨fun hq=>hq.elim (fun hq=>absurd (qY.out.hi k hq) (Nat.not_lt.2 (Xg.out k hk))) fun hq=>absurd (HV5.out.data.lt k hk).2 (Nat.not_lt.2 hq.1),Cz qY.out.bel.size (Xg.out k hk)⟩)
     have IV:=Bg ⟨v.kind,v.space,v.name,(R:Int),A9,v.n,c9⟩ o del UH.out Yq hXw6 IU.out (Cz HTl.out (by decide)) PX.out
     rw[PW.out] at IV
     (with_reducible refine IV.mono ?_)
     rintro e w9 ⟨rfl,hs9,xw⟩
     have HY9:Hid (∀k,(sl ⟨v.kind,v.space,v.name,(R:Int),A9,v.n,c9⟩).ownBlock=some k→w.heap.size≤k∧k<w9.heap.size):=Hj fun k hk=>⟨Xg.out k hk,dP (Yq.data.lt k hk).2 xw.size⟩
     have HFin:=Hj (qY.out.fin nH.out Yl.out hs9 xw HY9.out)
     have Yo:Hid (w9.heap[BX]?=some (.cells #[.int .i64 (R:Int),.bool del,.int .i64 v.kind,.string v.space,.string v.name,.int .i64 (R:Int),.slice A9 v.n c9] 99 (0,0))):=Hj ((xw.block BX (Cq UJ.out) fun hq=>hq.elim (fun hq=>absurd (qY.out.hi BX hq) (Nat.not_lt.2 PZ.out)) fun hq=>absurd (Cq Nc.out) (Nat.not_lt.2 hq.1)).trans UJ.out)
     have Yp:=Kq 0 Yo.out
     simp at Yp
     clear hs9 xw IV Yq hXw6))
    | fail)
   go_ret2
   first
    | (refine⟨R,0,M.app (del,o),L.app m bb,L.uS m bb,rfl,.inr ⟨UF.out,.inl ?_⟩,HFin.out.1,HFin.out.2⟩;rw[←jg.out];exact⟨a1,PW.out.symm,rfl,rfl,rfl,rfl⟩)
    | (refine⟨R,0,M.fresh.app (del,o),(L.cp m tt).app (L.zV m tt) bb,(L.cp m tt).uS (L.zV m tt) bb,rfl,.inr ⟨UF.out,.inr ?_⟩,HFin.out.1,HFin.out.2⟩;rw[←jg.out,←HTe.out];exact⟨a1,.inr ⟨b1,_,_,rfl,rfl,.inl ⟨e1,PW.out.symm,rfl,rfl,rfl,rfl⟩⟩⟩)
    | (obtain⟨r1,r2⟩:=qY.out.behind nH.out ⟨P7.out,Yk.out⟩;refine⟨0,26,M.fresh,L.cp m tt,L.zV m tt,rfl,.inr ⟨UF.out,.inr ?_⟩,r1,r2⟩;rw[←jg.out,←HTe.out];exact⟨a1,.inr ⟨b1,_,_,rfl,rfl,.inr ⟨e1,rfl,rfl,rfl,rfl,rfl⟩⟩⟩)
    | (obtain⟨r1,r2⟩:=qY.out.behind nH.out ⟨Ym.out,Yj.out⟩;refine⟨0,26,M,L,m,rfl,.inr ⟨UF.out,.inr ?_⟩,r1,r2⟩;rw[←jg.out,←HTe.out];exact⟨a1,.inl ⟨b1,rfl,rfl,rfl,rfl,rfl⟩⟩)
end
end Go.Proofs.YtdhbpajamlfacaaGreatDoor
