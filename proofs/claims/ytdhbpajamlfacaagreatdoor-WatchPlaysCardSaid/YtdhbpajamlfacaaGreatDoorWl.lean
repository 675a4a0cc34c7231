/- Layer 21 (watch): Get. -/
import Derived.Test.YtdhbpajamlfacaaGreatDoorZo
import Derived.Test.YtdhbpajamlfacaaGreatDoorRX
set_option maxHeartbeats 40000000
set_option maxRecDepth 100000
namespace Go.Proofs.YtdhbpajamlfacaaGreatDoor
open Go.RowKit SO
/-- The found object's own block, whenever it was made. -/
structure GQ (w1 wz:World) (q:Nat) (v:OV):Prop where
 row:wz.heap[q]?=some (.cells (ov v) 37 (0,0))
 bel:Bw w1 wz
/-- A fresh block for it, on its way. -/
structure GX (w1 wx:World) (q:Nat):Prop where
 row:wx.heap[q]?=some (.cells #[.int .i64 0,.string ⟨#[]⟩,.string ⟨#[]⟩,.int .i64 0,.slice none 0 0] 37 (0,0))
 bel:Bw w1 wx
 new:w1.heap.size≤q
theorem GX.make {w1 W:World} (h:Bw w1 W):GX w1 (W.alloc (.cells #[.int .i64 0,.string ⟨#[]⟩,.string ⟨#[]⟩,.int .i64 0,.slice none 0 0] 37)) W.heap.size:=⟨aA W _,h.alloc h.size _,h.size⟩
theorem GX.below {w1 W W2:World} {q:Nat} (h:GX w1 W q) (hb:Bw W W2):GX w1 W2 q:=⟨(hb.block q (Cq h.row)).trans h.row,h.bel.trans (hb.mono h.bel.size),h.new⟩
theorem GX.fill {w1 W:World} {q:Nat} (h:GX w1 W q) (v:OV):GQ w1 (((((W.setCell ⟨q,0,none⟩ (.int .i64 v.kind)).setCell ⟨q,1,none⟩ (.string v.space)).setCell ⟨q,2,none⟩ (.string v.name)).setCell ⟨q,3,none⟩ (.int .i64 v.ver)).setCell ⟨q,4,none⟩ (.slice v.A v.n v.c)) q v:=
 ⟨OY h.row,((((h.bel.setCell (p:=⟨q,0,none⟩) h.new _).setCell (p:=⟨q,1,none⟩) h.new _).setCell (p:=⟨q,2,none⟩) h.new _).setCell (p:=⟨q,3,none⟩) h.new _).setCell (p:=⟨q,4,none⟩) h.new _⟩
section
variable {w w0:World} {gw gt cur:Nat} {kind:Int} {space:ByteArray} {all:Bool} {K:List (ByteArray×aC)} {P:Nat→Prop}
/-- What Get answers. -/
def ZN (w:World) (K:List (ByteArray×aC)) (sp nm:ByteArray) (e:Ending) (w':World):Prop:=Bw w w'∧∃(v:OV) (b:Bool),e=.returned (.tuple #[.agg (ov v),.bool b])∧((b=false∧∀x∈K,¬(x.2.space=sp∧x.2.name=nm))∨(b=true∧∃x∈K,x.2.space=sp∧x.2.name=nm∧dD w' v x.2))
theorem getW0 (hw:iY w gw gt kind space all cur) (hK:KT w P gt K) (hk:∀x∈K,x.1=wkey x.2.space x.2.name) (ho:∀x∈K,x.2.data.length≤1000000) (sp nm:ByteArray) (hs:sp.size≤1000) (hn:nm.size≤1000):
  Cl 21 #[pt gw,.string sp,.string nm] w (ZN w K sp nm):=by
 obtain⟨w1,hw1⟩:∃W,W=w.alloc (.cells #[.int .i64 0,.string ⟨#[]⟩,.string ⟨#[]⟩,.int .i64 0,.slice none 0 0] 37):=⟨_,rfl⟩
 have hb1:Bw w w1:=by rw[hw1];exact(aj _ w).alloc Kv _
 have hr1:w1.heap[w.heap.size]?=some (.cells #[.int .i64 0,.string ⟨#[]⟩,.string ⟨#[]⟩,.int .i64 0,.slice none 0 0] 37 (0,0)):=by rw[hw1];exact aA w _
 have HC:Hid (∀W,Bw w1 W→W.cell? ⟨gw,3,none⟩=some (pt gt)):=Hj fun W hW=>Kq 3 (((hb1.trans (hW.mono hb1.size)).block gw (Cq hw)).trans hw)
 have uN:=Hj fun W=>Wv sp nm W hs hn
 obtain⟨sh,xs,h1,h2,h3,h4⟩:=hK
 obtain⟨r1,r2⟩:=KT.xs h2 h4
 have hmem:∀x∈xs,x.1=wkey x.2.2.space x.2.2.name:=fun x hx=>hk (x.1,x.2.2) (by rw[h2];exact bW.2 ⟨x,hx,rfl⟩)
 have hcase:(∃v,(∀W,Bw w1 W→Cl 45 #[pt gt,(.string (wkey sp nm))] W fun e w'=>e=.returned (.tuple #[(.agg (ov v)),.bool true])∧Bw W w')∧(∃x∈xs,x.2.1=v∧x.1=wkey sp nm∧dD w v x.2.2)∧∀y∈xs,y.2.2.space=sp∧y.2.2.name=nm→v.space=sp)∨((∀W,Bw w1 W→Cl 45 #[pt gt,(.string (wkey sp nm))] W fun e w'=>e=.returned (.tuple #[(.agg #[.int .i64 0,.string ⟨#[]⟩,.string ⟨#[]⟩,.int .i64 0,.slice none 0 0]),.bool false])∧Bw W w')∧∀x∈xs,¬(x.2.2.space=sp∧x.2.2.name=nm)):=by
  cases hl:look aS (wkey sp nm) (xs.map fun x=>(x.1,x.2.1)) with
  | some v=>
   have hm:=nX dh hl
   obtain⟨x,hx,e⟩:=bW.1 hm
   injection e with e1 e2
   refine .inl ⟨v,fun W hW=>kF gt _ v sh _ W (h1.below (hb1.trans (hW.mono hb1.size))) r2 hl,⟨x,hx,e2,e1,by rw[←e2];exact(h3 x hx).1⟩,fun y hy hc=> ?_⟩
   obtain⟨i,hi⟩:=jT.1 hy
   have e:=hmem y hy
   rw[hc.1,hc.2] at e
   have hl2:=fF dh r2 (i:=i) (e:=(y.1,y.2.1)) (by rw[dK,hi];rfl)
   simp only at hl2
   rw[e,hl] at hl2
   injection hl2 with hl2
   rw[hl2,(h3 y hy).1.space]
   exact hc.1
  | none=>
   refine .inr ⟨fun W hW=>yJ gt _ sh _ W (h1.below (hb1.trans (hW.mono hb1.size))) r2 hl,fun x hx hc=> ?_⟩
   obtain⟨i,hi⟩:=jT.1 hx
   have e:=hmem x hx
   rw[hc.1,hc.2] at e
   have hl2:=fF dh r2 (i:=i) (e:=(x.1,x.2.1)) (by rw[dK,hi];rfl)
   simp only at hl2
   rw[e,hl] at hl2
   cases hl2
 have LY:Hid (K=xs.map fun x=>(x.1,x.2.2)):=Hj h2
 have YZ:=Hj hmem
 have Xy:Hid (∀x∈xs,x.2.2.data.length≤1000000):=Hj fun x hx=>ho (x.1,x.2.2) (by rw[h2];exact bW.2 ⟨x,hx,rfl⟩)
 have HW:=Hj hw1
 have HB1:=Hj hb1
 have HR1:=Hj hr1
 have c3:w1.drew.cell? ⟨gw,3,none⟩=some (pt gt):=HC.out w1 (aj _ _)
 clear hw hk ho hw1 hb1 hr1 h1 h2 h3 h4 r1 r2 hmem hs hn
 have Ls:=Hj hcase
 clear hcase
 have hrun:∃(v:OV) (b:Bool),(∀W,Bw w1 W→Cl 45 #[pt gt,(.string (wkey sp nm))] W fun e w'=>e=.returned (.tuple #[(.agg (ov v)),.bool b])∧Bw W w')∧((b=false∧∀x∈K,¬(x.2.space=sp∧x.2.name=nm))∨(b=true∧((v.space.toList==sp.toList)=false∧(v.space.toList !=sp.toList)=true)∧∀x∈K,¬(x.2.space=sp∧x.2.name=nm))∨(b=true∧((v.space.toList==sp.toList)=true∧(v.space.toList !=sp.toList)=false)∧∃x∈K,x.2.space=sp∧x.2.name=nm∧dD w v x.2∧v.n≤1000000)):=by
  rw[LY.out]
  rcases Ls.out with ⟨v,hG,⟨x,hx,hxv,hxk,AY⟩,hu⟩ | ⟨hG,hno⟩
  ·refine ⟨v,true,hG,?_⟩
   by_cases he:v.space=sp
   ·refine .inr (.inr ⟨rfl,⟨by rw[he];simp,by rw[he];simp⟩,(x.1,x.2.2),bW.2 ⟨x,hx,rfl⟩,by rw[←AY.space];exact he,?_,AY,by rw[AY.num];exact Xy.out x hx⟩)
    have e:=YZ.out x hx
    rw[hxk,←AY.space,he] at e
    have e:=bJ ByteArray.toList e
    unfold wkey at e
    rw[aO,aO] at e
    have e:=List.append_cancel_left e
    injection e with _ e
    exact(kG (Array.toList_inj.1 e)).symm
   ·refine .inr (.inl ⟨rfl,⟨gQ.2 fun h=>he (lY h),bne_iff_ne.2 fun h=>he (lY h)⟩,fun y hy hc=> ?_⟩)
    obtain⟨z,hz,rfl⟩:=bW.1 hy
    exact he (hu z hz hc)
  ·refine ⟨⟨0,⟨#[]⟩,⟨#[]⟩,0,none,0,0⟩,false,hG,.inl ⟨rfl,fun y hy hc=> ?_⟩⟩
   obtain⟨z,hz,rfl⟩:=bW.1 hy
   exact hno z hz hc
 obtain⟨v,b,hG,hc⟩:=hrun
 have HG:=Hj hG
 clear hG Ls
 have HCs:=Hj hc
 clear hc
 go_enter Tryz.func21,Tryz.ntmps21
 go_wp2
 rw[←HW.out]
 refine(fun(H:∀(q:Nat) (wz:World),Hid (GQ w1 wz q v)→(?G:Nat→World→Prop) q wz)=> ?b) ?h
 case b=>
  refine wp_region_noPanic ?_
  refine wp_region_held_drew (S:=(fun w'=>w'.cell? ⟨gw,3,none⟩=some (pt gt))) (by kernel_rfl) ?_ (fun hHeld=> ?_)
  ·exact c3
  refine tk 0 hHeld ?_
  try simp only[pa]
  refine tk 1 hHeld ?_
  try simp only[pa]
  refine tk 2 hHeld ?_
  try simp only[pa]
  refine tk 3 hHeld ?_
  try simp only[pa]
  refine tk 4 hHeld ?_
  try simp only[pa]
  refine tk 5 hHeld ?_
  try simp only[pa]
  refine PO 6 11 rfl rfl (fun K hK=> ?_) (fun K hK=> ?_)
  focus
   go_simp
   refine(uN.out w1.drew).mono ?_
   rintro e wk ⟨rfl,hwk⟩
   have pV:Hid (Bw w1 wk):=Hj (by rw[hwk];exact aJ (aj _ _))
   clear hwk
   refine hK.out _ _ ?_ (fun hHeld=> ?_)
   ·exact HC.out _ pV.out
   clear hK K
   try simp only[pa]
   refine PO 7 11 rfl rfl (fun K hK=> ?_) (fun K hK=> ?_)
   focus
    go_simp
    refine(HG.out wk pV.out).mono ?_
    rintro e wg ⟨rfl,hbg⟩
    have FQ:Hid (Bw w1 wg):=Hj (pV.out.trans (hbg.mono pV.out.size))
    clear hbg
    refine hK.out _ _ ?_ (fun hHeld=> ?_)
    ·exact HC.out _ FQ.out
    clear hK K
    try simp only[pa]
    refine tk 8 hHeld ?_
    try simp only[pa]
    refine tk 9 hHeld ?_
    try simp only[pa]
    refine tk 10 hHeld ?_
    try simp only[pa]
    refine mD 11 rfl (fun K hK=> ?_)
    go_simp
    obtain⟨wx,hwx⟩:∃W,W=wg.alloc (.cells #[.int .i64 0,.string ⟨#[]⟩,.string ⟨#[]⟩,.int .i64 0,.slice none 0 0] 37):=⟨_,rfl⟩
    obtain⟨q,hq⟩:∃B,B=wg.heap.size:=⟨_,rfl⟩
    have HX:Hid (GX w1 wx q):=Hj (by rw[hwx,hq];exact GX.make FQ.out)
    try simp only[World.size_drew] at hq
    try rw[←hwx,←hq]
    clear hwx hq
    refine hK.out _ _ ?_ (fun hHeld=> ?_)
    ·exact HC.out _ HX.out.bel
    clear hK K
    try simp only[pa]
    refine mD 12 rfl (fun K hK=> ?_)
    have fx:∀k,wx.frozen? ⟨q,k,none⟩=false:=fun k=>Kj HX.out.row
    obtain⟨d0,d1,d2,d3,d4⟩:=VB.aK (v:=⟨0,⟨#[]⟩,⟨#[]⟩,0,none,0,0⟩) HX.out.row
    go_simp
    obtain⟨wf,hwf⟩:∃W,W=((((wx.setCell ⟨q,0,none⟩ (.int .i64 v.kind)).setCell ⟨q,1,none⟩ (.string v.space)).setCell ⟨q,2,none⟩ (.string v.name)).setCell ⟨q,3,none⟩ (.int .i64 v.ver)).setCell ⟨q,4,none⟩ (.slice v.A v.n v.c):=⟨_,rfl⟩
    have HQ:Hid (GQ w1 wf q v):=Hj (by rw[hwf];exact HX.out.fill v)
    rw[←hwf]
    clear hwf d0 d1 d2 d3 d4 fx
    refine hK.out _ _ ?_ (fun hHeld=> ?_)
    ·exact HC.out _ HQ.out.bel
    clear hK K
    try simp only[pa]
    refine tk 13 hHeld ?_
    try simp only[pa]
    refine wpAnyH_done (by kernel_rfl) ?_ _
    refine NoPanic.normal ?_
    exact H q wf HQ
   focus
    go_simp
    obtain⟨wx,hwx⟩:∃W,W=wk.alloc (.cells #[.int .i64 0,.string ⟨#[]⟩,.string ⟨#[]⟩,.int .i64 0,.slice none 0 0] 37):=⟨_,rfl⟩
    obtain⟨q,hq⟩:∃B,B=wk.heap.size:=⟨_,rfl⟩
    have HX:Hid (GX w1 wx q):=Hj (by rw[hwx,hq];exact GX.make pV.out)
    try simp only[World.size_drew] at hq
    try rw[←hwx,←hq]
    clear hwx hq
    refine hK.out _ _ ?_ (fun hHeld=> ?_)
    ·exact HC.out _ HX.out.bel
    clear hK K
    try simp only[pa]
    refine mD 7 rfl (fun K hK=> ?_)
    go_simp
    refine(HG.out wx HX.out.bel).mono ?_
    rintro e wg ⟨rfl,hbg⟩
    replace HX:=Hj (HX.out.below hbg)
    clear hbg
    refine hK.out _ _ ?_ (fun hHeld=> ?_)
    ·exact HC.out _ HX.out.bel
    clear hK K
    try simp only[pa]
    refine tk 8 hHeld ?_
    try simp only[pa]
    refine tk 9 hHeld ?_
    try simp only[pa]
    refine tk 10 hHeld ?_
    try simp only[pa]
    refine mD 12 rfl (fun K hK=> ?_)
    have fx:∀k,wg.frozen? ⟨q,k,none⟩=false:=fun k=>Kj HX.out.row
    obtain⟨d0,d1,d2,d3,d4⟩:=VB.aK (v:=⟨0,⟨#[]⟩,⟨#[]⟩,0,none,0,0⟩) HX.out.row
    go_simp
    obtain⟨wf,hwf⟩:∃W,W=((((wg.setCell ⟨q,0,none⟩ (.int .i64 v.kind)).setCell ⟨q,1,none⟩ (.string v.space)).setCell ⟨q,2,none⟩ (.string v.name)).setCell ⟨q,3,none⟩ (.int .i64 v.ver)).setCell ⟨q,4,none⟩ (.slice v.A v.n v.c):=⟨_,rfl⟩
    have HQ:Hid (GQ w1 wf q v):=Hj (by rw[hwf];exact HX.out.fill v)
    rw[←hwf]
    clear hwf d0 d1 d2 d3 d4 fx
    refine hK.out _ _ ?_ (fun hHeld=> ?_)
    ·exact HC.out _ HQ.out.bel
    clear hK K
    try simp only[pa]
    refine tk 13 hHeld ?_
    try simp only[pa]
    refine wpAnyH_done (by kernel_rfl) ?_ _
    refine NoPanic.normal ?_
    exact H q wf HQ
  focus
   go_simp
   obtain⟨wx,hwx⟩:∃W,W=(w1.alloc (.cells #[.int .i64 0,.string ⟨#[]⟩,.string ⟨#[]⟩,.int .i64 0,.slice none 0 0] 37)).drew:=⟨_,rfl⟩
   obtain⟨q,hq⟩:∃B,B=w1.heap.size:=⟨_,rfl⟩
   have HX:Hid (GX w1 wx q):=Hj (by rw[hwx,hq];exact(GX.make (aj _ w1)).below (aJ (aj _ _)))
   rw[←hwx,←hq]
   clear hwx hq
   refine hK.out _ _ ?_ (fun hHeld=> ?_)
   ·exact HC.out _ HX.out.bel
   clear hK K
   try simp only[pa]
   refine mD 6 rfl (fun K hK=> ?_)
   go_simp
   refine(uN.out wx).mono ?_
   rintro e wk ⟨rfl,rfl⟩
   refine hK.out _ _ ?_ (fun hHeld=> ?_)
   ·exact HC.out _ HX.out.bel
   clear hK K
   try simp only[pa]
   refine mD 7 rfl (fun K hK=> ?_)
   go_simp
   refine(HG.out wk HX.out.bel).mono ?_
   rintro e wg ⟨rfl,hbg⟩
   replace HX:=Hj (HX.out.below hbg)
   clear hbg
   refine hK.out _ _ ?_ (fun hHeld=> ?_)
   ·exact HC.out _ HX.out.bel
   clear hK K
   try simp only[pa]
   refine tk 8 hHeld ?_
   try simp only[pa]
   refine tk 9 hHeld ?_
   try simp only[pa]
   refine tk 10 hHeld ?_
   try simp only[pa]
   refine mD 12 rfl (fun K hK=> ?_)
   have fx:∀k,wg.frozen? ⟨q,k,none⟩=false:=fun k=>Kj HX.out.row
   obtain⟨d0,d1,d2,d3,d4⟩:=VB.aK (v:=⟨0,⟨#[]⟩,⟨#[]⟩,0,none,0,0⟩) HX.out.row
   go_simp
   obtain⟨wf,hwf⟩:∃W,W=((((wg.setCell ⟨q,0,none⟩ (.int .i64 v.kind)).setCell ⟨q,1,none⟩ (.string v.space)).setCell ⟨q,2,none⟩ (.string v.name)).setCell ⟨q,3,none⟩ (.int .i64 v.ver)).setCell ⟨q,4,none⟩ (.slice v.A v.n v.c):=⟨_,rfl⟩
   have HQ:Hid (GQ w1 wf q v):=Hj (by rw[hwf];exact HX.out.fill v)
   rw[←hwf]
   clear hwf d0 d1 d2 d3 d4 fx
   refine hK.out _ _ ?_ (fun hHeld=> ?_)
   ·exact HC.out _ HQ.out.bel
   clear hK K
   try simp only[pa]
   refine tk 13 hHeld ?_
   try simp only[pa]
   refine wpAnyH_done (by kernel_rfl) ?_ _
   refine NoPanic.normal ?_
   exact H q wf HQ
 intro q wz HQ
 obtain⟨x0,x1,x2,x3,x4⟩:VB wz q v:=VB.aK HQ.out.row
 have hz:wz.heap[w.heap.size]?=some (.cells #[.int .i64 0,.string ⟨#[]⟩,.string ⟨#[]⟩,.int .i64 0,.slice none 0 0] 37 (0,0)):=(HQ.out.bel.block w.heap.size (Cq HR1.out)).trans HR1.out
 have HZ:=Hj hz
 have z0:=Kq 0 hz
 have z1:=Kq 1 hz
 have z2:=Kq 2 hz
 have z3:=Kq 3 hz
 have z4:=Kq 4 hz
 have zf:=fun j=>kH _ _ j _ _ hz
 clear hz
 have hc:=HCs.out
 rcases hc with ⟨rfl,hno⟩ | ⟨rfl,⟨hn1,hn2⟩,hno⟩ | ⟨rfl,⟨hn1,hn2⟩,x,hx,hx1,hx2,AY,hvn⟩
 focus
  have HNo:=Hj hno
  clear hno
 rotate_left
 focus
  have HNo:=Hj hno
  clear hno
 rotate_left
 focus
  have ZO:=Hj (aB hx (aB hx1 (aB hx2 (aB AY hvn))))
  clear hx hx1 hx2 AY hvn
 all_goals
  go_wp2_with (first
   | (go_at_call 48;((refine(xY v wz _ ((ZO.out.2.2.2.1.below (HB1.out.trans (HQ.out.bel.mono HB1.out.size))).rb) ZO.out.2.2.2.2).mono ?_);rintro e w5 ⟨A5,c5,rfl,sZ,hb5⟩;have O5:=Hj sZ;have B5:=Hj hb5;have X5:=(hb5.block w.heap.size (Cq HZ.out)).trans HZ.out;have UC:=Hj X5;have z0:=Kq 0 X5;have z1:=Kq 1 X5;have z2:=Kq 2 X5;have z3:=Kq 3 X5;have z4:=Kq 4 X5;have zf:=(fun j=>kH _ _ j _ _ X5);clear sZ hb5 X5))
   | fail)
  have hbz:=HB1.out.trans (HQ.out.bel.mono HB1.out.size)
  first
  | (refine bg (dn _ rfl rfl (OY HZ.out) Tryz.underlying37 iR) rfl ?_
     unfold ZN
     exact⟨((((hbz.setCell (p:=⟨w.heap.size,0,none⟩) Kv _).setCell (p:=⟨w.heap.size,1,none⟩) Kv _).setCell (p:=⟨w.heap.size,2,none⟩) Kv _).setCell (p:=⟨w.heap.size,3,none⟩) Kv _).setCell (p:=⟨w.heap.size,4,none⟩) Kv _,⟨0,⟨#[]⟩,⟨#[]⟩,0,none,0,0⟩,false,rfl,.inl ⟨rfl,HNo.out⟩⟩)
  | (have hb5:=hbz.trans (B5.out.mono hbz.size)
     have hF:Fr (fun k=>k=w.heap.size) w5 (((((w5.setCell ⟨w.heap.size,0,none⟩ (.int .i64 v.kind)).setCell ⟨w.heap.size,1,none⟩ (.string v.space)).setCell ⟨w.heap.size,2,none⟩ (.string v.name)).setCell ⟨w.heap.size,3,none⟩ (.int .i64 v.ver)).setCell ⟨w.heap.size,4,none⟩ (.slice A5 v.n c5)):=(((((Fr.refl (fun k=>k=w.heap.size) w5).setCell (p:=⟨w.heap.size,0,none⟩) (fun _=>rfl) _).setCell (p:=⟨w.heap.size,1,none⟩) (fun _=>rfl) _).setCell (p:=⟨w.heap.size,2,none⟩) (fun _=>rfl) _).setCell (p:=⟨w.heap.size,3,none⟩) (fun _=>rfl) _).setCell (p:=⟨w.heap.size,4,none⟩) (fun _=>rfl) _
     obtain⟨y1,y2,y3,y4,-⟩:=ZO.out
     refine bg (dn _ rfl rfl (OY UC.out) Tryz.underlying37 iR) rfl ?_
     unfold ZN
     refine⟨hb5.trans (hF.below hb5.size fun k _ hk=>Nat.le_of_eq hk.symm),⟨v.kind,v.space,v.name,v.ver,A5,v.n,c5⟩,true,rfl,.inr ⟨rfl,x,y1,y2,y3,⟨y4.kind,y4.space,y4.name,y4.ver,y4.num,ah.kept (ah.mono O5.out fun _ _=>bU _) hF fun k hk e=> ?_⟩⟩⟩
     have h1:=(ah.lt O5.out k hk).1
     have h2:=(Cq HZ.out)
     omega)
theorem getW (hw:iY w gw gt kind space all cur) (hK:KT w P gt K) (hk:∀x∈K,x.1=wkey x.2.space x.2.name) (ho:∀x∈K,x.2.data.length≤1000000) (sp nm:ByteArray) (hs:sp.size≤1000) (hn:nm.size≤1000):
  Cl 21 #[pt gw,.string sp,.string nm] w fun e w'=>Bw w w'∧∃(v:OV) (b:Bool),e=.returned (.tuple #[.agg (ov v),.bool b])∧((b=false∧∀x∈K,¬(x.2.space=sp∧x.2.name=nm))∨(b=true∧∃x∈K,x.2.space=sp∧x.2.name=nm∧dD w' v x.2)):=getW0 hw hK hk ho sp nm hs hn
end
structure jo where
 kind:Int
 o:OV
 bs:List UInt8
instance:Inhabited jo:=⟨⟨0,⟨0,⟨#[]⟩,⟨#[]⟩,0,none,0,0⟩,[]⟩⟩
/-- Six cells are an act. -/
def AC (w:World) (b off:Nat) (a:jo):Prop:=
 w.cell? ⟨b,off,none⟩=some (.int .i64 a.kind)∧w.cell? ⟨b,off+1,none⟩=some (.int .i64 a.o.kind)∧w.cell? ⟨b,off+1+1,none⟩=some (.string a.o.space)∧w.cell? ⟨b,off+1+2,none⟩=some (.string a.o.name)∧w.cell? ⟨b,off+1+3,none⟩=some (.int .i64 a.o.ver)∧w.cell? ⟨b,off+1+4,none⟩=some (.slice a.o.A a.o.n a.o.c)
theorem AC.keep {w w':World} {b off:Nat} {a:jo} (h:AC w b off a) (k:Keeps w w'):AC w' b off a:=
 ⟨k _ _ h.1,k _ _ h.2.1,k _ _ h.2.2.1,k _ _ h.2.2.2.1,k _ _ h.2.2.2.2.1,k _ _ h.2.2.2.2.2⟩
/-- What stands of an act. -/
structure zI (w:World) (a:jo):Prop where
 rb:RB w a.o.A a.o.n a.bs
 nc:a.o.n≤a.o.c
 cm:a.o.c≤maxLen
 kind:a.o.kind≤9223372036854775807
theorem zI.keep {w w':World} {a:jo} (h:zI w a) (k:Keeps w w'):zI w' a:=⟨h.rb.keep k,h.nc,h.cm,h.kind⟩
/-- The slice header (A, n) reads as the acts l. -/
def lM (w:World) (A:Option Addr) (n:Nat) (l:List jo):Prop:=
 l.length=n∧(∀a∈l,zI w a)∧(0<n→∃b o,A=some ⟨b,o,none⟩∧∀k,k<n→AC w b (o+k*6) (l.getD k default))
theorem lM.keep {w w':World} {A:Option Addr} {n:Nat} {l:List jo} (h:lM w A n l) (k:Keeps w w'):lM w' A n l:=
 ⟨h.1,fun a ha=>(h.2.1 a ha).keep k,fun h0=>let ⟨b,o,e,hc⟩:=h.2.2 h0;⟨b,o,e,fun i hi=>(hc i hi).keep k⟩⟩
def kX (a:jo):Bool:=decide (300<a.o.n)||(decide (100<a.o.name.size)||decide (100<a.o.space.size))
def ng (l:List jo):Bool:=decide (40<l.length)||l.any kX
theorem zJ (A:Option Addr) (n c:Nat) (l:List jo) (w:World) (hl:lM w A n l) (hn:n≤maxLen):
  Cl 7 #[.slice A n c] w fun e w'=>e=.returned (.bool (ng l))∧Bw w w':=by
 unfold maxLen at hn
 have Hl:=Hj hl
 have Hll:=Hj hl.1
 clear hl
 by_cases h1:40<n
 ·have d1:decide (40<(n:Int))=true:=aZ (by omega)
  have HR:Hid (ng l=true):=Hj (by unfold ng;rw[Hll.out,aZ h1];rfl)
  rw[HR.out]
  go_enter Tryz.func7,Tryz.ntmps7
  go_wp2
  go_ret
  exact⟨rfl,aj _ _⟩
 have d1:decide (40<(n:Int))=false:=aQ (by omega)
 have HR:Hid (ng l=l.any kX):=Hj (by unfold ng;rw[Hll.out,aQ h1];rfl)
 have TN:n≤40:=by omega
 have HN:=Hj TN
 rw[HR.out]
 clear h1 hn TN
 by_cases hz:n=0
 ·subst hz
  have HE:Hid (l.any kX=false):=Hj (by rw[mP Hll.out];rfl)
  go_enter Tryz.func7,Tryz.ntmps7
  go_wp2
  go_loopg [10] 1 (fun gk s10 wr=>s10=.int .i64 0∧wr=w)
  case atStart=>exact⟨rfl,rfl⟩
  case round=>
   obtain⟨rfl,hw⟩:=hrel
   subst hw
   go_wp2
   go_ret
   exact⟨bC HE.out.symm,aj _ _⟩
 obtain⟨b,o,rfl,hb⟩:=Hl.out.2.2 (Nat.pos_of_ne_zero hz)
 have HBc:=Hj hb
 clear hb hz
 go_enter Tryz.func7,Tryz.ntmps7
 go_wp2
 go_loopg [10] n (fun gk s10 wr=>∃k:Nat,s10=.int .i64 (k:Int)∧k+gk=n∧(l.take k).any kX=false∧Bw w wr)
 case atStart=>exact⟨0,rfl,by omega,by simp,aj _ _⟩
 case round=>
  obtain⟨k,rfl,hk,hall,hbel⟩:=hrel
  have HK:=Hj hk
  have HA:=Hj hall
  have HB:=Hj hbel
  by_cases hlt:k<n
  ·obtain ⟨c0,c1,c2,c3,c4,c5⟩:=(HBc.out k hlt).keep (Kz hbel)
   have HS:=Hj (mO (l:=l) (i:=k) (by rw[Hll.out];exact hlt))
   have HM:=Hj (List.getElem_mem (l:=l) (n:=k) (by rw[Hll.out];exact hlt))
   rw[nG,fJ (by rw[Hll.out];exact hlt)] at c0 c1 c2 c3 c4 c5
   simp only[Option.getD_some] at c0 c1 c2 c3 c4 c5
   generalize l[k]'(by rw[Hll.out];exact hlt)=x at*
   have k0:(0:Int)≤(k:Int):=by omega
   have k1:(k:Int)<(n:Int):=by omega
   have k2:(k:Int)≤40:=by have:=HN.out;omega
   have HB1:=Hj (HB.out.alloc HB.out.size (.cells #[.int .i64 x.kind,.int .i64 x.o.kind,.string x.o.space,.string x.o.name,.int .i64 x.o.ver,.slice x.o.A x.o.n x.o.c] 39))
   have yN:=Hj hlt
   cases hq:kX x with
   | true=>
    have HT:Hid (l.any kX=true):=Hj (List.any_eq_true.2 ⟨x,HM.out,hq⟩)
    clear hk hall hbel hlt
    unfold kX at hq
    by_cases q1:300<x.o.n
    ·have q1i:(300:Int)<(x.o.n:Int):=by omega
     clear hq
     go_wp2
     go_ret
     exact⟨bC HT.out.symm,HB1.out⟩
    ·rw [aQ q1,Bool.false_or] at hq
     have q1i:¬(300:Int)<(x.o.n:Int):=by omega
     by_cases q2:100<x.o.name.size
     ·have q2i:(100:Int)<(x.o.name.size:Int):=by omega
      clear hq
      go_wp2
      go_ret
      exact⟨bC HT.out.symm,HB1.out⟩
     ·rw [aQ q2,Bool.false_or] at hq
      have q2i:¬(100:Int)<(x.o.name.size:Int):=by omega
      have q3:=rG hq
      have q3i:(100:Int)<(x.o.space.size:Int):=by omega
      clear hq
      go_wp2
      go_ret
      exact⟨bC HT.out.symm,HB1.out⟩
   | false=>
    have Hq:=Hj hq
    unfold kX at hq
    rw[Bool.or_eq_false_iff,Bool.or_eq_false_iff] at hq
    have q1:=vX hq.1
    have q2:=vX hq.2.1
    have q3:=vX hq.2.2
    have q1i:¬(300:Int)<(x.o.n:Int):=by omega
    have q2i:¬(100:Int)<(x.o.name.size:Int):=by omega
    have q3i:¬(100:Int)<(x.o.space.size:Int):=by omega
    clear hk hall hbel hlt hq
    go_wp2
    go_roundg (gk-1)
    case measure=>have:=HK.out;have:=yN.out;omega
    case rel=>exact⟨k+1,by go_num,by have:=HK.out;have:=yN.out;omega,by rw[HS.out,List.any_append,HA.out];simpa using Hq.out,HB1.out⟩
  ·obtain hkn:k=n:=by omega
   have HE:Hid (l.any kX=false):=Hj (by have:=HA.out;rwa [fO (by rw[Hll.out];omega)] at this)
   have q5:¬(k:Int)<(n:Int):=by omega
   clear hk hall hbel hlt hkn
   go_wp2
   go_ret
   exact⟨bC HE.out.symm,HB.out⟩
open Go.ChangeShapes Go.WideShapes Go.ChangeAt Go.Deep
theorem list6 {α:Type} {l:List α} (h:l.length=6):∃a b c d e f,l=[a,b,c,d,e,f]:=by
 match l,h with
 | [a,b,c,d,e,f],_=>exact⟨_,_,_,_,_,_,rfl⟩
theorem Ey:fieldsOf Tryz.prog 39=some [(3,0),(37,1)]:=by kernel_rfl
theorem EC:fieldsOf Tryz.prog 37=some [(3,0),(9,1),(9,2),(3,3),(35,4)]:=by kernel_rfl
theorem wV:Tryz.prog.cellsOf 39=6:=by kernel_rfl
theorem wW:Tryz.prog.cellsOf 37=5:=by kernel_rfl
theorem qI:Tryz.prog.cellsOf 3=1:=by kernel_rfl
theorem wX:Tryz.prog.cellsOf 9=1:=by kernel_rfl
section
variable {H:Type} {enc:TypeId×Value→H} {W:World} {held:Bool}
theorem JY {fuel:Nat} {cs:List Value} {x:DataW H×List MemPlace} (h:DataW.trod enc Tryz.prog W 0 (fun _=>true) held fuel 37 cs=some x):
  ∃(v:OV) (bs:List UInt8),cs=[.int .i64 v.kind,.string v.space,.string v.name,.int .i64 v.ver,.slice v.A v.n v.c]∧RB W v.A v.n bs∧v.n≤v.c∧v.c≤maxLen∧v.kind≤9223372036854775807:=by
 obtain⟨hl,n,hf⟩:=o7 EC h
 rw[wW] at hl
 obtain⟨c0,c1,c2,c3,c4,rfl⟩:=list5 hl
 obtain⟨y0,t0⟩:=hf 0 _ _ rfl
 obtain⟨y1,t1⟩:=hf 1 _ _ rfl
 obtain⟨y2,t2⟩:=hf 2 _ _ rfl
 obtain⟨y3,t3⟩:=hf 3 _ _ rfl
 obtain⟨y4,t4⟩:=hf 4 _ _ rfl
 rw[qI] at t0 t3
 rw[wX] at t1 t2
 rw[FT] at t4
 obtain⟨k0,e0,_,hw⟩:=DataW.trod_int Tryz.underlying3 t0
 obtain⟨k1,e1,_,_⟩:=DataW.trod_string Tryz.underlying9 t1
 obtain⟨k2,e2,_,_⟩:=DataW.trod_string Tryz.underlying9 t2
 obtain⟨k3,e3,_,_⟩:=DataW.trod_int Tryz.underlying3 t3
 obtain⟨l,A,c,e4,h1,h2,h3⟩:=U6 (show DataW.trod enc Tryz.prog W 0 (fun _=>true) held n 35 [c4]=some y4 from t4)
 injection (show [c0]=_ from e0) with e0 _
 injection (show [c1]=_ from e1) with e1 _
 injection (show [c2]=_ from e2) with e2 _
 injection (show [c3]=_ from e3) with e3 _
 simp[Lit.wf,IntKind.min,IntKind.max,IntKind.signed,IntKind.bits] at hw
 refine⟨⟨k0,k1,k2,k3,A,l.length,c⟩,l,?_,h3,h1,h2,by dsimp only;omega⟩
 rw[e0,e1,e2,e3,e4]
/-- An act's six cells, read. -/
theorem OE {fuel:Nat} {cs:List Value} {x:DataW H×List MemPlace} (h:DataW.trod enc Tryz.prog W 0 (fun _=>true) held fuel 39 cs=some x):
  ∃a:jo,cs=[.int .i64 a.kind,.int .i64 a.o.kind,.string a.o.space,.string a.o.name,.int .i64 a.o.ver,.slice a.o.A a.o.n a.o.c]∧zI W a:=by
 obtain⟨hl,n,hf⟩:=o7 Ey h
 rw[wV] at hl
 obtain⟨c0,c1,c2,c3,c4,c5,rfl⟩:=list6 hl
 obtain⟨y0,t0⟩:=hf 0 _ _ rfl
 obtain⟨y1,t1⟩:=hf 1 _ _ rfl
 rw[qI] at t0
 rw[wW] at t1
 obtain⟨k0,e0,_,_⟩:=DataW.trod_int Tryz.underlying3 t0
 obtain⟨v,bs,e4,h1,h2,h3,h4⟩:=JY (show DataW.trod enc Tryz.prog W 0 (fun _=>true) held n 37 [c1,c2,c3,c4,c5]=some y1 from t1)
 injection (show [c0]=_ from e0) with e0 _
 refine⟨⟨k0,v,bs⟩,?_,⟨h1,h2,h3,h4⟩⟩
 rw[e0]
 exact bJ (fun l=>[Value.int .i64 k0]++l) e4
theorem Ii {fuel:Nat} {v:Value} {x:DataW H×List MemPlace} (h:DataW.trod enc Tryz.prog W 0 (fun _=>true) held fuel 22 [v]=some x):
  ∃(A:Option Addr) (n c:Nat) (l:List jo),v=.slice A n c∧lM W A n l∧n≤c∧c≤maxLen:=by
 rcases open_slice Tryz.underlying22 h with ⟨e0,_⟩ | ⟨a,len,cap,m,n,D,Pl,e0,hb,hl,hm,hmm,_,hx⟩
 ·injection e0 with e0 _
  exact⟨none,0,0,[],e0,⟨rfl,by simp,fun h=>absurd h (by omega)⟩,bZ _,by unfold maxLen;omega⟩
 injection e0 with e0 _
 subst e0
 have each:∀i,i<len→∃x:jo,zI W x∧∀j,j<6→W.cell? (a.add (i*6+j))=some ([Value.int .i64 x.kind,.int .i64 x.o.kind,.string x.o.space,.string x.o.name,.int .i64 x.o.ver,.slice x.o.A x.o.n x.o.c].getD j undef):=by
  intro i hi
  obtain⟨cs,h2,h3⟩:=hx i (by rw[hmm];split<;>omega)
  rw[wV] at h2
  obtain⟨_,hlen,hcell⟩:=World.cells?_some h2
  obtain⟨x,e,hok⟩:=OE h3
  refine⟨x,hok,fun j hj=> ?_⟩
  have:=hcell j hj
  rw[add_add] at this
  rw[this,←e,nG,fJ (by omega)]
  rfl
 obtain⟨f,hf⟩:=choose_lt each
 refine⟨some a,len,cap,(List.range len).map f,rfl,⟨by simp,fun y hy=> ?_,fun h0=> ?_⟩,hl,hm⟩
 ·obtain ⟨k,hk,rfl⟩:=bW.1 hy
  exact(hf k (List.mem_range.1 hk)).1
 ·obtain ⟨b,o,rfl⟩:=BO (by have:=(hf 0 h0).2 0 (by decide);simpa using this)
  refine⟨b,o,rfl,fun k hk=> ?_⟩
  have e:((List.range len).map f).getD k default=f k:=by simp[hk]
  rw[e]
  have g:∀j,j<6→W.cell? ⟨b,o+k*6+j,none⟩=some ([Value.int .i64 (f k).kind,.int .i64 (f k).o.kind,.string (f k).o.space,.string (f k).o.name,.int .i64 (f k).o.ver,.slice (f k).o.A (f k).o.n (f k).o.c].getD j undef):=fun j hj=>by
   have:=(hf k hk).2 j hj
   rw[addr_add,←Nat.add_assoc] at this
   exact this
  exact⟨g 0 (by decide),g 1 (by decide),g 2 (by decide),g 3 (by decide),g 4 (by decide),g 5 (by decide)⟩
end
end Go.Proofs.YtdhbpajamlfacaaGreatDoor
