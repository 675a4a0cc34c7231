/- Layer 20 (store): Open, on a disk whose log tells of a store. -/
import Derived.Test.YtdhbpajamlfacaaGreatDoorDerR
import Derived.Test.YtdhbpajamlfacaaGreatDoorStP
import Derived.Test.YtdhbpajamlfacaaGreatDoorNam
import Derived.Test.YtdhbpajamlfacaaGreatDoorDiskOps
import Derived.Test.YtdhbpajamlfacaaGreatDoorApl
import Derived.Test.YtdhbpajamlfacaaGreatDoorWalK
import Derived.Deep.LoopGhost
import Derived.Test.YtdhbpajamlfacaaGreatDoorStS
import Derived.Test.YtdhbpajamlfacaaGreatDoorChg
set_option maxHeartbeats 4000000
set_option maxRecDepth 100000
namespace Go.Proofs.YtdhbpajamlfacaaGreatDoor
open Go.RowKit SO
section
variable {w w0 w1 w2:World} {Q S:Nat→Prop} {g gs gl gt:Nat} {m:DM} {L:LM} {M:bQ} {ea:Nat→Addr}
/-- A new store. -/
theorem SW.born (h:DW w0 w S g m gl L) (hb:Bw w w1) (ht:TabAt w1 gt .skip []) (hg:w.heap.size≤gt)
  (e2:w2=w1.alloc (.cells #[pt gl,pt gt,.int .i64 0,.int .i64 0,.slice none 0 0] 104)):
  SW w0 w2 (ext S w w2) g m w1.heap.size L st0:=by
 have hb2:=(aj w1.heap.size w1).alloc Kv (.cells #[pt gl,pt gt,.int .i64 0,.int .i64 0,.slice none 0 0] 104)
 have hr2:=aA w1 (.cells #[pt gl,pt gt,.int .i64 0,.int .i64 0,.slice none 0 0] 104)
 rw[←e2] at hb2 hr2
 have hB:=hb.trans (hb2.mono hb.size)
 have hd:=DW.narrow ⟨h.q.below hB,h.fit⟩
 refine⟨⟨_,fun k=>k=w1.heap.size∨k=gt,gl,gt,.skip,.slice none 0 0,[],[],hd,⟨hr2,ht.below hb2,rfl,fun x hx=>(by cases hx),ah.nil _ _ _ _,rfl,fun x hx=>(by cases hx),bQ.Bo (wu.nil 0) (by decide),.inl rfl,.inr rfl,fun k hk=>(by cases hk),fun x hx=>(by cases hx),fun x hx=>(by cases hx)⟩,fun k hk=>.inl hk.1,fun k hk=> ?_,fun k hk hs=> ?_,fun k hk=>hk.2⟩,fun k hk=> ?_,fun k hk=> ?_⟩
 ·rcases hk with rfl | rfl
  ·exact .inr ⟨hb.size,(Cq hr2)⟩
  ·exact .inr ⟨hg,dP ht.lt hb2.size⟩
 ·have:=h.q.hi k hs.1
  rcases hk with rfl | rfl
  ·exact absurd hb.size (by omega)
  ·omega
 ·exact hk.elim (h.q.up k) fun hk=>Cz h.q.bel.size hk.1
 ·exact hk.elim (fun hk=>dP (h.q.hi k hk) hB.size) fun hk=>hk.2
end
section
variable {w w0:World} {Q:Nat→Prop} {g gs:Nat} {m:DM} {L:LM} {M:bQ}
/-- The object of a kind, a namespace and a name. -/
def getM (M:bQ) (kind:Int) (space name:ByteArray):Option aC:=match look aS (jr kind space name) M.tab with
 | some o=>if (o.kind:Int)=kind∧o.space=space then some o else none
 | none=>none
theorem Dq (kind:Int) (space name:ByteArray) (h:SW w0 w Q g m gs L M) (hk:kind≤9223372036854775807) (hs:space.size≤1000) (hn:name.size≤1000):
  Cl 56 #[pt gs,.int .i64 kind,.string space,.string name] w fun e w'=>∃v,e=.returned (.tuple #[.agg (ov v),.bool (getM M kind space name).isSome])∧(∀o,getM M kind space name=some o→dD w' v o∧∀k,(sl v).ownBlock=some k→w.heap.size≤k)∧Bw w w':=by
 obtain⟨Z,gl,gt,sh,ev,xs,ys,hV,-,-⟩:=h.use
 obtain⟨w1,hw1⟩:∃W,W=w.alloc (.cells #[.int .i64 0,.string ⟨#[]⟩,.string ⟨#[]⟩,.int .i64 0,.slice none 0 0] 37):=⟨_,rfl⟩
 obtain⟨B,hB⟩:∃B,B=w.heap.size:=⟨_,rfl⟩
 have hb1:=(aj w.heap.size w).alloc Kv (.cells #[.int .i64 0,.string ⟨#[]⟩,.string ⟨#[]⟩,.int .i64 0,.slice none 0 0] 37)
 have hr1:=aA w (.cells #[.int .i64 0,.string ⟨#[]⟩,.string ⟨#[]⟩,.int .i64 0,.slice none 0 0] 37)
 rw[←hw1] at hb1 hr1
 rw[←hB] at hr1
 have hV1:=hV.below hb1
 have Uo:Hid (∀W,Bw w1 W→W.cell? ⟨gs,1,none⟩=some (pt gt)):=Hj fun W hW=>(hV1.below hW).cell.2.1
 have c1:w1.drew.cell? ⟨gs,1,none⟩=some (pt gt):=(Uo.out w1 (aj _ w1):w1.cell? _=_)
 have uN:Hid (∀W,Cl 98 #[.agg #[.int .i64 kind,.string space,.string name,.int .i64 0,.slice none 0 0]] W fun e w'=>e=.returned (.string (jr kind space name))∧Bw W w'):=Hj fun W=>Ky ⟨kind,space,name,0,none,0,0⟩ W hk hs hn
 have hris:=hV.tH
 obtain⟨G,hG⟩:∃G,G=getM M kind space name:=⟨_,rfl⟩
 obtain⟨v,ok,pJ,Ls⟩:∃(v:OV) (ok:Bool),Hid (∀W,Bw w1 W→Cl 45 #[pt gt,(.string (jr kind space name))] W fun e w'=>e=.returned (.tuple #[(.agg (ov v)),.bool ok])∧Bw W w')∧Hid ((ok=false∧G=none)∨(ok=true∧(v.kind !=kind)=true∧G=none)∨(ok=true∧(v.kind !=kind)=false∧(v.space.toList==space.toList)=false∧(v.space.toList !=space.toList)=true∧G=none)∨∃o',ok=true∧(v.kind !=kind)=false∧(v.space.toList==space.toList)=true∧(v.space.toList !=space.toList)=false∧G=some o'∧dD w v o'∧v.n≤1000000):=by
  unfold getM at hG
  have hV0:=hV
  cases hlk:look aS (jr kind space name) M.tab with
  | none=>
   have hlx:look aS (jr kind space name) (xs.map fun x=>(x.1,x.2.1))=none:=by
    rw[jy (fun y:OV×aC=>y.1)]
    have:=hlk
    rw[hV.nD,jy (fun y:OV×aC=>y.2)] at this
    rw[Option.map_eq_none_iff] at this ⊢
    exact this
   exact⟨⟨0,⟨#[]⟩,⟨#[]⟩,0,none,0,0⟩,false,Hj fun W hW=>yJ gt _ sh _ W (hV1.below hW).tab hris hlx,Hj (.inl ⟨rfl,by rw[hG,hlk]⟩)⟩
  | some o=>
   have hlx:look aS (jr kind space name) (xs.map fun x=>(x.1,x.2.2))=some o:=by rw[←hV.nD];exact hlk
   rw[jy (fun y:OV×aC=>y.2)] at hlx
   obtain⟨⟨v,o'⟩,hxe,rfl⟩:=Option.map_eq_some_iff.1 hlx
   have hlv:look aS (jr kind space name) (xs.map fun x=>(x.1,x.2.1))=some v:=by rw[jy (fun y:OV×aC=>y.1),hxe];rfl
   obtain⟨k',hmem⟩:=look_in hxe
   have hIs:=hV.each _ hmem
   simp only at hIs
   refine⟨v,true,Hj fun W hW=>kF gt _ v sh _ W (hV1.below hW).tab hris hlv,Hj (.inr ?_)⟩
   rw[hlk] at hG
   simp only at hG
   by_cases heq:(o'.kind:Int)=kind
   ·have q1:(v.kind !=kind)=false:=by rw[hIs.kind];simpa using heq
    by_cases hes:o'.space=space
    ·rw [aF ⟨heq,hes⟩] at hG
     refine .inr (.inr ⟨o',rfl,q1,by rw[hIs.space,hes];simp,by rw[hIs.space,hes];simp,hG,hIs,?_⟩)
     rw[hIs.num]
     have hm2:(k',o')∈M.tab:=(by rw[hV.nD];exact bW.2 ⟨_,hmem,rfl⟩)
     have:=(hV.ok.tab.each _ hm2).2.1.data
     simp only at this;omega
    ·rw [aG fun x=>hes x.2] at hG
     have q2:(v.space.toList==space.toList)=false:=by
      rw[hIs.space]
      refine gQ.2 fun e=>hes ?_
      rw[qh,qh] at e
      exact kG (Array.toList_inj.1 e)
     exact .inr (.inl ⟨rfl,q1,q2,by simpa using q2,hG⟩)
   ·rw [aG fun x=>heq x.1] at hG
    exact .inl ⟨rfl,by rw[hIs.kind];simpa using heq,hG⟩
 rw[←hG]
 clear hG
 have HB1:=Hj hb1
 have dZ:=Hj hr1
 have HW1:=Hj hw1
 have kT:=Hj hB
 clear hb1 hr1 hw1 hB hV hV1 h hris hk hs hn
 go_enter Tryz.func56,Tryz.ntmps56
 go_wp2
 rw[←HW1.out,←kT.out]
 refine wp_region_noPanic ?_
 refine wp_region_held_drew (S:=(fun w'=>w'.cell? ⟨gs,1,none⟩=some (pt gt))) (by kernel_rfl) ?_ (fun hHeld=> ?_)
 ·exact c1
 refine tk 0 hHeld ?_
 try simp only[pa]
 refine tk 1 hHeld ?_
 try simp only[pa]
 refine tk 2 hHeld ?_
 try simp only[pa]
 refine tk 3 hHeld ?_
 try simp only[pa]
 refine tk 4 hHeld ?_
 try simp only[pa]
 refine tk 5 hHeld ?_
 try simp only[pa]
 refine tk 6 hHeld ?_
 try simp only[pa]
 refine tk 7 hHeld ?_
 try simp only[pa]
 refine PO 8 13 rfl rfl (fun K hK=> ?_) (fun K hK=> ?_)
 focus
  go_simp
  refine(uN.out w1.drew).mono ?_
  rintro e wk ⟨rfl,hbk⟩
  have pV:Hid (Bw w1 wk):=Hj (Below.trans (aj w1.heap.size w1) (Below.mono ⟨hbk.os,hbk.tape,hbk.output,hbk.size,hbk.block⟩ ((aj w1.heap.size w1)).size))
  have hwk:wk.cell? ⟨gs,1,none⟩=some (pt gt):=Uo.out _ pV.out
  clear hbk
  refine hK.out _ _ ?_ (fun hHeld=> ?_)
  ·exact hwk
  clear hK K
  try simp only[pa]
  refine PO 9 13 rfl rfl (fun K hK=> ?_) (fun K hK=> ?_)
  focus
   go_simp
   refine(pJ.out wk pV.out).mono ?_
   rintro e wg ⟨rfl,hbg⟩
   have FQ:Hid (Bw w1 wg):=Hj (Below.trans pV.out (Below.mono ⟨hbg.os,hbg.tape,hbg.output,hbg.size,hbg.block⟩ (pV.out).size))
   have hwg:wg.cell? ⟨gs,1,none⟩=some (pt gt):=Uo.out _ FQ.out
   clear hbg
   refine hK.out _ _ ?_ (fun hHeld=> ?_)
   ·exact hwg
   clear hK K
   try simp only[pa]
   refine tk 10 hHeld ?_
   try simp only[pa]
   refine tk 11 hHeld ?_
   try simp only[pa]
   refine tk 12 hHeld ?_
   try simp only[pa]
   refine mD 13 rfl (fun K hK=> ?_)
   go_simp
   obtain⟨wx,hwx⟩:∃W,W=(wg).alloc (.cells #[.int .i64 0,.string ⟨#[]⟩,.string ⟨#[]⟩,.int .i64 0,.slice none 0 0] 37):=⟨_,rfl⟩
   obtain⟨BX,vY⟩:∃B,B=(wg).heap.size:=⟨_,rfl⟩
   have Fa:Hid (wx.heap[BX]?=some (.cells #[.int .i64 0,.string ⟨#[]⟩,.string ⟨#[]⟩,.int .i64 0,.slice none 0 0] 37 (0,0))):=Hj (by rw[hwx,vY];exact aA (wg) _)
   have Bl:Hid (Bw w1 wx):=Hj (by rw[hwx];exact(show Bw w1 (wg) from ⟨(FQ.out).os,(FQ.out).tape,(FQ.out).output,(FQ.out).size,(FQ.out).block⟩).alloc (FQ.out).size _)
   have PY:Hid (w1.heap.size≤BX):=Hj (by rw[vY];exact(FQ.out).size)
   have fx:∀k,wx.frozen? ⟨BX,k,none⟩=false:=fun k=>Kj Fa.out
   obtain⟨d0,d1,d2,d3,d4⟩:=VB.aK (v:=⟨0,⟨#[]⟩,⟨#[]⟩,0,none,0,0⟩) Fa.out
   have Dl:wx.cell? ⟨gs,1,none⟩=some (pt gt):=Uo.out _ Bl.out
   try simp only[World.size_drew] at vY
   try rw[←hwx,←vY]
   clear hwx vY
   refine hK.out _ _ ?_ (fun hHeld=> ?_)
   ·exact Dl
   clear hK K
   try simp only[pa]
   refine mD 14 rfl (fun K hK=> ?_)
   go_simp
   obtain⟨wf,hwf⟩:∃W,W=(((((wx.setCell ⟨BX,0,none⟩ (.int .i64 v.kind)).setCell ⟨BX,1,none⟩ (.string v.space)).setCell ⟨BX,2,none⟩ (.string v.name)).setCell ⟨BX,3,none⟩ (.int .i64 v.ver)).setCell ⟨BX,4,none⟩ (.slice v.A v.n v.c)):=⟨_,rfl⟩
   have MP:Hid (wf.heap[BX]?=some (.cells (ov v) 37 (0,0))):=Hj (by rw[hwf];exact(OY Fa.out))
   have EY:Hid (Bw w1 wf):=Hj (by rw[hwf];exact(MQ Bl.out PY.out (.int .i64 v.kind) (.string v.space) (.string v.name) (.int .i64 v.ver) (.slice v.A v.n v.c)))
  rotate_right
  focus
   go_simp
   obtain⟨wx,hwx⟩:∃W,W=(wk).alloc (.cells #[.int .i64 0,.string ⟨#[]⟩,.string ⟨#[]⟩,.int .i64 0,.slice none 0 0] 37):=⟨_,rfl⟩
   obtain⟨BX,vY⟩:∃B,B=(wk).heap.size:=⟨_,rfl⟩
   have Fa:Hid (wx.heap[BX]?=some (.cells #[.int .i64 0,.string ⟨#[]⟩,.string ⟨#[]⟩,.int .i64 0,.slice none 0 0] 37 (0,0))):=Hj (by rw[hwx,vY];exact aA (wk) _)
   have Bl:Hid (Bw w1 wx):=Hj (by rw[hwx];exact(show Bw w1 (wk) from ⟨(pV.out).os,(pV.out).tape,(pV.out).output,(pV.out).size,(pV.out).block⟩).alloc (pV.out).size _)
   have PY:Hid (w1.heap.size≤BX):=Hj (by rw[vY];exact(pV.out).size)
   have Dl:wx.cell? ⟨gs,1,none⟩=some (pt gt):=Uo.out _ Bl.out
   try simp only[World.size_drew] at vY
   try rw[←hwx,←vY]
   clear hwx vY
   refine hK.out _ _ ?_ (fun hHeld=> ?_)
   ·exact Dl
   clear hK K
   try simp only[pa]
   refine mD 9 rfl (fun K hK=> ?_)
   go_simp
   refine(pJ.out wx Bl.out).mono ?_
   rintro e wg ⟨rfl,hbg⟩
   have FQ:Hid (Bw w1 wg):=Hj (Below.trans Bl.out (Below.mono ⟨hbg.os,hbg.tape,hbg.output,hbg.size,hbg.block⟩ (Bl.out).size))
   have YK:Hid (wg.heap[BX]?=some (.cells #[.int .i64 0,.string ⟨#[]⟩,.string ⟨#[]⟩,.int .i64 0,.slice none 0 0] 37 (0,0))):=Hj ((hbg.block BX (Cq Fa.out)).trans Fa.out)
   have fx:∀k,wg.frozen? ⟨BX,k,none⟩=false:=fun k=>Kj YK.out
   obtain⟨d0,d1,d2,d3,d4⟩:=VB.aK (v:=⟨0,⟨#[]⟩,⟨#[]⟩,0,none,0,0⟩) YK.out
   have hwg:wg.cell? ⟨gs,1,none⟩=some (pt gt):=Uo.out _ FQ.out
   clear hbg
   refine hK.out _ _ ?_ (fun hHeld=> ?_)
   ·exact hwg
   clear hK K
   try simp only[pa]
   refine tk 10 hHeld ?_
   try simp only[pa]
   refine tk 11 hHeld ?_
   try simp only[pa]
   refine tk 12 hHeld ?_
   try simp only[pa]
   refine mD 14 rfl (fun K hK=> ?_)
   go_simp
   obtain⟨wf,hwf⟩:∃W,W=(((((wg.setCell ⟨BX,0,none⟩ (.int .i64 v.kind)).setCell ⟨BX,1,none⟩ (.string v.space)).setCell ⟨BX,2,none⟩ (.string v.name)).setCell ⟨BX,3,none⟩ (.int .i64 v.ver)).setCell ⟨BX,4,none⟩ (.slice v.A v.n v.c)):=⟨_,rfl⟩
   have MP:Hid (wf.heap[BX]?=some (.cells (ov v) 37 (0,0))):=Hj (by rw[hwf];exact(OY YK.out))
   have EY:Hid (Bw w1 wf):=Hj (by rw[hwf];exact(MQ FQ.out PY.out (.int .i64 v.kind) (.string v.space) (.string v.name) (.int .i64 v.ver) (.slice v.A v.n v.c)))
 rotate_right
 focus
  go_simp
  obtain⟨wx,hwx⟩:∃W,W=(w1.alloc (.cells #[.int .i64 0,.string ⟨#[]⟩,.string ⟨#[]⟩,.int .i64 0,.slice none 0 0] 37)).drew:=⟨_,rfl⟩
  obtain⟨BX,vY⟩:∃B,B=w1.heap.size:=⟨_,rfl⟩
  have Fa:Hid (wx.heap[BX]?=some (.cells #[.int .i64 0,.string ⟨#[]⟩,.string ⟨#[]⟩,.int .i64 0,.slice none 0 0] 37 (0,0))):=Hj (by rw[hwx,vY];exact aA w1 _)
  have Bl:Hid (Bw w1 wx):=Hj (by rw[hwx];exact⟨((aj w1.heap.size w1).alloc Kv (.cells #[.int .i64 0,.string ⟨#[]⟩,.string ⟨#[]⟩,.int .i64 0,.slice none 0 0] 37)).os,((aj w1.heap.size w1).alloc Kv (.cells #[.int .i64 0,.string ⟨#[]⟩,.string ⟨#[]⟩,.int .i64 0,.slice none 0 0] 37)).tape,((aj w1.heap.size w1).alloc Kv (.cells #[.int .i64 0,.string ⟨#[]⟩,.string ⟨#[]⟩,.int .i64 0,.slice none 0 0] 37)).output,((aj w1.heap.size w1).alloc Kv (.cells #[.int .i64 0,.string ⟨#[]⟩,.string ⟨#[]⟩,.int .i64 0,.slice none 0 0] 37)).size,((aj w1.heap.size w1).alloc Kv (.cells #[.int .i64 0,.string ⟨#[]⟩,.string ⟨#[]⟩,.int .i64 0,.slice none 0 0] 37)).block⟩)
  have PY:Hid (w1.heap.size≤BX):=Hj (by rw[vY];exact bZ _)
  have Dl:wx.cell? ⟨gs,1,none⟩=some (pt gt):=Uo.out _ Bl.out
  rw[←hwx,←vY]
  clear hwx vY
  refine hK.out _ _ ?_ (fun hHeld=> ?_)
  ·exact Dl
  clear hK K
  try simp only[pa]
  refine mD 8 rfl (fun K hK=> ?_)
  go_simp
  refine(uN.out wx).mono ?_
  rintro e wk ⟨rfl,hbk⟩
  have pV:Hid (Bw w1 wk):=Hj (Below.trans Bl.out (Below.mono ⟨hbk.os,hbk.tape,hbk.output,hbk.size,hbk.block⟩ (Bl.out).size))
  have HRk:Hid (wk.heap[BX]?=some (.cells #[.int .i64 0,.string ⟨#[]⟩,.string ⟨#[]⟩,.int .i64 0,.slice none 0 0] 37 (0,0))):=Hj ((hbk.block BX (Cq Fa.out)).trans Fa.out)
  have hwk:wk.cell? ⟨gs,1,none⟩=some (pt gt):=Uo.out _ pV.out
  clear hbk
  refine hK.out _ _ ?_ (fun hHeld=> ?_)
  ·exact hwk
  clear hK K
  try simp only[pa]
  refine mD 9 rfl (fun K hK=> ?_)
  go_simp
  refine(pJ.out wk pV.out).mono ?_
  rintro e wg ⟨rfl,hbg⟩
  have FQ:Hid (Bw w1 wg):=Hj (Below.trans pV.out (Below.mono ⟨hbg.os,hbg.tape,hbg.output,hbg.size,hbg.block⟩ (pV.out).size))
  have YK:Hid (wg.heap[BX]?=some (.cells #[.int .i64 0,.string ⟨#[]⟩,.string ⟨#[]⟩,.int .i64 0,.slice none 0 0] 37 (0,0))):=Hj ((hbg.block BX (Cq HRk.out)).trans HRk.out)
  have fx:∀k,wg.frozen? ⟨BX,k,none⟩=false:=fun k=>Kj YK.out
  obtain⟨d0,d1,d2,d3,d4⟩:=VB.aK (v:=⟨0,⟨#[]⟩,⟨#[]⟩,0,none,0,0⟩) YK.out
  have hwg:wg.cell? ⟨gs,1,none⟩=some (pt gt):=Uo.out _ FQ.out
  clear hbg
  refine hK.out _ _ ?_ (fun hHeld=> ?_)
  ·exact hwg
  clear hK K
  try simp only[pa]
  refine tk 10 hHeld ?_
  try simp only[pa]
  refine tk 11 hHeld ?_
  try simp only[pa]
  refine tk 12 hHeld ?_
  try simp only[pa]
  refine mD 14 rfl (fun K hK=> ?_)
  go_simp
  obtain⟨wf,hwf⟩:∃W,W=(((((wg.setCell ⟨BX,0,none⟩ (.int .i64 v.kind)).setCell ⟨BX,1,none⟩ (.string v.space)).setCell ⟨BX,2,none⟩ (.string v.name)).setCell ⟨BX,3,none⟩ (.int .i64 v.ver)).setCell ⟨BX,4,none⟩ (.slice v.A v.n v.c)):=⟨_,rfl⟩
  have MP:Hid (wf.heap[BX]?=some (.cells (ov v) 37 (0,0))):=Hj (by rw[hwf];exact(OY YK.out))
  have EY:Hid (Bw w1 wf):=Hj (by rw[hwf];exact(MQ FQ.out PY.out (.int .i64 v.kind) (.string v.space) (.string v.name) (.int .i64 v.ver) (.slice v.A v.n v.c)))
 all_goals
  have Yg:Hid (wf.cell? ⟨gs,1,none⟩=some (pt gt)):=Hj (Uo.out _ EY.out)
  obtain⟨hf0,hf1,hf2,hf3,hf4⟩:=cells5 MP.out
  rw[←hwf]
  clear hwf d0 d1 d2 d3 d4 fx
  refine hK.out _ _ ?_ (fun hHeld=> ?_)
  ·exact Yg.out
  clear hK K
  try simp only[pa]
  refine tk 15 hHeld ?_
  try simp only[pa]
  refine wpAnyH_done (by kernel_rfl) ?_ _
  refine NoPanic.normal ?_
  have EX:Hid (wf.heap[B]?=some (.cells #[.int .i64 0,.string ⟨#[]⟩,.string ⟨#[]⟩,.int .i64 0,.slice none 0 0] 37 (0,0))):=Hj ((EY.out.block B (by have:=(Cq dZ.out);exact this)).trans dZ.out)
  rcases Ls.out with ⟨rfl,hg⟩ | ⟨rfl,q1,hg⟩ | ⟨rfl,q1,q2,q3,hg⟩ | ⟨o',rfl,q1,q2,q3,hg,hIs,hNn⟩
  all_goals replace hg:=Hj hg
  iterate 3
   ·have fB:∀k,wf.frozen? ⟨B,k,none⟩=false:=fun k=>Kj EX.out
    obtain⟨b0,b1,b2,b3,b4⟩:=VB.aK (v:=⟨0,⟨#[]⟩,⟨#[]⟩,0,none,0,0⟩) EX.out
    go_wp2
    exact bg (dn _ rfl rfl (OY EX.out) Tryz.underlying37 iR) rfl ⟨⟨0,⟨#[]⟩,⟨#[]⟩,0,none,0,0⟩,by rw[hg.out];rfl,fun o ho=>(by rw[hg.out] at ho;cases ho),(MQ (HB1.out.trans (EY.out.mono HB1.out.size)) (by rw[kT.out];exact bZ _) (.int .i64 0) (.string ⟨#[]⟩) (.string ⟨#[]⟩) (.int .i64 0) (.slice none 0 0))⟩
  have rH:=Hj hIs
  have HNn:=Hj hNn
  clear hIs hNn
  have HCo:=Hj (lQ v wf o'.data ((rH.out.below (HB1.out.trans (EY.out.mono HB1.out.size))).rb) HNn.out)
  go_wp2_with (go_at_call 46;(with_reducible refine HCo.out.mono ?_);rintro e w9 ⟨A9,c9,rfl,OU,hb9⟩;have HO9:=Hj OU;have HB9:=Hj hb9;have U2:=Hj ((hb9.block B (Cq EX.out)).trans EX.out);have fB:∀k,w9.frozen? ⟨B,k,none⟩=false:=(fun k=>Kj U2.out);obtain⟨b0,b1,b2,b3,b4⟩:=VB.aK (v:=⟨0,⟨#[]⟩,⟨#[]⟩,0,none,0,0⟩) U2.out;clear OU hb9)
  have hF:=(fr5 B w9 (.int .i64 v.kind) (.string v.space) (.string v.name) (.int .i64 v.ver) (.slice A9 v.n c9))
  have hbw:Bw w w9:=(HB1.out.trans (EY.out.mono HB1.out.size)).trans (HB9.out.mono (Cz HB1.out.size EY.out.size))
  have h10:OB ((((((w9.setCell ⟨B,0,none⟩ (.int .i64 v.kind)).setCell ⟨B,1,none⟩ (.string v.space)).setCell ⟨B,2,none⟩ (.string v.name)).setCell ⟨B,3,none⟩ (.int .i64 v.ver)).setCell ⟨B,4,none⟩ (.slice A9 v.n c9))) 0 (.slice A9 v.n c9) o'.data:=by
   have h9:OB w9 wf.heap.size (.slice A9 v.n c9) o'.data:=HO9.out
   refine OB.mono (OB.eY h9 fun k hk=>hF.block k (h9.lt k hk).2 fun e=> ?_) (bU _)
   obtain⟨cur,hcur⟩:=au h9 hk
   rw[e] at hcur
   exact absurd (ak hcur U2.out) (by decide)
  exact bg (dn _ rfl rfl (OY U2.out) Tryz.underlying37 iR) rfl ⟨⟨v.kind,v.space,v.name,v.ver,A9,v.n,c9⟩,by rw[hg.out];rfl,fun o ho=>(by rw[hg.out] at ho;injection ho with ho;subst ho;refine⟨⟨rH.out.kind,rH.out.space,rH.out.name,rH.out.ver,rH.out.num,?_⟩,fun k hk=>Cz (Cz HB1.out.size EY.out.size) (ah.lt HO9.out k hk).1⟩;exact h10),hbw.trans (hF.below hbw.size fun i _ e=>by rw[e,kT.out];exact bZ _)⟩
end
def IG (kind:Int) (space:ByteArray):List UInt8:=jh kind++[47]++space.data.toList++[48]
/-- How many there are of a kind. -/
def jW (M:bQ) (kind:Int) (space:ByteArray):Int:=(rank aS (dG (IG kind space)) M.tab:Int)-(rank aS (dG (gU kind space)) M.tab:Int)
theorem tV {κ ν μ:Type} {lt:κ→κ→Bool} (f:ν→μ) (k:κ) (l:List (κ×ν)):rank lt k (l.map fun x=>(x.1,f x.2))=rank lt k l:=by
 unfold rank
 rw[List.filter_map,aX]
 rfl
theorem KJ {κ ν:Type} {lt:κ→κ→Bool} (k:κ) (l:List (κ×ν)):rank lt k l≤l.length:=kZ _ _
section
variable {w w0:World} {Q:Nat→Prop} {g gs:Nat} {m:DM} {L:LM} {M:bQ}
theorem uU (kind:Int) (space:ByteArray) (h:SW w0 w Q g m gs L M) (hk:kind≤9223372036854775807) (hs:space.size≤1000) (hl:M.tab.length≤1000000):
  Cl 58 #[pt gs,.int .i64 kind,.string space] w fun e w'=>e=.returned (.int .i64 (jW M kind space))∧Bw w w':=by
 obtain⟨Z,gl,gt,sh,ev,xs,ys,hV,-,-⟩:=h.use
 have hxl:xs.length≤1000000:=by have:=bJ List.length hV.nD;rw[aX] at this;omega
 have HR:=Hj (Dn kind space w hk hs)
 obtain⟨s1,hs1⟩:∃s,s=dG (gU kind space):=⟨_,rfl⟩
 obtain⟨s0,hs0⟩:∃s,s=dG (jh kind++[47]++space.data.toList):=⟨_,rfl⟩
 have hz1:s1.size=(jh kind++[47]++space.data.toList).length+1:=by rw[hs1,jX];unfold gU;rw[bP];rfl
 have hz0:s0.size=(jh kind++[47]++space.data.toList).length:=by rw[hs0,jX]
 obtain⟨J,hJ⟩:∃j,j=(jh kind++[47]++space.data.toList).length:=⟨_,rfl⟩
 rw[←hJ] at hz1 hz0
 have hJl:J≤1021:=by have:=yu hk hs;rw[hJ];unfold gU at this;rw[bP] at this;simp only[List.length_cons,List.length_nil] at this;omega
 have hex:s1.extract 0 J=s0:=by
  rw[hs1,hs0]
  unfold gU
  refine kG ?_
  rw[hJ]
  simp[dG]
  rw[←KD,List.dropLast_concat]
 have hsl:∀W,(Instr.slice 9 (.string s1) none (some (.int .i64 (J:Int))) none).run Tryz.prog W=.ok (.string s0) W:=fun W=>by
  rw[run_slice_string_h W 9 s1 Tryz.underlying9 .i64 (J:Int) (by omega) (by omega)]
  rw[show (J:Int).toNat=J from rfl,hex]
 have hw1:IntKind.i64.wrap ((s1.size:Int)-1)=(J:Int):=by rw[cO _ (by omega)];omega
 have hw2:wrap64 ((s1.size:Int)-1)=(J:Int):=by unfold wrap64;omega
 have hcat:¬9223372036854775807<s0.size+1:=by omega
 rw[←hs1] at HR
 have Nj:Hid (∀W,Bw w W→TabAt W gt sh (xs.map fun x=>(x.1,x.2.1))):=Hj fun W hW=>(hV.below hW).tab
 have HC:Hid (∀W,Bw w W→W.cell? ⟨gs,1,none⟩=some (pt gt)):=Hj fun W hW=>(hV.below hW).cell.2.1
 obtain⟨a,ha⟩:∃a,a=rank aS (dG (IG kind space)) M.tab:=⟨_,rfl⟩
 obtain⟨b,hb⟩:∃b,b=rank aS (dG (gU kind space)) M.tab:=⟨_,rfl⟩
 have hae:rank aS (s0++⟨#[48]⟩) (xs.map fun x=>(x.1,x.2.1))=a:=by
  rw[tV (fun y:OV×aC=>y.1),ha,hV.nD,tV (fun y:OV×aC=>y.2)]
  rw[show s0++⟨#[48]⟩=dG (IG kind space) from by rw[hs0];exact Fb _ [48]]
 have hbe:rank aS s1 (xs.map fun x=>(x.1,x.2.1))=b:=by
  rw[tV (fun y:OV×aC=>y.1),hb,hV.nD,tV (fun y:OV×aC=>y.2),hs1]
 have hal:a≤1000000:=by rw[ha];exact Cz (KJ _ _) hl
 have hbl:b≤1000000:=by rw[hb];exact Cz (KJ _ _) hl
 have HCnt:Hid (jW M kind space=(a:Int)-(b:Int)):=Hj (by unfold jW;rw[←ha,←hb])
 have hris:=hV.tH
 have HRk1:Hid (∀W,TabAt W gt sh (xs.map fun x=>(x.1,x.2.1))→Cl 90 #[pt gt,(.string (s0++⟨#[48]⟩))] W fun e w'=>e=.returned (.int .i64 (a:Int))∧W=w'):=Hj fun W ht=>by
  have h:=IL gt (s0++⟨#[48]⟩) sh _ W ht hris (by rw[aX];omega)
  rw[hae] at h
  exact h
 have HRk2:Hid (∀W,TabAt W gt sh (xs.map fun x=>(x.1,x.2.1))→Cl 90 #[pt gt,(.string s1)] W fun e w'=>e=.returned (.int .i64 (b:Int))∧W=w'):=Hj fun W ht=>by
  have h:=IL gt s1 sh _ W ht hris (by rw[aX];omega)
  rw[hbe] at h
  exact h
 have hwr:IntKind.i64.wrap ((a:Int)-(b:Int))=(a:Int)-(b:Int):=cO _ (by omega)
 have hJ0:(0:Int)≤(J:Int):=by omega
 have hJ1:(J:Int)≤(s1.size:Int):=by omega
 clear h hk hs hl hV hxl hs1 hs0 hz1 hz0 hJ hJl hex ha hb hae hbe hal hbl hris
 go_enter Tryz.func58,Tryz.ntmps58
 go_wp2_with (go_at_call 42;(with_reducible refine HR.out.mono ?_);rintro e w2 ⟨rfl,hb2⟩;have HB2:=Hj hb2;have c1:w2.drew.cell? ⟨gs,1,none⟩=some (pt gt):=(HC.out w2 hb2:w2.cell? _=_);have HT2:Hid (TabAt w2.drew gt sh (xs.map fun x=>(x.1,x.2.1))):=Hj (Nj.out w2.drew ⟨hb2.os,hb2.tape,hb2.output,hb2.size,hb2.block⟩);clear hb2)
 refine wp_region_noPanic ?_
 refine wp_region_held_drew (S:=(fun w'=>w'.cell? ⟨gs,1,none⟩=some (pt gt))) (by kernel_rfl) ?_ (fun hHeld=> ?_)
 ·exact c1
 refine tk 0 hHeld ?_
 try simp only[pa]
 refine tk 1 hHeld ?_
 try simp only[pa]
 refine tk 2 hHeld ?_
 try simp only[pa]
 refine tk 3 hHeld ?_
 try simp only[pa]
 refine tk 4 hHeld ?_
 try simp only[pa]
 refine tk 5 hHeld ?_
 try simp only[pa]
 refine tk 6 hHeld ?_
 try simp only[pa]
 refine tk 7 hHeld ?_
 try simp only[pa]
 refine tk 8 hHeld ?_
 try simp only[pa]
 refine tk 9 hHeld ?_
 try simp only[pa]
 refine tk 11 hHeld ?_
 try simp only[pa]
 refine tk 12 hHeld ?_
 try simp only[pa]
 refine tk 13 hHeld ?_
 try simp only[pa]
 refine tk 14 hHeld ?_
 try simp only[pa]
 refine tk 15 hHeld ?_
 try simp only[pa]
 refine mD 10 rfl (fun K hK=> ?_)
 go_simp
 refine(HRk1.out w2.drew HT2.out).mono ?_
 rintro e w' ⟨rfl,rfl⟩
 refine hK.out _ _ ?_ (fun hHeld=> ?_)
 ·exact hHeld
 clear hK K
 try simp only[pa]
 refine mD 16 rfl (fun K hK=> ?_)
 go_simp
 refine(HRk2.out w2.drew HT2.out).mono ?_
 rintro e w' ⟨rfl,rfl⟩
 refine hK.out _ _ ?_ (fun hHeld=> ?_)
 ·exact hHeld
 clear hK K
 try simp only[pa]
 refine tk 17 hHeld ?_
 try simp only[pa]
 refine tk 18 hHeld ?_
 try simp only[pa]
 refine wpAnyH_done (by kernel_rfl) ?_ _
 refine NoPanic.normal ?_
 go_wp2
 go_ret
 exact⟨by rw[HCnt.out];rfl,bK HB2.out⟩
theorem P8 (space:ByteArray) (h:SW w0 w Q g m gs L M) (hs:space.size≤1000) (hl:M.tab.length≤1000000):
  Cl 78 #[pt gs,.string space] w fun e w'=>e=.returned (.bool (decide (0<jW M 5 space)||decide (0<jW M 6 space)))∧Bw w w':=by
 have H5:=Hj (uU 5 space h (by omega) hs hl)
 have H6:Hid (∀W,Bw w W→Cl 58 #[pt gs,.int .i64 6,.string space] W fun e w'=>e=.returned (.int .i64 (jW M 6 space))∧Bw W w'):=Hj fun W hW=>uU 6 space (h.below hW) (by omega) hs hl
 generalize jW M 5 space=a at*
 generalize jW M 6 space=b at*
 clear h hs hl
 by_cases ha:0<a
 ·have HR:Hid ((decide (0<a)||decide (0<b))=true):=Hj (by rw[aZ ha];rfl)
  go_enter Tryz.func78,Tryz.ntmps78
  go_wp2_with (go_at_call 58;(with_reducible refine H5.out.mono ?_);rintro e w2 ⟨rfl,hb2⟩;have HB2:=Hj hb2;clear hb2)
  go_ret
  exact⟨by rw[HR.out];rfl,HB2.out⟩
 ·have HR:Hid ((decide (0<a)||decide (0<b))=decide (0<b)):=Hj (by rw[aQ ha];rfl)
  have ha2:a≤0:=by omega
  go_enter Tryz.func78,Tryz.ntmps78
  go_wp2_with (first
   | (go_at_call 58;(with_reducible refine H5.out.mono ?_);rintro e w2 ⟨rfl,hb2⟩;have HB2:=Hj hb2;clear hb2)
   | (go_at_call 58;(with_reducible refine(H6.out w2 HB2.out).mono ?_);rintro e w3 ⟨rfl,hb3⟩;have HB3:=Hj (HB2.out.trans (hb3.mono HB2.out.size));clear hb3))
  go_ret
  exact⟨by rw[HR.out];rfl,HB3.out⟩
theorem UL (h:SW w0 w Q g m gs L M):Cl 12 #[pt gs] w fun e w'=>e=.returned (.int .i64 (M.rev:Int))∧w=w':=by
 obtain⟨Z,gl,gt,sh,ev,xs,ys,hV,-,-⟩:=h.use
 have c2:=hV.cell.2.2.1
 clear h hV
 go_enter Tryz.func12,Tryz.ntmps12
 go_wp2
 go_ret
 exact⟨rfl,rfl⟩
end
end Go.Proofs.YtdhbpajamlfacaaGreatDoor
