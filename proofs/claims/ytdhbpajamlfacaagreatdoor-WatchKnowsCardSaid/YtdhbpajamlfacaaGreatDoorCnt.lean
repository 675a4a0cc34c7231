/- Layer 20 (store): Open, on a disk whose log tells of a store. -/
import Derived.Test.YtdhbpajamlfacaaGreatDoorDerR
import Derived.Test.YtdhbpajamlfacaaGreatDoorStP
import Derived.Test.YtdhbpajamlfacaaGreatDoorWalT
import Derived.Test.YtdhbpajamlfacaaGreatDoorDiskOps
import Derived.Test.YtdhbpajamlfacaaGreatDoorApl
import Derived.Test.YtdhbpajamlfacaaGreatDoorWalK
import Derived.Deep.LoopGhost
import Derived.Test.YtdhbpajamlfacaaGreatDoorChg
namespace Go.Proofs.YtdhbpajamlfacaaGreatDoor
open Go.RowKit SO
section
variable {w w0 w1 w2:World} {Q S:Nat→Prop} {g gs gl gt:Nat} {m:DM} {L:LM} {M:aY} {ea:Nat→Addr}
/-- A new store. -/
theorem SW.born (h:DW w0 w S g m gl L) (hb:Below w.heap.size w w1) (ht:TabAt w1 gt .skip []) (hg:w.heap.size≤gt)
  (e2:w2=w1.alloc (.cells #[.pointer (some ⟨gl,0,none⟩),.pointer (some ⟨gt,0,none⟩),.int .i64 0,.int .i64 0,.slice none 0 0] 104)):
  SW w0 w2 (ext S w w2) g m w1.heap.size L st0:=by
 have hb2:=(Below.refl w1.heap.size w1).alloc Kv (.cells #[.pointer (some ⟨gl,0,none⟩),.pointer (some ⟨gt,0,none⟩),.int .i64 0,.int .i64 0,.slice none 0 0] 104)
 have hr2:=heap_alloc_new w1 (.cells #[.pointer (some ⟨gl,0,none⟩),.pointer (some ⟨gt,0,none⟩),.int .i64 0,.int .i64 0,.slice none 0 0] 104)
 rw[←e2] at hb2 hr2
 have hB:=hb.trans (hb2.mono hb.size)
 have hd:=(h.below hB).narrow
 refine⟨⟨_,fun k=>k=w1.heap.size∨k=gt,gl,gt,.skip,.slice none 0 0,[],[],hd,⟨hr2,ht.below hb2,rfl,fun x hx=>(by cases hx),ah.nil _ _ _ _,rfl,fun x hx=>(by cases hx),aY.vW (qE.nil 0) (by decide),.inl rfl,.inr rfl,fun k hk=>(by cases hk),fun x hx=>(by cases hx),fun x hx=>(by cases hx)⟩,fun k hk=>.inl hk.1,fun k hk=> ?_,fun k hk hs=> ?_,fun k hk=>hk.2⟩,fun k hk=> ?_,fun k hk=> ?_⟩
 ·rcases hk with rfl | rfl
  ·exact .inr ⟨hb.size,(Cq hr2)⟩
  ·exact .inr ⟨hg,Nat.lt_of_lt_of_le ht.lt hb2.size⟩
 ·have:=h.hi k hs.1
  rcases hk with rfl | rfl
  ·exact absurd hb.size (by omega)
  ·omega
 ·exact hk.elim (h.up k) fun hk=>Cz h.bel.size hk.1
 ·exact hk.elim (fun hk=>Nat.lt_of_lt_of_le (h.hi k hk) hB.size) fun hk=>hk.2
end
section
variable {w w0:World} {Q:Nat→Prop} {g gs:Nat} {m:DM} {L:LM} {M:aY}
/-- The object of a kind, a namespace and a name. -/
def getM (M:aY) (kind:Int) (space name:ByteArray):Option aH:=match look aJ (ji kind space name) M.tab with
 | some o=>if (o.kind:Int)=kind∧o.space=space then some o else none
 | none=>none
set_option maxHeartbeats 4000000 in
set_option maxRecDepth 100000 in
theorem zY (kind:Int) (space name:ByteArray) (h:SW w0 w Q g m gs L M) (hk:kind≤9223372036854775807) (hs:space.size≤1000) (hn:name.size≤1000):
  Calls Tryz.prog 56 #[.pointer (some ⟨gs,0,none⟩),.int .i64 kind,.string space,.string name] w fun e w'=>∃v,e=.returned (.tuple #[.agg #[.int .i64 v.kind,.string v.space,.string v.name,.int .i64 v.ver,.slice v.A v.n v.c],.bool (getM M kind space name).isSome])∧(∀o,getM M kind space name=some o→dI w' v o∧∀k,(sl v).ownBlock=some k→w.heap.size≤k)∧Below w.heap.size w w':=by
 obtain⟨Z,gl,gt,sh,ev,xs,ys,hV,-,-⟩:=h.use
 obtain⟨w1,hw1⟩:∃W,W=w.alloc (.cells #[.int .i64 0,.string ⟨#[]⟩,.string ⟨#[]⟩,.int .i64 0,.slice none 0 0] 37):=⟨_,rfl⟩
 obtain⟨B,hB⟩:∃B,B=w.heap.size:=⟨_,rfl⟩
 have hb1:=(Below.refl w.heap.size w).alloc Kv (.cells #[.int .i64 0,.string ⟨#[]⟩,.string ⟨#[]⟩,.int .i64 0,.slice none 0 0] 37)
 have hr1:=heap_alloc_new w (.cells #[.int .i64 0,.string ⟨#[]⟩,.string ⟨#[]⟩,.int .i64 0,.slice none 0 0] 37)
 rw[←hw1] at hb1 hr1
 rw[←hB] at hr1
 have hV1:=hV.below hb1
 have Q8:Hid (∀W,Below w1.heap.size w1 W→W.cell? ⟨gs,1,none⟩=some (.pointer (some ⟨gt,0,none⟩))):=Hj fun W hW=>(hV1.below hW).cell.2.1
 have c1:w1.drew.cell? ⟨gs,1,none⟩=some (.pointer (some ⟨gt,0,none⟩)):=(Q8.out w1 (Below.refl _ w1):w1.cell? _=_)
 have xR:Hid (∀W,Calls Tryz.prog 98 #[.agg #[.int .i64 kind,.string space,.string name,.int .i64 0,.slice none 0 0]] W fun e w'=>e=.returned (.string (ji kind space name))∧Below W.heap.size W w'):=Hj fun W=>Ip ⟨kind,space,name,0,none,0,0⟩ W hk hs hn
 have hris:=hV.CX
 obtain⟨G,hG⟩:∃G,G=getM M kind space name:=⟨_,rfl⟩
 obtain⟨v,ok,mQ,YS⟩:∃(v:OV) (ok:Bool),Hid (∀W,Below w1.heap.size w1 W→Calls Tryz.prog 45 #[.pointer (some ⟨gt,0,none⟩),(.string (ji kind space name))] W fun e w'=>e=.returned (.tuple #[(.agg #[.int .i64 v.kind,.string v.space,.string v.name,.int .i64 v.ver,.slice v.A v.n v.c]),.bool ok])∧Below W.heap.size W w')∧Hid ((ok=false∧G=none)∨(ok=true∧(v.kind !=kind)=true∧G=none)∨(ok=true∧(v.kind !=kind)=false∧(v.space.toList==space.toList)=false∧(v.space.toList !=space.toList)=true∧G=none)∨∃o',ok=true∧(v.kind !=kind)=false∧(v.space.toList==space.toList)=true∧(v.space.toList !=space.toList)=false∧G=some o'∧dI w v o'∧v.n≤1000000):=by
  unfold getM at hG
  have hV0:=hV
  cases hlk:look aJ (ji kind space name) M.tab with
  | none=>
   have hlx:look aJ (ji kind space name) (xs.map fun x=>(x.1,x.2.1))=none:=by
    rw[jL (fun y:OV×aH=>y.1)]
    have:=hlk
    rw[hV.kK,jL (fun y:OV×aH=>y.2)] at this
    rw[Option.map_eq_none_iff] at this ⊢
    exact this
   exact⟨⟨0,⟨#[]⟩,⟨#[]⟩,0,none,0,0⟩,false,Hj fun W hW=>Oa gt _ sh _ W (hV1.below hW).tab hris hlx,Hj (.inl ⟨rfl,by rw[hG,hlk]⟩)⟩
  | some o=>
   have hlx:look aJ (ji kind space name) (xs.map fun x=>(x.1,x.2.2))=some o:=by rw[←hV.kK];exact hlk
   rw[jL (fun y:OV×aH=>y.2)] at hlx
   obtain⟨⟨v,o'⟩,hxe,rfl⟩:=Option.map_eq_some_iff.1 hlx
   have hlv:look aJ (ji kind space name) (xs.map fun x=>(x.1,x.2.1))=some v:=by rw[jL (fun y:OV×aH=>y.1),hxe];rfl
   obtain⟨k',hmem⟩:=look_in hxe
   have hIs:=hV.each _ hmem
   simp only at hIs
   refine⟨v,true,Hj fun W hW=>nC gt _ v sh _ W (hV1.below hW).tab hris hlv,Hj (.inr ?_)⟩
   rw[hlk] at hG
   simp only at hG
   by_cases heq:(o'.kind:Int)=kind
   ·have q1:(v.kind !=kind)=false:=by rw[hIs.kind];simpa using heq
    by_cases hes:o'.space=space
    ·rw [if_pos ⟨heq,hes⟩] at hG
     refine .inr (.inr ⟨o',rfl,q1,by rw[hIs.space,hes];simp,by rw[hIs.space,hes];simp,hG,hIs,?_⟩)
     rw[hIs.num]
     have hm2:(k',o')∈M.tab:=(by rw[hV.kK];exact List.mem_map.2 ⟨_,hmem,rfl⟩)
     have:=(hV.ok.tab.each _ hm2).2.1.data
     simp only at this;omega
    ·rw [if_neg fun x=>hes x.2] at hG
     have q2:(v.space.toList==space.toList)=false:=by
      rw[hIs.space]
      refine beq_eq_false_iff_ne.2 fun e=>hes ?_
      rw[ByteArray.toList_eq,ByteArray.toList_eq] at e
      exact ByteArray.ext (Array.toList_inj.1 e)
     exact .inr (.inl ⟨rfl,q1,q2,by simpa using q2,hG⟩)
   ·rw [if_neg fun x=>heq x.1] at hG
    exact .inl ⟨rfl,by rw[hIs.kind];simpa using heq,hG⟩
 rw[←hG]
 clear hG
 have HB1:=Hj hb1
 have dR:=Hj hr1
 have HW1:=Hj hw1
 have jB:=Hj hB
 clear hb1 hr1 hw1 hB hV hV1 h hris hk hs hn
 go_enter Tryz.func56,Tryz.ntmps56
 go_wp2
 rw[←HW1.out,←jB.out]
 refine wp_region_noPanic ?_
 refine wp_region_held_drew (S:=(fun w'=>w'.cell? ⟨gs,1,none⟩=some (.pointer (some ⟨gt,0,none⟩)))) (by kernel_rfl) ?_ (fun hHeld=> ?_)
 ·exact c1
 refine tk 0 hHeld ?_
 try simp only[pa]
 refine tk 1 hHeld ?_
 try simp only[pa]
 refine tk 2 hHeld ?_
 try simp only[pa]
 refine tk 3 hHeld ?_
 try simp only[pa]
 refine tk 4 hHeld ?_
 try simp only[pa]
 refine tk 5 hHeld ?_
 try simp only[pa]
 refine tk 6 hHeld ?_
 try simp only[pa]
 refine tk 7 hHeld ?_
 try simp only[pa]
 refine Rk 8 13 rfl rfl (fun K hK=> ?_) (fun K hK=> ?_)
 focus
  go_simp
  refine(xR.out w1.drew).mono ?_
  rintro e wk ⟨rfl,hbk⟩
  have qj:Hid (Below w1.heap.size w1 wk):=Hj (Below.trans (Below.refl w1.heap.size w1) (Below.mono ⟨hbk.os,hbk.tape,hbk.output,hbk.size,hbk.block⟩ ((Below.refl w1.heap.size w1)).size))
  have hwk:wk.cell? ⟨gs,1,none⟩=some (.pointer (some ⟨gt,0,none⟩)):=Q8.out _ qj.out
  clear hbk
  refine hK.out _ _ ?_ (fun hHeld=> ?_)
  ·exact hwk
  clear hK K
  try simp only[pa]
  refine Rk 9 13 rfl rfl (fun K hK=> ?_) (fun K hK=> ?_)
  focus
   go_simp
   refine(mQ.out wk qj.out).mono ?_
   rintro e wg ⟨rfl,hbg⟩
   have IV:Hid (Below w1.heap.size w1 wg):=Hj (Below.trans qj.out (Below.mono ⟨hbg.os,hbg.tape,hbg.output,hbg.size,hbg.block⟩ (qj.out).size))
   have hwg:wg.cell? ⟨gs,1,none⟩=some (.pointer (some ⟨gt,0,none⟩)):=Q8.out _ IV.out
   clear hbg
   refine hK.out _ _ ?_ (fun hHeld=> ?_)
   ·exact hwg
   clear hK K
   try simp only[pa]
   refine tk 10 hHeld ?_
   try simp only[pa]
   refine tk 11 hHeld ?_
   try simp only[pa]
   refine tk 12 hHeld ?_
   try simp only[pa]
   refine mJ 13 rfl (fun K hK=> ?_)
   go_simp
   obtain⟨wx,hwx⟩:∃W,W=(wg).alloc (.cells #[.int .i64 0,.string ⟨#[]⟩,.string ⟨#[]⟩,.int .i64 0,.slice none 0 0] 37):=⟨_,rfl⟩
   obtain⟨BX,tK⟩:∃B,B=(wg).heap.size:=⟨_,rfl⟩
   have Dh:Hid (wx.heap[BX]?=some (.cells #[.int .i64 0,.string ⟨#[]⟩,.string ⟨#[]⟩,.int .i64 0,.slice none 0 0] 37 (0,0))):=Hj (by rw[hwx,tK];exact heap_alloc_new (wg) _)
   have yN:Hid (Below w1.heap.size w1 wx):=Hj (by rw[hwx];exact(show Below w1.heap.size w1 (wg) from ⟨(IV.out).os,(IV.out).tape,(IV.out).output,(IV.out).size,(IV.out).block⟩).alloc (IV.out).size _)
   have Nj:Hid (w1.heap.size≤BX):=Hj (by rw[tK];exact(IV.out).size)
   have fx:∀k,wx.frozen? ⟨BX,k,none⟩=false:=fun k=>Kj Dh.out
   obtain⟨d0,d1,d2,d3,d4⟩:=VB.aG (v:=⟨0,⟨#[]⟩,⟨#[]⟩,0,none,0,0⟩) Dh.out
   have zU:wx.cell? ⟨gs,1,none⟩=some (.pointer (some ⟨gt,0,none⟩)):=Q8.out _ yN.out
   try simp only[World.size_drew] at tK
   try rw[←hwx,←tK]
   clear hwx tK
   refine hK.out _ _ ?_ (fun hHeld=> ?_)
   ·exact zU
   clear hK K
   try simp only[pa]
   refine mJ 14 rfl (fun K hK=> ?_)
   go_simp
   obtain⟨wf,hwf⟩:∃W,W=(((((wx.setCell ⟨BX,0,none⟩ (.int .i64 v.kind)).setCell ⟨BX,1,none⟩ (.string v.space)).setCell ⟨BX,2,none⟩ (.string v.name)).setCell ⟨BX,3,none⟩ (.int .i64 v.ver)).setCell ⟨BX,4,none⟩ (.slice v.A v.n v.c)):=⟨_,rfl⟩
   have Js:Hid (wf.heap[BX]?=some (.cells #[.int .i64 v.kind,.string v.space,.string v.name,.int .i64 v.ver,.slice v.A v.n v.c] 37 (0,0))):=Hj (by rw[hwf];exact(Rl Dh.out))
   have CZ:Hid (Below w1.heap.size w1 wf):=Hj (by rw[hwf];exact(Jt yN.out Nj.out (.int .i64 v.kind) (.string v.space) (.string v.name) (.int .i64 v.ver) (.slice v.A v.n v.c)))
  rotate_right
  focus
   go_simp
   obtain⟨wx,hwx⟩:∃W,W=(wk).alloc (.cells #[.int .i64 0,.string ⟨#[]⟩,.string ⟨#[]⟩,.int .i64 0,.slice none 0 0] 37):=⟨_,rfl⟩
   obtain⟨BX,tK⟩:∃B,B=(wk).heap.size:=⟨_,rfl⟩
   have Dh:Hid (wx.heap[BX]?=some (.cells #[.int .i64 0,.string ⟨#[]⟩,.string ⟨#[]⟩,.int .i64 0,.slice none 0 0] 37 (0,0))):=Hj (by rw[hwx,tK];exact heap_alloc_new (wk) _)
   have yN:Hid (Below w1.heap.size w1 wx):=Hj (by rw[hwx];exact(show Below w1.heap.size w1 (wk) from ⟨(qj.out).os,(qj.out).tape,(qj.out).output,(qj.out).size,(qj.out).block⟩).alloc (qj.out).size _)
   have Nj:Hid (w1.heap.size≤BX):=Hj (by rw[tK];exact(qj.out).size)
   have zU:wx.cell? ⟨gs,1,none⟩=some (.pointer (some ⟨gt,0,none⟩)):=Q8.out _ yN.out
   try simp only[World.size_drew] at tK
   try rw[←hwx,←tK]
   clear hwx tK
   refine hK.out _ _ ?_ (fun hHeld=> ?_)
   ·exact zU
   clear hK K
   try simp only[pa]
   refine mJ 9 rfl (fun K hK=> ?_)
   go_simp
   refine(mQ.out wx yN.out).mono ?_
   rintro e wg ⟨rfl,hbg⟩
   have IV:Hid (Below w1.heap.size w1 wg):=Hj (Below.trans yN.out (Below.mono ⟨hbg.os,hbg.tape,hbg.output,hbg.size,hbg.block⟩ (yN.out).size))
   have Wv:Hid (wg.heap[BX]?=some (.cells #[.int .i64 0,.string ⟨#[]⟩,.string ⟨#[]⟩,.int .i64 0,.slice none 0 0] 37 (0,0))):=Hj ((hbg.block BX (Cq Dh.out)).trans Dh.out)
   have fx:∀k,wg.frozen? ⟨BX,k,none⟩=false:=fun k=>Kj Wv.out
   obtain⟨d0,d1,d2,d3,d4⟩:=VB.aG (v:=⟨0,⟨#[]⟩,⟨#[]⟩,0,none,0,0⟩) Wv.out
   have hwg:wg.cell? ⟨gs,1,none⟩=some (.pointer (some ⟨gt,0,none⟩)):=Q8.out _ IV.out
   clear hbg
   refine hK.out _ _ ?_ (fun hHeld=> ?_)
   ·exact hwg
   clear hK K
   try simp only[pa]
   refine tk 10 hHeld ?_
   try simp only[pa]
   refine tk 11 hHeld ?_
   try simp only[pa]
   refine tk 12 hHeld ?_
   try simp only[pa]
   refine mJ 14 rfl (fun K hK=> ?_)
   go_simp
   obtain⟨wf,hwf⟩:∃W,W=(((((wg.setCell ⟨BX,0,none⟩ (.int .i64 v.kind)).setCell ⟨BX,1,none⟩ (.string v.space)).setCell ⟨BX,2,none⟩ (.string v.name)).setCell ⟨BX,3,none⟩ (.int .i64 v.ver)).setCell ⟨BX,4,none⟩ (.slice v.A v.n v.c)):=⟨_,rfl⟩
   have Js:Hid (wf.heap[BX]?=some (.cells #[.int .i64 v.kind,.string v.space,.string v.name,.int .i64 v.ver,.slice v.A v.n v.c] 37 (0,0))):=Hj (by rw[hwf];exact(Rl Wv.out))
   have CZ:Hid (Below w1.heap.size w1 wf):=Hj (by rw[hwf];exact(Jt IV.out Nj.out (.int .i64 v.kind) (.string v.space) (.string v.name) (.int .i64 v.ver) (.slice v.A v.n v.c)))
 rotate_right
 focus
  go_simp
  obtain⟨wx,hwx⟩:∃W,W=(w1.alloc (.cells #[.int .i64 0,.string ⟨#[]⟩,.string ⟨#[]⟩,.int .i64 0,.slice none 0 0] 37)).drew:=⟨_,rfl⟩
  obtain⟨BX,tK⟩:∃B,B=w1.heap.size:=⟨_,rfl⟩
  have Dh:Hid (wx.heap[BX]?=some (.cells #[.int .i64 0,.string ⟨#[]⟩,.string ⟨#[]⟩,.int .i64 0,.slice none 0 0] 37 (0,0))):=Hj (by rw[hwx,tK];exact heap_alloc_new w1 _)
  have yN:Hid (Below w1.heap.size w1 wx):=Hj (by rw[hwx];exact⟨((Below.refl w1.heap.size w1).alloc Kv (.cells #[.int .i64 0,.string ⟨#[]⟩,.string ⟨#[]⟩,.int .i64 0,.slice none 0 0] 37)).os,((Below.refl w1.heap.size w1).alloc Kv (.cells #[.int .i64 0,.string ⟨#[]⟩,.string ⟨#[]⟩,.int .i64 0,.slice none 0 0] 37)).tape,((Below.refl w1.heap.size w1).alloc Kv (.cells #[.int .i64 0,.string ⟨#[]⟩,.string ⟨#[]⟩,.int .i64 0,.slice none 0 0] 37)).output,((Below.refl w1.heap.size w1).alloc Kv (.cells #[.int .i64 0,.string ⟨#[]⟩,.string ⟨#[]⟩,.int .i64 0,.slice none 0 0] 37)).size,((Below.refl w1.heap.size w1).alloc Kv (.cells #[.int .i64 0,.string ⟨#[]⟩,.string ⟨#[]⟩,.int .i64 0,.slice none 0 0] 37)).block⟩)
  have Nj:Hid (w1.heap.size≤BX):=Hj (by rw[tK];exact Nat.le_refl _)
  have zU:wx.cell? ⟨gs,1,none⟩=some (.pointer (some ⟨gt,0,none⟩)):=Q8.out _ yN.out
  rw[←hwx,←tK]
  clear hwx tK
  refine hK.out _ _ ?_ (fun hHeld=> ?_)
  ·exact zU
  clear hK K
  try simp only[pa]
  refine mJ 8 rfl (fun K hK=> ?_)
  go_simp
  refine(xR.out wx).mono ?_
  rintro e wk ⟨rfl,hbk⟩
  have qj:Hid (Below w1.heap.size w1 wk):=Hj (Below.trans yN.out (Below.mono ⟨hbk.os,hbk.tape,hbk.output,hbk.size,hbk.block⟩ (yN.out).size))
  have HRk:Hid (wk.heap[BX]?=some (.cells #[.int .i64 0,.string ⟨#[]⟩,.string ⟨#[]⟩,.int .i64 0,.slice none 0 0] 37 (0,0))):=Hj ((hbk.block BX (Cq Dh.out)).trans Dh.out)
  have hwk:wk.cell? ⟨gs,1,none⟩=some (.pointer (some ⟨gt,0,none⟩)):=Q8.out _ qj.out
  clear hbk
  refine hK.out _ _ ?_ (fun hHeld=> ?_)
  ·exact hwk
  clear hK K
  try simp only[pa]
  refine mJ 9 rfl (fun K hK=> ?_)
  go_simp
  refine(mQ.out wk qj.out).mono ?_
  rintro e wg ⟨rfl,hbg⟩
  have IV:Hid (Below w1.heap.size w1 wg):=Hj (Below.trans qj.out (Below.mono ⟨hbg.os,hbg.tape,hbg.output,hbg.size,hbg.block⟩ (qj.out).size))
  have Wv:Hid (wg.heap[BX]?=some (.cells #[.int .i64 0,.string ⟨#[]⟩,.string ⟨#[]⟩,.int .i64 0,.slice none 0 0] 37 (0,0))):=Hj ((hbg.block BX (Cq HRk.out)).trans HRk.out)
  have fx:∀k,wg.frozen? ⟨BX,k,none⟩=false:=fun k=>Kj Wv.out
  obtain⟨d0,d1,d2,d3,d4⟩:=VB.aG (v:=⟨0,⟨#[]⟩,⟨#[]⟩,0,none,0,0⟩) Wv.out
  have hwg:wg.cell? ⟨gs,1,none⟩=some (.pointer (some ⟨gt,0,none⟩)):=Q8.out _ IV.out
  clear hbg
  refine hK.out _ _ ?_ (fun hHeld=> ?_)
  ·exact hwg
  clear hK K
  try simp only[pa]
  refine tk 10 hHeld ?_
  try simp only[pa]
  refine tk 11 hHeld ?_
  try simp only[pa]
  refine tk 12 hHeld ?_
  try simp only[pa]
  refine mJ 14 rfl (fun K hK=> ?_)
  go_simp
  obtain⟨wf,hwf⟩:∃W,W=(((((wg.setCell ⟨BX,0,none⟩ (.int .i64 v.kind)).setCell ⟨BX,1,none⟩ (.string v.space)).setCell ⟨BX,2,none⟩ (.string v.name)).setCell ⟨BX,3,none⟩ (.int .i64 v.ver)).setCell ⟨BX,4,none⟩ (.slice v.A v.n v.c)):=⟨_,rfl⟩
  have Js:Hid (wf.heap[BX]?=some (.cells #[.int .i64 v.kind,.string v.space,.string v.name,.int .i64 v.ver,.slice v.A v.n v.c] 37 (0,0))):=Hj (by rw[hwf];exact(Rl Wv.out))
  have CZ:Hid (Below w1.heap.size w1 wf):=Hj (by rw[hwf];exact(Jt IV.out Nj.out (.int .i64 v.kind) (.string v.space) (.string v.name) (.int .i64 v.ver) (.slice v.A v.n v.c)))
 all_goals
  have VL:Hid (wf.cell? ⟨gs,1,none⟩=some (.pointer (some ⟨gt,0,none⟩))):=Hj (Q8.out _ CZ.out)
  obtain⟨hf0,hf1,hf2,hf3,hf4⟩:=cells5 Js.out
  rw[←hwf]
  clear hwf d0 d1 d2 d3 d4 fx
  refine hK.out _ _ ?_ (fun hHeld=> ?_)
  ·exact VL.out
  clear hK K
  try simp only[pa]
  refine tk 15 hHeld ?_
  try simp only[pa]
  refine wpAnyH_done (by kernel_rfl) ?_ _
  refine NoPanic.normal ?_
  have yK:Hid (wf.heap[B]?=some (.cells #[.int .i64 0,.string ⟨#[]⟩,.string ⟨#[]⟩,.int .i64 0,.slice none 0 0] 37 (0,0))):=Hj ((CZ.out.block B (by have:=(Cq dR.out);exact this)).trans dR.out)
  rcases YS.out with ⟨rfl,hg⟩ | ⟨rfl,q1,hg⟩ | ⟨rfl,q1,q2,q3,hg⟩ | ⟨o',rfl,q1,q2,q3,hg,hIs,hNn⟩
  all_goals replace hg:=Hj hg
  iterate 3
   ·have fB:∀k,wf.frozen? ⟨B,k,none⟩=false:=fun k=>Kj yK.out
    obtain⟨b0,b1,b2,b3,b4⟩:=VB.aG (v:=⟨0,⟨#[]⟩,⟨#[]⟩,0,none,0,0⟩) yK.out
    go_wp2
    exact bodyPost_ret (dB _ rfl rfl (Rl yK.out) Tryz.underlying37 jk) rfl ⟨⟨0,⟨#[]⟩,⟨#[]⟩,0,none,0,0⟩,by rw[hg.out];rfl,fun o ho=>(by rw[hg.out] at ho;cases ho),(Jt (HB1.out.trans (CZ.out.mono HB1.out.size)) (by rw[jB.out];exact Nat.le_refl _) (.int .i64 0) (.string ⟨#[]⟩) (.string ⟨#[]⟩) (.int .i64 0) (.slice none 0 0))⟩
  have ql:=Hj hIs
  have HNn:=Hj hNn
  clear hIs hNn
  have HCo:=Hj (jM v wf o'.data ((ql.out.below (HB1.out.trans (CZ.out.mono HB1.out.size))).rb) HNn.out)
  go_wp2_with (go_at_call 46;(with_reducible refine HCo.out.mono ?_);rintro e w9 ⟨A9,c9,rfl,MH,hb9⟩;have HO9:=Hj MH;have HB9:=Hj hb9;have RS:=Hj ((hb9.block B (Cq yK.out)).trans yK.out);have fB:∀k,w9.frozen? ⟨B,k,none⟩=false:=(fun k=>Kj RS.out);obtain⟨b0,b1,b2,b3,b4⟩:=VB.aG (v:=⟨0,⟨#[]⟩,⟨#[]⟩,0,none,0,0⟩) RS.out;clear MH hb9)
  have hF:=(Ym B w9 (.int .i64 v.kind) (.string v.space) (.string v.name) (.int .i64 v.ver) (.slice A9 v.n c9))
  have hbw:Below w.heap.size w w9:=(HB1.out.trans (CZ.out.mono HB1.out.size)).trans (HB9.out.mono (Cz HB1.out.size CZ.out.size))
  have h10:OB ((((((w9.setCell ⟨B,0,none⟩ (.int .i64 v.kind)).setCell ⟨B,1,none⟩ (.string v.space)).setCell ⟨B,2,none⟩ (.string v.name)).setCell ⟨B,3,none⟩ (.int .i64 v.ver)).setCell ⟨B,4,none⟩ (.slice A9 v.n c9))) 0 (.slice A9 v.n c9) o'.data:=by
   have h9:OB w9 wf.heap.size (.slice A9 v.n c9) o'.data:=HO9.out
   refine OB.mono (OB.dP h9 fun k hk=>hF.block k (h9.lt k hk).2 fun e=> ?_) (Nat.zero_le _)
   obtain⟨cur,hcur⟩:=ak h9 hk
   rw[e] at hcur
   exact absurd (aj hcur RS.out) (by decide)
  exact bodyPost_ret (dB _ rfl rfl (Rl RS.out) Tryz.underlying37 jk) rfl ⟨⟨v.kind,v.space,v.name,v.ver,A9,v.n,c9⟩,by rw[hg.out];rfl,fun o ho=>(by rw[hg.out] at ho;injection ho with ho;subst ho;refine⟨⟨ql.out.kind,ql.out.space,ql.out.name,ql.out.ver,ql.out.num,?_⟩,fun k hk=>Cz (Cz HB1.out.size CZ.out.size) (ah.lt HO9.out k hk).1⟩;exact h10),hbw.trans (hF.below hbw.size fun i _ e=>by rw[e,jB.out];exact Nat.le_refl _)⟩
end
def yP (kind:Int) (space:ByteArray):List UInt8:=iF kind++[47]++space.data.toList++[48]
/-- How many there are of a kind. -/
def iR (M:aY) (kind:Int) (space:ByteArray):Int:=(rank aJ (bF (yP kind space)) M.tab:Int)-(rank aJ (bF (dZ kind space)) M.tab:Int)
theorem qC {κ ν μ:Type} {lt:κ→κ→Bool} (f:ν→μ) (k:κ) (l:List (κ×ν)):rank lt k (l.map fun x=>(x.1,f x.2))=rank lt k l:=by
 unfold rank
 rw[List.filter_map,List.length_map]
 rfl
theorem Iu {κ ν:Type} {lt:κ→κ→Bool} (k:κ) (l:List (κ×ν)):rank lt k l≤l.length:=List.length_filter_le _ _
section
variable {w w0:World} {Q:Nat→Prop} {g gs:Nat} {m:DM} {L:LM} {M:aY}
set_option maxHeartbeats 2000000 in
theorem rX (kind:Int) (space:ByteArray) (h:SW w0 w Q g m gs L M) (hk:kind≤9223372036854775807) (hs:space.size≤1000) (hl:M.tab.length≤1000000):
  Calls Tryz.prog 58 #[.pointer (some ⟨gs,0,none⟩),.int .i64 kind,.string space] w fun e w'=>e=.returned (.int .i64 (iR M kind space))∧Below w.heap.size w w':=by
 obtain⟨Z,gl,gt,sh,ev,xs,ys,hV,-,-⟩:=h.use
 have hxl:xs.length≤1000000:=by have:=congrArg List.length hV.kK;rw[List.length_map] at this;omega
 have HR:=Hj (zV kind space w hk hs)
 obtain⟨s1,hs1⟩:∃s,s=bF (dZ kind space):=⟨_,rfl⟩
 obtain⟨s0,hs0⟩:∃s,s=bF (iF kind++[47]++space.data.toList):=⟨_,rfl⟩
 have hz1:s1.size=(iF kind++[47]++space.data.toList).length+1:=by rw[hs1,iY];unfold dZ;rw[List.length_append];rfl
 have hz0:s0.size=(iF kind++[47]++space.data.toList).length:=by rw[hs0,iY]
 obtain⟨J,hJ⟩:∃j,j=(iF kind++[47]++space.data.toList).length:=⟨_,rfl⟩
 rw[←hJ] at hz1 hz0
 have hJl:J≤1021:=by have:=vV hk hs;rw[hJ];unfold dZ at this;rw[List.length_append] at this;simp only[List.length_cons,List.length_nil] at this;omega
 have hex:s1.extract 0 J=s0:=by
  rw[hs1,hs0]
  unfold dZ
  refine ByteArray.ext ?_
  rw[hJ]
  simp[bF]
  rw[←List.cons_append,List.dropLast_concat]
 have hsl:∀W,(Instr.slice 9 (.string s1) none (some (.int .i64 (J:Int))) none).run Tryz.prog W=.ok (.string s0) W:=fun W=>by
  rw[run_slice_string_h W 9 s1 Tryz.underlying9 .i64 (J:Int) (by omega) (by omega)]
  rw[show (J:Int).toNat=J from rfl,hex]
 have hw1:IntKind.i64.wrap ((s1.size:Int)-1)=(J:Int):=by rw[IntWalk.i64_in _ (by omega)];omega
 have hw2:wrap64 ((s1.size:Int)-1)=(J:Int):=by unfold wrap64;omega
 have Yz:¬9223372036854775807<s0.size+1:=by omega
 rw[←hs1] at HR
 have JI:Hid (∀W,Below w.heap.size w W→TabAt W gt sh (xs.map fun x=>(x.1,x.2.1))):=Hj fun W hW=>(hV.below hW).tab
 have HC:Hid (∀W,Below w.heap.size w W→W.cell? ⟨gs,1,none⟩=some (.pointer (some ⟨gt,0,none⟩))):=Hj fun W hW=>(hV.below hW).cell.2.1
 obtain⟨a,ha⟩:∃a,a=rank aJ (bF (yP kind space)) M.tab:=⟨_,rfl⟩
 obtain⟨b,hb⟩:∃b,b=rank aJ (bF (dZ kind space)) M.tab:=⟨_,rfl⟩
 have hae:rank aJ (s0++⟨#[48]⟩) (xs.map fun x=>(x.1,x.2.1))=a:=by
  rw[qC (fun y:OV×aH=>y.1),ha,hV.kK,qC (fun y:OV×aH=>y.2)]
  rw[show s0++⟨#[48]⟩=bF (yP kind space) from by rw[hs0];exact Di _ [48]]
 have hbe:rank aJ s1 (xs.map fun x=>(x.1,x.2.1))=b:=by
  rw[qC (fun y:OV×aH=>y.1),hb,hV.kK,qC (fun y:OV×aH=>y.2),hs1]
 have hal:a≤1000000:=by rw[ha];exact Cz (Iu _ _) hl
 have hbl:b≤1000000:=by rw[hb];exact Cz (Iu _ _) hl
 have HCnt:Hid (iR M kind space=(a:Int)-(b:Int)):=Hj (by unfold iR;rw[←ha,←hb])
 have hris:=hV.CX
 have HRk1:Hid (∀W,TabAt W gt sh (xs.map fun x=>(x.1,x.2.1))→Calls Tryz.prog 90 #[.pointer (some ⟨gt,0,none⟩),(.string (s0++⟨#[48]⟩))] W fun e w'=>e=.returned (.int .i64 (a:Int))∧W=w'):=Hj fun W ht=>by
  have h:=FC gt (s0++⟨#[48]⟩) sh _ W ht hris (by rw[List.length_map];omega)
  rw[hae] at h
  exact h
 have HRk2:Hid (∀W,TabAt W gt sh (xs.map fun x=>(x.1,x.2.1))→Calls Tryz.prog 90 #[.pointer (some ⟨gt,0,none⟩),(.string s1)] W fun e w'=>e=.returned (.int .i64 (b:Int))∧W=w'):=Hj fun W ht=>by
  have h:=FC gt s1 sh _ W ht hris (by rw[List.length_map];omega)
  rw[hbe] at h
  exact h
 have hwr:IntKind.i64.wrap ((a:Int)-(b:Int))=(a:Int)-(b:Int):=IntWalk.i64_in _ (by omega)
 have hJ0:(0:Int)≤(J:Int):=by omega
 have hJ1:(J:Int)≤(s1.size:Int):=by omega
 clear h hk hs hl hV hxl hs1 hs0 hz1 hz0 hJ hJl hex ha hb hae hbe hal hbl hris
 go_enter Tryz.func58,Tryz.ntmps58
 go_wp2_with (go_at_call 42;(with_reducible refine HR.out.mono ?_);rintro e w2 ⟨rfl,hb2⟩;have HB2:=Hj hb2;have c1:w2.drew.cell? ⟨gs,1,none⟩=some (.pointer (some ⟨gt,0,none⟩)):=(HC.out w2 hb2:w2.cell? _=_);have HT2:Hid (TabAt w2.drew gt sh (xs.map fun x=>(x.1,x.2.1))):=Hj (JI.out w2.drew ⟨hb2.os,hb2.tape,hb2.output,hb2.size,hb2.block⟩);clear hb2)
 refine wp_region_noPanic ?_
 refine wp_region_held_drew (S:=(fun w'=>w'.cell? ⟨gs,1,none⟩=some (.pointer (some ⟨gt,0,none⟩)))) (by kernel_rfl) ?_ (fun hHeld=> ?_)
 ·exact c1
 refine tk 0 hHeld ?_
 try simp only[pa]
 refine tk 1 hHeld ?_
 try simp only[pa]
 refine tk 2 hHeld ?_
 try simp only[pa]
 refine tk 3 hHeld ?_
 try simp only[pa]
 refine tk 4 hHeld ?_
 try simp only[pa]
 refine tk 5 hHeld ?_
 try simp only[pa]
 refine tk 6 hHeld ?_
 try simp only[pa]
 refine tk 7 hHeld ?_
 try simp only[pa]
 refine tk 8 hHeld ?_
 try simp only[pa]
 refine tk 9 hHeld ?_
 try simp only[pa]
 refine tk 11 hHeld ?_
 try simp only[pa]
 refine tk 12 hHeld ?_
 try simp only[pa]
 refine tk 13 hHeld ?_
 try simp only[pa]
 refine tk 14 hHeld ?_
 try simp only[pa]
 refine tk 15 hHeld ?_
 try simp only[pa]
 refine mJ 10 rfl (fun K hK=> ?_)
 go_simp
 refine(HRk1.out w2.drew HT2.out).mono ?_
 rintro e w' ⟨rfl,rfl⟩
 refine hK.out _ _ ?_ (fun hHeld=> ?_)
 ·exact hHeld
 clear hK K
 try simp only[pa]
 refine mJ 16 rfl (fun K hK=> ?_)
 go_simp
 refine(HRk2.out w2.drew HT2.out).mono ?_
 rintro e w' ⟨rfl,rfl⟩
 refine hK.out _ _ ?_ (fun hHeld=> ?_)
 ·exact hHeld
 clear hK K
 try simp only[pa]
 refine tk 17 hHeld ?_
 try simp only[pa]
 refine tk 18 hHeld ?_
 try simp only[pa]
 refine wpAnyH_done (by kernel_rfl) ?_ _
 refine NoPanic.normal ?_
 go_wp2
 go_ret
 exact⟨by rw[HCnt.out];rfl,aV HB2.out⟩
theorem Nr (space:ByteArray) (h:SW w0 w Q g m gs L M) (hs:space.size≤1000) (hl:M.tab.length≤1000000):
  Calls Tryz.prog 78 #[.pointer (some ⟨gs,0,none⟩),.string space] w fun e w'=>e=.returned (.bool (decide (0<iR M 5 space)||decide (0<iR M 6 space)))∧Below w.heap.size w w':=by
 have H5:=Hj (rX 5 space h (by omega) hs hl)
 have H6:Hid (∀W,Below w.heap.size w W→Calls Tryz.prog 58 #[.pointer (some ⟨gs,0,none⟩),.int .i64 6,.string space] W fun e w'=>e=.returned (.int .i64 (iR M 6 space))∧Below W.heap.size W w'):=Hj fun W hW=>rX 6 space (h.below hW) (by omega) hs hl
 generalize iR M 5 space=a at*
 generalize iR M 6 space=b at*
 clear h hs hl
 by_cases ha:0<a
 ·have HR:Hid ((decide (0<a)||decide (0<b))=true):=Hj (by rw[decide_eq_true ha];rfl)
  go_enter Tryz.func78,Tryz.ntmps78
  go_wp2_with (go_at_call 58;(with_reducible refine H5.out.mono ?_);rintro e w2 ⟨rfl,hb2⟩;have HB2:=Hj hb2;clear hb2)
  go_ret
  exact⟨by rw[HR.out];rfl,HB2.out⟩
 ·have HR:Hid ((decide (0<a)||decide (0<b))=decide (0<b)):=Hj (by rw[decide_eq_false ha];rfl)
  have ha2:a≤0:=by omega
  go_enter Tryz.func78,Tryz.ntmps78
  go_wp2_with (first
   | (go_at_call 58;(with_reducible refine H5.out.mono ?_);rintro e w2 ⟨rfl,hb2⟩;have HB2:=Hj hb2;clear hb2)
   | (go_at_call 58;(with_reducible refine(H6.out w2 HB2.out).mono ?_);rintro e w3 ⟨rfl,hb3⟩;have HB3:=Hj (HB2.out.trans (hb3.mono HB2.out.size));clear hb3))
  go_ret
  exact⟨by rw[HR.out];rfl,HB3.out⟩
theorem zW (h:SW w0 w Q g m gs L M):Calls Tryz.prog 12 #[.pointer (some ⟨gs,0,none⟩)] w fun e w'=>e=.returned (.int .i64 (M.rev:Int))∧w=w':=by
 obtain⟨Z,gl,gt,sh,ev,xs,ys,hV,-,-⟩:=h.use
 have c2:=hV.cell.2.2.1
 clear h hV
 go_enter Tryz.func12,Tryz.ntmps12
 go_wp2
 go_ret
 exact⟨rfl,rfl⟩
end
end Go.Proofs.YtdhbpajamlfacaaGreatDoor
