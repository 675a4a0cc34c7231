/- Results that lie in a cell, among others; a row of two cells. -/
import Derived.Test.YtdhbpajamlfacaaGreatDoorBase
import Derived.Test.YtdhbpajamlfacaaGreatDoorOrdSO
import Derived.Laws.ResultCell
import Derived.OneCell
import Derived.RangeFuncBox
import Derived.RangeFuncLeaves
import Derived.RangeFuncKeeps
import Derived.RangeFuncBound
import Derived.Shelf.Abstract
import Derived.WalkKit
import Derived.OwnWalkIn
import Derived.TacticsInMore
import Derived.LoopNIn
import Derived.LoopIn
import Derived.Maps.AppendAt
import Derived.RangeFuncCalls
set_option maxHeartbeats 4000000
set_option maxRecDepth 100000
namespace Go.Proofs.YtdhbpajamlfacaaGreatDoor
open Go.RowKit
section
variable {fn:Func} {p u v:Tmp} {ty:TypeId} (tmps:Array Value) {w:World} {g:Nat} {t:TypeId} {cs:Array Value} {fr:Nat×Nat} {P:Program} {fields:Array Field}
theorem dn (h:fn.results=#[.cell p ty,.tmp u]) (hp:tmps.getD p undef=pt g) (hg:w.heap[g]?=some (.cells cs t fr))
  (hu:P.underlying ty=some (.struct fields)) (hi:(P.info? ty).map (·.size)=some cs.size):
  (results fn tmps).run P w=.ok (.tuple #[.agg cs,tmps.getD u undef]) w:=by
 have hp':tmps[p]?.getD undef=pt g:=by simpa using hp
 simp[results,h,hp',asAddr,run_loadVar_row (P:=P) w g t ty cs fr _ hg hu rfl hi]
theorem ql (h:fn.results=#[.tmp u,.cell p ty,.tmp v]) (hp:tmps.getD p undef=pt g) (hg:w.heap[g]?=some (.cells cs t fr))
  (hu:P.underlying ty=some (.struct fields)) (hi:(P.info? ty).map (·.size)=some cs.size):
  (results fn tmps).run P w=.ok (.tuple #[tmps.getD u undef,.agg cs,tmps.getD v undef]) w:=by
 have hp':tmps[p]?.getD undef=pt g:=by simpa using hp
 simp[results,h,hp',asAddr,run_loadVar_row (P:=P) w g t ty cs fr _ hg hu rfl hi]
end
end Go.Proofs.YtdhbpajamlfacaaGreatDoor
namespace Go.Proofs.YtdhbpajamlfacaaGreatDoor.SO
open Go.RowKit
/-- Block g is a table of shape s with the entries l. -/
def TabAt (w:World) (g:Nat) (s:Code) (l:List (ByteArray×OV)):Prop:=∃p,w.heap[g]?=some (.cells #[.pointer p] 146 (0,0))∧T w s p l
theorem TabAt.below {w w':World} {g:Nat} {s:Code} {l:List (ByteArray×OV)} (a:TabAt w g s l) (hb:Bw w w'):TabAt w' g s l:=by
 obtain⟨p,h1,h2⟩:=a
 exact⟨p,(hb.block g (Cq h1)).trans h1,T.keep h2 (BK.of_below hb)⟩
/-- Blocks that are no nodes may turn. -/
theorem KN.of_fr {S:Nat→Prop} {w w':World} (hf:Fr S w w') (hs:∀(b:Nat) (cs:Array Value),w.heap[b]?=some (.cells cs 164 (0,0))→¬S b):KN w w':=fun b cs hb=>
 (hf.block b (Cq hb) (hs b cs hb)).trans hb
theorem TabAt.fr {S:Nat→Prop} {w w':World} {g:Nat} {s:Code} {l:List (ByteArray×OV)} (a:TabAt w g s l) (hf:Fr S w w') (hg:¬S g) (hs:∀(b:Nat) (cs:Array Value),w.heap[b]?=some (.cells cs 164 (0,0))→¬S b):TabAt w' g s l:=by
 obtain⟨p,h1,h2⟩:=a
 exact⟨p,(hf.block g (Cq h1) hg).trans h1,T.LK h2 (KN.of_fr hf hs)⟩
theorem TabAt.lt {w:World} {g:Nat} {s:Code} {l:List (ByteArray×OV)} (a:TabAt w g s l):g<w.heap.size:=let ⟨_,h1,_⟩:=a;(Cq h1)
theorem TabAt.stored {w:World} {g:Nat} {s:Code} {p q:Option Addr} {l:List (ByteArray×OV)} (h1:w.heap[g]?=some (.cells #[.pointer p] 146 (0,0))) (h2:T w s q l):TabAt (w.setCell ⟨g,0,none⟩ (.pointer q)) g s l:=by
 refine⟨q,one_setCell h1,T.LK h2 fun b cs hb=> ?_⟩
 rw[Below.heap_setCell w ⟨g,0,none⟩ _ b ?_]
 ·exact hb
 ·rintro rfl
  rw[h1] at hb
  injection hb with hb
  injection hb with _ hb _
  exact absurd hb (by decide)
theorem Md (w:World):Cl 28 #[] w fun e w'=>e=.returned (pt w.heap.size)∧TabAt w' w.heap.size .skip []∧Bw w w':=by
 go_enter Tryz.func28,Tryz.ntmps28
 go_wp2
 go_ret
 exact⟨rfl,⟨none,aA w _,Tr.nil _⟩,(aj _ w).alloc Kv _⟩
theorem F6 (g:Nat) (s:Code) (l:List (ByteArray×OV)) (w:World) (a:TabAt w g s l):Cl 44 #[pt g] w fun e w'=>e=.returned (.int .i64 (l.length:Int))∧w=w':=by
 obtain⟨p,h1,h2⟩:=a
 have c0:=cell_of_one h1
 have H2:=Hj h2
 clear h1 h2
 go_enter Tryz.func44,Tryz.ntmps44
 go_wp2_with (go_at_call 92;refine(uP s p l _ H2.out).mono ?_;rintro e w' ⟨rfl,rfl⟩)
 go_ret
 exact⟨rfl,rfl⟩
theorem cells5 {w:World} {b:Nat} {T:TypeId} {fr:Nat×Nat} {c0 c1 c2 c3 c4:Value} (h:w.heap[b]?=some (.cells #[c0,c1,c2,c3,c4] T fr)):w.cell? ⟨b,0,none⟩=some c0∧w.cell? ⟨b,1,none⟩=some c1∧w.cell? ⟨b,2,none⟩=some c2∧w.cell? ⟨b,3,none⟩=some c3∧w.cell? ⟨b,4,none⟩=some c4:=
 ⟨Kq 0 h,Kq 1 h,Kq 2 h,Kq 3 h,Kq 4 h⟩
theorem uT {w:World} {b:Nat} {T:TypeId} {fr:Nat×Nat} {c0 c1 c2 c3 c4 c5 c6:Value} (h:w.heap[b]?=some (.cells #[c0,c1,c2,c3,c4,c5,c6] T fr)):w.cell? ⟨b,0,none⟩=some c0∧w.cell? ⟨b,1,none⟩=some c1∧w.cell? ⟨b,2,none⟩=some c2∧w.cell? ⟨b,3,none⟩=some c3∧w.cell? ⟨b,4,none⟩=some c4∧w.cell? ⟨b,5,none⟩=some c5∧w.cell? ⟨b,6,none⟩=some c6:=
 ⟨Kq 0 h,Kq 1 h,Kq 2 h,Kq 3 h,Kq 4 h,Kq 5 h,Kq 6 h⟩
theorem VB.aK {w:World} {b:Nat} {v:OV} {T:TypeId} {fr:Nat×Nat} (h:w.heap[b]?=some (.cells (ov v) T fr)):VB w b v:=⟨Kq 0 h,Kq 1 h,Kq 2 h,Kq 3 h,Kq 4 h⟩
/-- The box of an object that is an argument. -/
theorem bI (w:World) (v:OV):∃w1,w1=w.alloc (.cells (ov v) 37)∧∃B,B=w.heap.size∧Bw w w1∧w1.heap[B]?=some (.cells (ov v) 37 (0,0)):=
  ⟨_,rfl,_,rfl,(aj w.heap.size w).alloc Kv _,aA w _⟩
theorem VB.all {w1:World} {B:Nat} {v:OV} {T:TypeId} {fr:Nat×Nat} (h:w1.heap[B]?=some (.cells (ov v) T fr)):∀W,Bw w1 W→VB W B v:=
  fun _ hW=>VB.aK ((hW.block B (Cq h)).trans h)
/-- 5 stores into one row. -/
theorem OY {w:World} {B:Nat} {T:TypeId} {c0 c1 c2 c3 c4 x0 x1 x2 x3 x4:Value} (h:w.heap[B]?=some (.cells #[c0,c1,c2,c3,c4] T (0,0))):(((((w.setCell ⟨B,0,none⟩ x0).setCell ⟨B,1,none⟩ x1).setCell ⟨B,2,none⟩ x2).setCell ⟨B,3,none⟩ x3).setCell ⟨B,4,none⟩ x4).heap[B]?=some (.cells #[x0,x1,x2,x3,x4] T (0,0)):=by
 have h0:(w.setCell ⟨B,0,none⟩ x0).heap[B]?=some (.cells #[x0,c1,c2,c3,c4] T (0,0)):=by simpa using aI _ _ 0 _ _ x0 h
 have h1:((w.setCell ⟨B,0,none⟩ x0).setCell ⟨B,1,none⟩ x1).heap[B]?=some (.cells #[x0,x1,c2,c3,c4] T (0,0)):=by simpa using aI _ _ 1 _ _ x1 h0
 have h2:(((w.setCell ⟨B,0,none⟩ x0).setCell ⟨B,1,none⟩ x1).setCell ⟨B,2,none⟩ x2).heap[B]?=some (.cells #[x0,x1,x2,c3,c4] T (0,0)):=by simpa using aI _ _ 2 _ _ x2 h1
 have h3:((((w.setCell ⟨B,0,none⟩ x0).setCell ⟨B,1,none⟩ x1).setCell ⟨B,2,none⟩ x2).setCell ⟨B,3,none⟩ x3).heap[B]?=some (.cells #[x0,x1,x2,x3,c4] T (0,0)):=by simpa using aI _ _ 3 _ _ x3 h2
 have h4:(((((w.setCell ⟨B,0,none⟩ x0).setCell ⟨B,1,none⟩ x1).setCell ⟨B,2,none⟩ x2).setCell ⟨B,3,none⟩ x3).setCell ⟨B,4,none⟩ x4).heap[B]?=some (.cells #[x0,x1,x2,x3,x4] T (0,0)):=by simpa using aI _ _ 4 _ _ x4 h3
 exact h4
theorem MQ {w w':World} {s B:Nat} (h:Below s w w') (hB:s≤B) (x0 x1 x2 x3 x4:Value):Below s w (((((w'.setCell ⟨B,0,none⟩ x0).setCell ⟨B,1,none⟩ x1).setCell ⟨B,2,none⟩ x2).setCell ⟨B,3,none⟩ x3).setCell ⟨B,4,none⟩ x4):=(Below.setCell (Below.setCell (Below.setCell (Below.setCell (Below.setCell h (p:=⟨B,0,none⟩) hB x0) (p:=⟨B,1,none⟩) hB x1) (p:=⟨B,2,none⟩) hB x2) (p:=⟨B,3,none⟩) hB x3) (p:=⟨B,4,none⟩) hB x4)
theorem fr5 (B:Nat) (w:World) (x0 x1 x2 x3 x4:Value):Fr (fun k=>k=B) w (((((w.setCell ⟨B,0,none⟩ x0).setCell ⟨B,1,none⟩ x1).setCell ⟨B,2,none⟩ x2).setCell ⟨B,3,none⟩ x3).setCell ⟨B,4,none⟩ x4):=(Fr.setCell (Fr.setCell (Fr.setCell (Fr.setCell (Fr.setCell (Fr.refl (fun k=>k=B) w) (p:=⟨B,0,none⟩) (fun _=>rfl) x0) (p:=⟨B,1,none⟩) (fun _=>rfl) x1) (p:=⟨B,2,none⟩) (fun _=>rfl) x2) (p:=⟨B,3,none⟩) (fun _=>rfl) x3) (p:=⟨B,4,none⟩) (fun _=>rfl) x4)
/-- 7 stores into one row. -/
theorem st7 {w:World} {B:Nat} {T:TypeId} {c0 c1 c2 c3 c4 c5 c6 x0 x1 x2 x3 x4 x5 x6:Value} (h:w.heap[B]?=some (.cells #[c0,c1,c2,c3,c4,c5,c6] T (0,0))):(((((((w.setCell ⟨B,0,none⟩ x0).setCell ⟨B,1,none⟩ x1).setCell ⟨B,2,none⟩ x2).setCell ⟨B,3,none⟩ x3).setCell ⟨B,4,none⟩ x4).setCell ⟨B,5,none⟩ x5).setCell ⟨B,6,none⟩ x6).heap[B]?=some (.cells #[x0,x1,x2,x3,x4,x5,x6] T (0,0)):=by
 have h0:(w.setCell ⟨B,0,none⟩ x0).heap[B]?=some (.cells #[x0,c1,c2,c3,c4,c5,c6] T (0,0)):=by simpa using aI _ _ 0 _ _ x0 h
 have h1:((w.setCell ⟨B,0,none⟩ x0).setCell ⟨B,1,none⟩ x1).heap[B]?=some (.cells #[x0,x1,c2,c3,c4,c5,c6] T (0,0)):=by simpa using aI _ _ 1 _ _ x1 h0
 have h2:(((w.setCell ⟨B,0,none⟩ x0).setCell ⟨B,1,none⟩ x1).setCell ⟨B,2,none⟩ x2).heap[B]?=some (.cells #[x0,x1,x2,c3,c4,c5,c6] T (0,0)):=by simpa using aI _ _ 2 _ _ x2 h1
 have h3:((((w.setCell ⟨B,0,none⟩ x0).setCell ⟨B,1,none⟩ x1).setCell ⟨B,2,none⟩ x2).setCell ⟨B,3,none⟩ x3).heap[B]?=some (.cells #[x0,x1,x2,x3,c4,c5,c6] T (0,0)):=by simpa using aI _ _ 3 _ _ x3 h2
 have h4:(((((w.setCell ⟨B,0,none⟩ x0).setCell ⟨B,1,none⟩ x1).setCell ⟨B,2,none⟩ x2).setCell ⟨B,3,none⟩ x3).setCell ⟨B,4,none⟩ x4).heap[B]?=some (.cells #[x0,x1,x2,x3,x4,c5,c6] T (0,0)):=by simpa using aI _ _ 4 _ _ x4 h3
 have h5:((((((w.setCell ⟨B,0,none⟩ x0).setCell ⟨B,1,none⟩ x1).setCell ⟨B,2,none⟩ x2).setCell ⟨B,3,none⟩ x3).setCell ⟨B,4,none⟩ x4).setCell ⟨B,5,none⟩ x5).heap[B]?=some (.cells #[x0,x1,x2,x3,x4,x5,c6] T (0,0)):=by simpa using aI _ _ 5 _ _ x5 h4
 have h6:(((((((w.setCell ⟨B,0,none⟩ x0).setCell ⟨B,1,none⟩ x1).setCell ⟨B,2,none⟩ x2).setCell ⟨B,3,none⟩ x3).setCell ⟨B,4,none⟩ x4).setCell ⟨B,5,none⟩ x5).setCell ⟨B,6,none⟩ x6).heap[B]?=some (.cells #[x0,x1,x2,x3,x4,x5,x6] T (0,0)):=by simpa using aI _ _ 6 _ _ x6 h5
 exact h6
theorem bel7 {w w':World} {s B:Nat} (h:Below s w w') (hB:s≤B) (x0 x1 x2 x3 x4 x5 x6:Value):Below s w (((((((w'.setCell ⟨B,0,none⟩ x0).setCell ⟨B,1,none⟩ x1).setCell ⟨B,2,none⟩ x2).setCell ⟨B,3,none⟩ x3).setCell ⟨B,4,none⟩ x4).setCell ⟨B,5,none⟩ x5).setCell ⟨B,6,none⟩ x6):=(Below.setCell (Below.setCell (Below.setCell (Below.setCell (Below.setCell (Below.setCell (Below.setCell h (p:=⟨B,0,none⟩) hB x0) (p:=⟨B,1,none⟩) hB x1) (p:=⟨B,2,none⟩) hB x2) (p:=⟨B,3,none⟩) hB x3) (p:=⟨B,4,none⟩) hB x4) (p:=⟨B,5,none⟩) hB x5) (p:=⟨B,6,none⟩) hB x6)
theorem fr7 (B:Nat) (w:World) (x0 x1 x2 x3 x4 x5 x6:Value):Fr (fun k=>k=B) w (((((((w.setCell ⟨B,0,none⟩ x0).setCell ⟨B,1,none⟩ x1).setCell ⟨B,2,none⟩ x2).setCell ⟨B,3,none⟩ x3).setCell ⟨B,4,none⟩ x4).setCell ⟨B,5,none⟩ x5).setCell ⟨B,6,none⟩ x6):=(Fr.setCell (Fr.setCell (Fr.setCell (Fr.setCell (Fr.setCell (Fr.setCell (Fr.setCell (Fr.refl (fun k=>k=B) w) (p:=⟨B,0,none⟩) (fun _=>rfl) x0) (p:=⟨B,1,none⟩) (fun _=>rfl) x1) (p:=⟨B,2,none⟩) (fun _=>rfl) x2) (p:=⟨B,3,none⟩) (fun _=>rfl) x3) (p:=⟨B,4,none⟩) (fun _=>rfl) x4) (p:=⟨B,5,none⟩) (fun _=>rfl) x5) (p:=⟨B,6,none⟩) (fun _=>rfl) x6)
theorem Xa (g:Nat) (k:ByteArray) (v:OV) (s:Code) (l:List (ByteArray×OV)) (w:World) (a:TabAt w g s l) (sW:aT aS l) (hlen:l.length≤1000000000):
  Cl 84 #[pt g,(.string k),(.agg (ov v))] w fun e w'=>e=.returned (.bool (!(look aS k l).isSome))∧TabAt w' g (lN aS k s l) (ins aS k v l)∧Fr (fun i=>i=g) w w':=by
 obtain⟨w1,hw1⟩:∃W,W=w.alloc (.cells (ov v) 37):=⟨_,rfl⟩
 obtain⟨B,hB⟩:∃B,B=w.heap.size:=⟨_,rfl⟩
 have hb1:=(aj w.heap.size w).alloc Kv (.cells (ov v) 37)
 have hr1:=aA w (.cells (ov v) 37)
 rw[←hw1] at hb1 hr1
 rw[←hB] at hr1
 have HNe:Hid (B≠g):=Hj fun e=>by have:=a.lt;omega
 have HA1:=Hj (a.below hb1)
 obtain⟨p,h1,h2⟩:=a.below hb1
 have c0:=cell_of_one h1
 have H1:=Hj h1
 have H2:=Hj h2
 have HR:=Hj sW
 have HB1:=Hj hb1
 have dZ:=Hj hr1
 have Y9:Hid (VB w1 B v):=Hj (VB.aK hr1)
 have HW1:=Hj hw1
 have kT:=Hj hB
 have HL:Hid ((ins aS k v l).length=if (look aS k l).isSome then l.length else l.length+1):=kC
 clear h1 h2 sW a hb1 hr1 hw1 hB
 go_enter Tryz.func84,Tryz.ntmps84
 go_wp2_with (go_at_call 44;rw[←HW1.out,←kT.out];(with_reducible refine(F6 g s l _ HA1.out).mono ?_);rintro e w' ⟨rfl,rfl⟩)
 try rw[←kT.out]
 refine wp_region_noPanic ?_
 refine wp_region_held_drew (S:=(fun w'=>w'.cell? ⟨B,0,none⟩=some (.int .i64 v.kind)∧w'.cell? ⟨B,1,none⟩=some (.string v.space)∧w'.cell? ⟨B,2,none⟩=some (.string v.name)∧w'.cell? ⟨B,3,none⟩=some (.int .i64 v.ver)∧w'.cell? ⟨B,4,none⟩=some (.slice v.A v.n v.c))) (by kernel_rfl) ?_ (fun hHeld=> ?_)
 ·exact Y9.out
 refine tk 0 hHeld ?_
 try simp only[pa]
 refine tk 1 hHeld ?_
 try simp only[pa]
 refine tk 2 hHeld ?_
 try simp only[pa]
 refine tk 3 hHeld ?_
 try simp only[pa]
 refine tk 5 hHeld ?_
 try simp only[pa]
 refine tk 6 hHeld ?_
 try simp only[pa]
 refine mD 4 rfl (fun K hK=> ?_)
 go_simp
 refine hK.out _ _ ?_ (fun hHeld=> ?_)
 ·exact hHeld
 clear hK K
 try simp only[pa]
 refine mD 7 rfl (fun K hK=> ?_)
 go_simp
 refine(put_T k v _ s p l w1.drew Kv (T.keep H2.out (BK.drew _)) HR.out hlen).mono ?_
 rintro e w5 ⟨q5,rfl,t5,hb5⟩
 have Ws:=Hj ((hb5.block g (Cq H1.out)).trans H1.out)
 have xE:=Hj t5
 have Hb5:Hid (Bw w1 w5):=Hj ⟨hb5.os,hb5.tape,hb5.output,hb5.size,hb5.block⟩
 have Nc:Hid (w5.heap[B]?=some (.cells (ov v) 37 (0,0))):=Hj ((hb5.block B (Cq dZ.out)).trans dZ.out)
 have HV5:Hid (VB w5 B v):=Hj (VB.aK Nc.out)
 have HV6:Hid (∀u,VB (w5.setCell ⟨g,0,none⟩ u) B v):=Hj fun u=>VB.aK ((Below.heap_setCell w5 ⟨g,0,none⟩ u B (fun e=>HNe.out e)).trans Nc.out)
 have cc:=cell_of_one Ws.out
 have ff:=free_of_one Ws.out
 clear t5 hb5
 refine hK.out _ _ ?_ (fun hHeld=> ?_)
 ·exact HV5.out
 clear hK K
 try simp only[pa]
 refine tk 8 hHeld ?_
 try simp only[pa]
 refine tk 9 hHeld ?_
 try simp only[pa]
 refine mD 10 rfl (fun K hK=> ?_)
 go_simp
 refine hK.out _ _ ?_ (fun hHeld=> ?_)
 ·exact HV6.out _
 clear hK K
 try simp only[pa]
 refine wpAnyH_done (by kernel_rfl) ?_ _
 refine NoPanic.normal ?_
 go_wp2_with (go_at_call 44;refine(F6 g (lN aS k s l) (ins aS k v l) _ (TabAt.stored Ws.out xE.out)).mono ?_;rintro e w' ⟨rfl,rfl⟩)
 go_ret
 refine⟨bC ?_,TabAt.stored Ws.out xE.out,(Fr.of_below (S:=fun i=>i=g) (HB1.out.trans (Hb5.out.mono HB1.out.size))).setCell (p:=⟨g,0,none⟩) (fun _=>rfl) _⟩
 rw[HL.out]
 cases (look aS k l).isSome with
 | true=>simp
 | false=>simp
theorem Xb (g:Nat) (k:ByteArray) (s:Code) (l:List (ByteArray×OV)) (w:World) (a:TabAt w g s l) (sW:aT aS l) (hlen:l.length≤1000000000):
  Cl 86 #[pt g,(.string k)] w fun e w'=>e=.returned (.bool (look aS k l).isSome)∧TabAt w' g (delS aS k s l) (rem aS k l)∧Fr (fun i=>i=g) w w':=by
 have HA:=Hj a
 obtain⟨p,h1,h2⟩:=a
 have c0:=cell_of_one h1
 have H1:=Hj h1
 have H2:=Hj h2
 have HR:=Hj sW
 have HL:Hid ((rem aS k l).length=if (look aS k l).isSome then l.length-1 else l.length):=yX
 have HP:Hid ((look aS k l).isSome=true→0<l.length):=fun h0=>by
  cases l with
  | nil=>simp[look] at h0
  | cons e l=>simp
 clear h1 h2 sW
 go_enter Tryz.func86,Tryz.ntmps86
 go_wp2_with (first
  | (go_at_call 44;(with_reducible refine(F6 g s l _ HA.out).mono ?_);rintro e w' ⟨rfl,rfl⟩)
  | (go_at_call 147;refine(del_T k _ s p l _ Kv H2.out HR.out hlen).mono ?_;rintro e w5 ⟨q5,rfl,t5,hb5⟩;have Ws:=Hj ((hb5.block g (Cq H1.out)).trans H1.out);have xE:=Hj t5;have Hb5:=Hj hb5;have cc:=cell_of_one Ws.out;have ff:=free_of_one Ws.out;clear t5 hb5)
  | (go_at_call 44;refine(F6 g (delS aS k s l) (rem aS k l) _ (TabAt.stored Ws.out xE.out)).mono ?_;rintro e w' ⟨rfl,rfl⟩))
 go_ret
 refine⟨bC ?_,TabAt.stored Ws.out xE.out,(Fr.of_below (S:=fun i=>i=g) Hb5.out).setCell (p:=⟨g,0,none⟩) (fun _=>rfl) _⟩
 rw[HL.out]
 have hp:=HP.out
 cases hs:(look aS k l).isSome with
 | true=>have:=hp hs;simp;omega
 | false=>simp
theorem iR:(Tryz.prog.info? 37).map (·.size)=some 5:=by kernel_rfl
theorem kF (g:Nat) (k:ByteArray) (v:OV) (s:Code) (l:List (ByteArray×OV)) (w:World) (a:TabAt w g s l) (sW:aT aS l) (hlk:look aS k l=some v):
  Cl 45 #[pt g,(.string k)] w fun e w'=>e=.returned (.tuple #[(.agg (ov v)),.bool true])∧Bw w w':=by
 have hb1:=(aj w.heap.size w).alloc Kv (.cells #[.int .i64 0,.string ⟨#[]⟩,.string ⟨#[]⟩,.int .i64 0,.slice none 0 0] 37)
 have hr1:=aA w (.cells #[.int .i64 0,.string ⟨#[]⟩,.string ⟨#[]⟩,.int .i64 0,.slice none 0 0] 37)
 obtain⟨p,h1,h2⟩:=a.below hb1
 have c0:=cell_of_one h1
 have HF:=Hj (Q9 k s p l _ h2 sW)
 rw[hlk] at HF
 have HB1:=Hj hb1
 have HR1:=Hj hr1
 clear h1 h2 sW hlk a hb1 hr1
 go_enter Tryz.func45,Tryz.ntmps45
 go_wp2_with (go_at_call 93;refine HF.out.mono ?_;rintro e w' ⟨q,rfl,⟨b,rfl,d0,e1,e2,e3,e4,e5⟩,rfl⟩)
 refine bg (dn _ rfl rfl (aA w _) Tryz.underlying37 iR) rfl ⟨rfl,(aj _ w).alloc Kv _⟩
theorem yJ (g:Nat) (k:ByteArray) (s:Code) (l:List (ByteArray×OV)) (w:World) (a:TabAt w g s l) (sW:aT aS l) (hlk:look aS k l=none):
  Cl 45 #[pt g,(.string k)] w fun e w'=>e=.returned (.tuple #[(.agg #[.int .i64 0,.string ⟨#[]⟩,.string ⟨#[]⟩,.int .i64 0,.slice none 0 0]),.bool false])∧Bw w w':=by
 have hb1:=(aj w.heap.size w).alloc Kv (.cells #[.int .i64 0,.string ⟨#[]⟩,.string ⟨#[]⟩,.int .i64 0,.slice none 0 0] 37)
 have hr1:=aA w (.cells #[.int .i64 0,.string ⟨#[]⟩,.string ⟨#[]⟩,.int .i64 0,.slice none 0 0] 37)
 obtain⟨p,h1,h2⟩:=a.below hb1
 have c0:=cell_of_one h1
 have HF:=Hj (Q9 k s p l _ h2 sW)
 rw[hlk] at HF
 have HB1:=Hj hb1
 have HR1:=Hj hr1
 clear h1 h2 sW hlk a hb1 hr1
 go_enter Tryz.func45,Tryz.ntmps45
 go_wp2_with (go_at_call 93;refine HF.out.mono ?_;rintro e w' ⟨q,rfl,rfl,rfl⟩)
 have h2:=(aj (w.alloc (.cells #[.int .i64 0,.string ⟨#[]⟩,.string ⟨#[]⟩,.int .i64 0,.slice none 0 0] 37)).heap.size (w.alloc (.cells #[.int .i64 0,.string ⟨#[]⟩,.string ⟨#[]⟩,.int .i64 0,.slice none 0 0] 37))).alloc Kv (.cells #[.int .i64 0,.string ⟨#[]⟩,.string ⟨#[]⟩,.int .i64 0,.slice none 0 0] 37)
 refine bg (dn _ rfl rfl ((h2.block w.heap.size (by simp)).trans HR1.out) Tryz.underlying37 iR) rfl ⟨rfl,HB1.out.trans (h2.mono HB1.out.size)⟩
theorem IL (g:Nat) (k:ByteArray) (s:Code) (l:List (ByteArray×OV)) (w:World) (a:TabAt w g s l) (sW:aT aS l) (hlen:l.length≤1000000000):
  Cl 90 #[pt g,(.string k)] w fun e w'=>e=.returned (.int .i64 (rank aS k l:Int))∧w=w':=by
 obtain⟨p,h1,h2⟩:=a
 have c0:=cell_of_one h1
 have H2:=Hj h2
 have HR:=Hj sW
 clear h1 h2 sW
 go_enter Tryz.func90,Tryz.ntmps90
 go_wp2_with fail
 go_loopg [5,6] (sz s) (fun gk s5 s6 wr=>∃(n:Nat) (q:Option Addr) (l':List (ByteArray×OV)) (s':Code),s5=.int .i64 (n:Int)∧s6=.pointer q∧T w s' q l'∧aT aS l'∧n+rank aS k l'=rank aS k l∧n+l'.length≤l.length∧sz s'≤gk∧wr=w)
 case atStart=>exact⟨0,p,l,s,rfl,rfl,H2.out,HR.out,by omega,by omega,bZ _,rfl⟩
 case round=>
  obtain⟨n,q,l',s',rfl,rfl,ht,hr',hrk,hle,hg,rfl⟩:=hrel
  rcases Tr.open ht with ⟨rfl,rfl,rfl⟩ | ⟨b,a,x,pl,pr,ll,lr,sl,sr,rfl,hn,rfl,rfl,al,ar⟩
  ·have Hrk:=Hj hrk
   clear hrk ht hr' hg
   go_wp2
   go_ret
   exact⟨tK (by have:=Hrk.out;simp[rank] at this;rw[rank];omega),rfl⟩
  obtain⟨d0,d1,d2,d3,-,-⟩:=NP.cells hn
  have G1:=Hj al
  have G2:=Hj ar
  have Hrk:=Hj hrk
  have Vu:=Hj hr'
  simp only[List.length_append,List.length_cons] at hle
  simp only[sz] at hg
  clear hrk ht hr' al ar hn
  cases hgt:aS a k with
  | true=>
   have HC:=Hj hgt
   have q2:Op.bytesLess a.toList k.toList=true:=hgt
   clear hgt
   go_wp2_with (go_at_call 92;refine(uP sl pl ll _ G1.out).mono ?_;rintro e w' ⟨rfl,rfl⟩)
   go_roundg (gk-1)
   case measure=>omega
   case rel=>exact⟨n+(ll.length+1),pr,lr,sr,by go_num,rfl,G2.out,Vu.out.right.tail,by rw[←Hrk.out,Jy dh Vu.out HC.out];omega,by omega,by omega,rfl⟩
  | false=>
   have HC:=Hj hgt
   have q2:Op.bytesLess a.toList k.toList=false:=hgt
   clear hgt
   go_wp2
   go_roundg (gk-1)
   case measure=>omega
   case rel=>exact⟨n,pl,ll,sl,rfl,rfl,G1.out,Vu.out.left,by rw[←Hrk.out,NI dh Vu.out HC.out],by omega,by omega,rfl⟩
open Go.Shelf
attribute [local go_sem] Oper.semAt_some
theorem room_of_none {F:Fence} (hd:F.depth=none) (k:Nat):F.room k:=fun d h=>by rw[hd] at h;cases h
theorem RoundIn.anyDepth {F:Fence} (hd:F.depth=none) {m m':Nat} {P:Program} {l:Nat} {f:FuncId} {tmps:Array Value} {assign body:Code} {w:World} {R:Ending→World→Prop}
  (h:RoundIn F m P l f tmps assign body w R):RoundIn F m' P l f tmps assign body w R:=⟨h.1,fun c cs _=>h.2 c cs (room_of_none hd _)⟩
theorem YieldAt.anyDepth {F:Fence} (hd:F.depth=none) {m:Nat} (m':Nat) {P:Program} {l:Nat} {args:Array Value} {W:World} {R:Ending→World→Prop} (h:YieldAt F m P l args W R):YieldAt F m' P l args W R:=by
 obtain⟨fn,tmps,assign,body,hy,hR⟩:=h
 exact⟨fn,tmps,assign,body,hy,RoundIn.anyDepth hd hR⟩
/-- A node that stands in w: its block, its key and value. -/
abbrev Nd (w:World):Type:={x:Nat×(ByteArray×OV) // x.1<w.heap.size∧w.cell? ⟨x.1,0,none⟩=some (.string x.2.1)∧VC w x.1 x.2.2}
/-- The nodes of a tree, from left to right. -/
def XV (w:World):Nat→Option Addr→List (Nd w)→Prop
 | 0,p,ns=>p=none∧ns=[]
 | f+1,p,ns=>(p=none∧ns=[])∨∃(x:Nd w) (pl pr:Option Addr) (nl nr:List (Nd w)),p=some ⟨x.1.1,0,none⟩∧w.cell? ⟨x.1.1,6,none⟩=some (.pointer pl)∧w.cell? ⟨x.1.1,7,none⟩=some (.pointer pr)∧ns=nl++x::nr∧XV w f pl nl∧XV w f pr nr
theorem XV.of_T {w:World}:∀(n:Nat) (s:Code) (p:Option Addr) (l:List (ByteArray×OV)),sz s≤n→T w s p l→∃ns:List (Nd w),ns.map (fun x=>x.1.2)=l∧XV w n p ns:=by
 intro n
 induction n with
 | zero=>
  intro s p l hn a
  rcases Tr.open a with ⟨rfl,rfl,rfl⟩ | ⟨b,k,v,pl,pr,ll,lr,sl,sr,_,_,_,rfl,_,_⟩
  ·exact ⟨[],rfl,rfl,rfl⟩
  ·simp [sz] at hn
 | succ n ih=>
  intro s p l hn a
  rcases Tr.open a with ⟨rfl,rfl,rfl⟩ | ⟨b,k,v,pl,pr,ll,lr,sl,sr,rfl,hn',rfl,rfl,al,ar⟩
  ·exact ⟨[],rfl,.inl ⟨rfl,rfl⟩⟩
  ·simp only[sz] at hn
   obtain⟨nl,e1,t1⟩:=ih _ _ _ (by omega) al
   obtain⟨nr,e2,t2⟩:=ih _ _ _ (by omega) ar
   obtain⟨c0,c1,c2,c3,-,-⟩:=NP.cells hn'
   exact⟨nl++⟨(b,(k,v)),(Cq hn'),c0,c1⟩::nr,by simp[e1,e2],.inr ⟨⟨(b,(k,v)),(Cq hn'),c0,c1⟩,pl,pr,nl,nr,rfl,c2,c3,rfl,t1,t2⟩⟩
theorem walk_in (F:Fence) (hw:Hid (F=Fence.wide)) (hd:F.depth=none) (hF:F.fn 150) (hro:F.round=none) (w:World) (l N:Nat) (J Jx:List (Nd w)→World→Prop)
  (hY:∀m pre x W,J pre W→pre.length<N→YieldAt F m Tryz.prog l #[pt x.1.1] W fun e W'=>
   (e=.returned (.bool true)∧J (pre++[x]) W'∧Below w.heap.size W W')∨(e=.returned (.bool false)∧Jx (pre++[x]) W')):
  ∀(f n:Nat) (p:Option Addr) (ns pre:List (Nd w)) (W:World),XV w f p ns→Bw w W→J pre W→pre.length+ns.length≤N→
   CallsIn F n Tryz.prog 150 #[.pointer p,.func (.yield l) #[] #[]] W fun e W'=>
    (e=.returned (.bool true)∧J (pre++ns) W'∧Below w.heap.size W W')∨(e=.returned (.bool false)∧∃q,q<+:ns∧Jx (pre++q) W'):=by
 have hnil:∀(n:Nat) (pre:List (Nd w)) (W:World),J pre W→CallsIn F n Tryz.prog 150 #[.pointer none,.func (.yield l) #[] #[]] W fun e W'=>
    (e=.returned (.bool true)∧J (pre++[]) W'∧Below w.heap.size W W')∨(e=.returned (.bool false)∧∃q,q<+:([]:List (Nd w))∧Jx (pre++q) W'):=by
  intro n pre W hJ
  have hw':=hw.out
  subst hw'
  refine callsIn_wide.2 ?_
  go_enter Tryz.func150,Tryz.ntmps150
  go_wp2
  go_ret
  exact .inl ⟨rfl,by simpa using hJ,aj _ _⟩
 intro f
 induction f with
 | zero=>
  rintro n p ns pre W ⟨rfl,rfl⟩ _ hJ _
  exact hnil n pre W hJ
 | succ f ih=>
  rintro n p ns pre W (⟨rfl,rfl⟩ | ⟨x,pl,pr,nl,nr,rfl,c2,c3,rfl,tl,tr⟩) hB hJ hN
  ·exact hnil n pre W hJ
  clear hnil
  have hb:=x.2.1
  have hdd:∀k:Nat,(F.depth.isSome=true→1≤k):=fun k h=>by rw[hd] at h;cases h
  simp only[List.length_append,List.length_cons] at hN
  have c2':=(hB.cell (p:=⟨x.1.1,6,none⟩) hb).trans c2
  have hy2:∀W1,J (pre++nl) W1→Below w.heap.size W W1→YieldAt F (n-1) Tryz.prog l #[pt x.1.1] W1 fun e W2=>
    (e=.returned (.bool true)∧J (pre++nl++[x]) W2∧Below w.heap.size W W2∧W2.cell? ⟨x.1.1,7,none⟩=some (.pointer pr))∨(e=.returned (.bool false)∧Jx (pre++nl++[x]) W2):=fun W1 hJ1 hb1=>
   YieldAt.mono (hY (n-1) _ x W1 hJ1 (by simp;omega)) fun e W2 h=>h.elim
    (fun⟨he,hj,hb2⟩=>.inl ⟨he,hj,hb1.trans hb2,(((hB.trans hb1).trans hb2).cell (p:=⟨x.1.1,7,none⟩) hb).trans c3⟩) .inr
  have ih1:=(ih (n-1) pl nl pre W tl hB hJ (by omega)).mono (R':=fun e W1=>
    (e=.returned (.bool true)∧YieldAt F (n-1) Tryz.prog l #[pt x.1.1] W1 fun e W2=>
     (e=.returned (.bool true)∧J (pre++nl++[x]) W2∧Below w.heap.size W W2∧W2.cell? ⟨x.1.1,7,none⟩=some (.pointer pr))∨(e=.returned (.bool false)∧Jx (pre++nl++[x]) W2))∨
    (e=.returned (.bool false)∧∃q,q<+:nl∧Jx (pre++q) W1))
   (fun e W1 h=>h.elim (fun⟨he,hj,hb1⟩=>.inl ⟨he,hy2 W1 hj hb1⟩) .inr)
  have ihr:=fun(W2:World) (hJ2:J (pre++nl++[x]) W2) (hb2:Below w.heap.size W W2)=>ih (n-1) pr nr (pre++nl++[x]) W2 tr (hB.trans hb2) hJ2 (by simp;omega)
  clear hy2 ih
  refine callsIn_of_wp Tryz.func150 rfl hF ?_ hro
  simp only[Tryz.ntmps150,List.size_toArray,List.length_cons,List.length_nil,Nat.reduceAdd,Nat.reduceSub,Array.replicate_succ,Array.replicate_zero,List.push_toArray,List.append_toArray,List.nil_append,List.cons_append]
  gi_wp2_with (first
   | ((try refine⟨hdd _,?_⟩);gi_at_call 150;refine ih1.mono ?_;clear ih1;rintro e W1 (⟨rfl,fn,tmps,assign,body,hy,hR⟩ | ⟨rfl,q,hq,hx1⟩))
   | ((try refine⟨hdd _,?_⟩);refine hR.mono ?_;clear hR;rintro e W2 (⟨rfl,hJ2,hb2,c3'⟩ | ⟨rfl,hx2⟩))
   | ((try refine⟨hdd _,?_⟩);gi_at_call 150;refine(ihr _ hJ2 hb2).mono ?_;clear ihr;rintro e W3 (⟨rfl,hJ3,hb3⟩ | ⟨rfl,q,hq,hx3⟩)))
  ·go_ret
   exact .inl ⟨rfl,by simpa [List.append_assoc] using hJ3,hb2.trans hb3⟩
  ·go_ret
   obtain⟨r,hr'⟩:=hq
   exact .inr ⟨rfl,nl++x::q,⟨r,by simp[←hr']⟩,by simpa [List.append_assoc] using hx3⟩
  ·go_ret
   exact .inr ⟨rfl,nl++[x],⟨nr,by simp⟩,by simpa [List.append_assoc] using hx2⟩
  ·refine ⟨fun _ h=>(by cases h),?_⟩
   gi_wp2
   go_ret
   exact .inr ⟨rfl,q,hq.trans (by simp),hx1⟩
theorem all1_in (F:Fence) (hw:Hid (F=Fence.wide)) (hd:F.depth=none) (n:Nat) (h5:F.fn 149) (h6:F.fn 150) (hro:F.round=none) (w:World) (l Bt g0 f:Nat) (p0:Option Addr) (ns:List (Nd w)) (J Jx:List (Nd w)→World→Prop)
  (hY:∀pre x W,J pre W→pre.length<ns.length→YieldAt F (n-1) Tryz.prog l #[pt x.1.1] W fun e W'=>
   (e=.returned (.bool true)∧J (pre++[x]) W'∧Below w.heap.size W W')∨(e=.returned (.bool false)∧Jx (pre++[x]) W'))
  (W:World) (hBt:W.cell? ⟨Bt,0,none⟩=some (pt g0)) (hg0:W.cell? ⟨g0,0,none⟩=some (.pointer p0)) (hT:XV w f p0 ns) (hB:Bw w W) (h0:J [] W):
  CallsIn F n Tryz.prog 149 #[.func (.yield l) #[] #[],pt Bt] W fun e W'=>(∃v,e=.returned v)∧
   ((∃ys,ys=ns∧J ys W')∨(∃pre,pre<+:ns∧Jx pre W')):=by
 have hdd:∀k:Nat,(F.depth.isSome=true→1≤k):=fun k h=>by rw[hd] at h;cases h
 have hp:=walk_in F hw hd h6 hro w l ns.length J Jx (fun m pre x W hj hl=>YieldAt.anyDepth hd m (hY pre x W hj hl)) f (n-1) p0 ns [] W hT hB h0 (by simp)
 clear hY
 refine callsIn_of_wp Tryz.func149 rfl h5 ?_ hro
 simp only[Tryz.ntmps149,List.size_toArray,List.length_cons,List.length_nil,Nat.reduceAdd,Nat.reduceSub,Array.replicate_succ,Array.replicate_zero,List.push_toArray,List.append_toArray,List.nil_append,List.cons_append]
 gi_wp2_with ((try refine⟨hdd _,?_⟩);gi_at_call 150;refine hp.mono ?_;clear hp;rintro e W1 (⟨rfl,hJ1,_⟩ | ⟨rfl,q,hq,hx⟩))
 ·go_end0
  exact⟨⟨_,rfl⟩,.inl ⟨_,rfl,by simpa using hJ1⟩⟩
 ·go_end0
  exact⟨⟨_,rfl⟩,.inr ⟨q,hq,by simpa using hx⟩⟩
theorem all_in (F:Fence) (n:Nat) (h4:F.fn 95) (hro:F.round=none) (g0:Nat) (w:World):
  CallsIn F n Tryz.prog 95 #[pt g0] w fun e w'=>e=.returned (.func (.func 149) #[] #[pt w.heap.size])∧w'=w.alloc (.cells #[pt g0] 82):=by
 refine callsIn_of_wp Tryz.func95 rfl h4 ?_ hro
 simp only[Tryz.ntmps95,List.size_toArray,List.length_cons,List.length_nil,Nat.reduceAdd,Nat.reduceSub,Array.replicate_succ,Array.replicate_zero,List.push_toArray,List.append_toArray,List.nil_append,List.cons_append]
 gi_wp2
 go_ret
 exact⟨rfl,rfl⟩
/-- t.all() hands out all nodes, in order. -/
theorem all_stops (F:Fence) (hwf:Hid (F=Fence.wide)) (hd:F.depth=none) (n:Nat) (h5:F.fn 149) (h6:F.fn 150) (hro:F.round=none) (w:World) (Bt g0 f:Nat) (p0:Option Addr) (ns:List (Nd w)) (w1:World) (hw:Bw w w1) (hBt:Bt<w1.heap.size)
  (hc:w1.cell? ⟨Bt,0,none⟩=some (pt g0)) (hg:w1.cell? ⟨g0,0,none⟩=some (.pointer p0)) (hT:XV w f p0 ns):
  SeqStopsK F n Tryz.prog 149 #[pt Bt] (fun x:Nd w=>#[Value.pointer (some ⟨x.1.1,0,none⟩)]) (Below w.heap.size) (fun ys=>ys=ns) (fun pre=>pre<+:ns) ns.length w1:=fun l J Jx W hW _ _ hY h0=>
 all1_in F hwf hd n h5 h6 hro w l Bt g0 f p0 ns J Jx hY W ((hW.cell (p:=⟨Bt,0,none⟩) hBt).trans hc) (Kz hW _ _ hg) hT (hw.trans (hW.mono hw.size)) h0
attribute [local go_sem] Oper.semAt_some
theorem dR {F:Fence} {n:Nat} {P:Program} (w:World) {ops:Array Oper} {o:Oper} {a:Act} {K:Act→World→Prop} {Q:Exit→Act→World→Prop} {E:Prop} {tmp:Obj}
  (hg:o.guard=none) (s x:Operand) (t:TypeId) (hop:o.op=Op.call {callee:=Callee.builtin Builtin.append,args:=#[s,x],argTypes:=#[t,t]})
  (base:Nat) (e:TypeId) (i:TypeInfo) (z:Value) (size bytes:Nat) (h1:P.underlying t=some (.slice e)) (h2:P.info? e=some i) (h3:i.zero=some z) (h4:i.size=size) (h5:i.bytes=bytes) (h6:z.cells.size=size) (h7:0<size)
  (v:Value) (k:Nat) (xs:List Value) (hs:a.eval s=v) (hown:w.ownsRow base e size v k xs) (ad:Addr) (m c:Nat) (news:List Value) (hx:a.eval x=.slice (some ad) m c) (hn:news.length=m*size)
  (hc:∀j u,news[j]?=some u→(w.alloc tmp).cell? (ad.add j)=some u) (h1c:∀u∈news,u.oneCell'=true) (b1:k+m≤maxLen) (b2:(k+m)*bytes≤140737488355328) (b3:base≤(w.alloc tmp).heap.size)
  (hK:∀v' w',w'.ownsRow base e size v' (k+m) (xs++news)→(w.alloc tmp).grownBy w' v.ownBlock→K (a.put o.dst v') w'):
  if Region.wanted o (yielded ops a.tmps)=true then Oper.wpIn F n P o a (w.alloc tmp) K Q else E:=by
 rw[aF (by simp[Region.wanted,hg])]
 obtain⟨v',w',hrun,r1,r2,r3⟩:=run_append_own (P:=P) (w.alloc tmp) base t o.type e i z size bytes h1 h2 h3 h4 h5 h6 h7 v k xs (hown.alloc tmp) ad m c news hn hc h1c b1 b2 b3
 unfold Oper.wpIn
 refine⟨?_,?_⟩
 ·simp [Oper.about,hop,resolve,Target.leads,Sem.run_pure]
 ·rw [Oper.semAt_plain F _ _ (by rw[hop];intro c hc';cases hc')]
  simp[execOp,hop,resolve,invoke,builtin,hs,hx,hrun,Result.andThen]
  exact hK v' w' r1 r2
theorem infoK:(Tryz.prog.info? 9).map (fun i=>(i.zero,i.size,i.bytes))=some (some (.string ⟨#[]⟩),1,16):=by kernel_rfl
theorem Wu (F:Fence) (hwf:Hid (F=Fence.wide)) (hd:F.depth=none) (n:Nat) (h3:F.fn 47) (h4:F.fn 95) (h5:F.fn 149) (h6:F.fn 150) (hro:F.round=none) (hn:3≤n) (g0:Nat) (s:Code) (l:List (ByteArray×OV)) (w:World) (a:TabAt w g0 s l) (hlen:l.length≤1000000000):
  CallsIn F n Tryz.prog 47 #[pt g0] w fun e W'=>∃v,e=.returned v∧W'.ownsRow w.heap.size 9 1 v l.length (l.map fun y=>(.string y.1))∧Bw w W':=by
 obtain⟨p0,hg,ht⟩:=a
 obtain⟨ns,hns,hT⟩:=XV.of_T _ s p0 l Kv ht
 obtain⟨f,hf⟩:∃f,f=sz s:=⟨_,rfl⟩
 rw[←hf] at hT
 clear hf
 have hnl:ns.length=l.length:=by rw[←hns];simp
 have Hns:=Hj hns
 have Hnl:=Hj hnl
 have hnl9:ns.length≤1000000000:=by omega
 have hglt:=(Cq hg)
 have h1:1≤n:=by omega
 obtain⟨i0,hi,hz0,hz1,hz2⟩:=info_parts infoK
 clear ht hns hnl
 refine callsIn_of_wp_marks Tryz.func47 rfl h3 ?_ hro
 simp only[Tryz.ntmps47,List.size_toArray,List.length_cons,List.length_nil,Nat.reduceAdd,Nat.reduceSub,Array.replicate_succ,Array.replicate_zero,List.push_toArray,List.append_toArray,List.nil_append,List.cons_append]
 gi_wp2_with (gi_at_call 95;refine(all_in F (n-1) h4 hro _ _).mono ?_;rintro e w' ⟨rfl,rfl⟩)
 have bO:=Boxed.new w 108 (.slice none 0 0)
 have bN:=Boxed.new (w.alloc (.cells #[.slice none 0 0] 108)) 82 (pt g0)
 rw[World.size_alloc] at bN
 have hB0:Bw w ((w.alloc (.cells #[.slice none 0 0] 108)).alloc (.cells #[pt g0] 82)):=((aj _ w).alloc Kv _).alloc (by simp) _
 refine wpIn_rangeFunc_ownG hro h1 (gf:=149) (lb:=#[.pointer (some ⟨w.heap.size+1,0,none⟩)]) rfl h5 (enters_of Tryz.func149 (by kernel_rfl) rfl)
  (all_stops F hwf hd (n-1) h5 h6 hro w (w.heap.size+1) g0 f p0 ns _ hB0 (by simp) bN.cell (Kz hB0 _ _ (cell_of_one hg)) hT) belowK_t (belowK_b (by simp;omega)) (aj _ _) (fun _=>rfl)
  (fun pre W=>(∃v,Boxed W w.heap.size 108 v∧W.ownsRow w.heap.size 9 1 v pre.length (pre.map fun y=>(.string y.1.2.1))∧True)∧Bw w W)
  (fun _ _ _=>False)
  (OwnFrom.and (Own.from (holdsRow_own w.heap.size w.heap.size 108 9 1 (fun pre:List (Nd w)=>pre.length) (fun pre=>pre.map fun y=>(.string y.1.2.1)) (fun _ _=>True)) _) (ownFrom_below Kv (by simp;omega)))
  (fun _ _ _ _ _ hs _ _=>hs)
  ⟨⟨_,bO.alloc _,World.ownsRow_nil _ _ _ _,trivial⟩,hB0⟩
  (fun x=>{tmps:=#[pt g0,undef,.slice none 0 0,pt w.heap.size,pt x.1.1,pt g0,.func (.func 149) #[] #[.pointer (some ⟨w.heap.size+1,0,none⟩)],pt x.1.1,undef,undef,undef,undef,undef,undef,undef,undef],defers:=[]}) ?assign ?body ?done ?stop
 case assign=>
  intro l x W K hK
  gi_wp2
  exact hK
 case body=>
  rintro l pre x W ⟨⟨v,hv,hrow,-⟩,hB⟩ hlt
  have hc:=hv.cell
  have hx:=(hB.cell (p:=⟨x.1.1,0,none⟩) x.2.1).trans x.2.2.1
  have hv0:Boxed W.drew w.heap.size 108 v:=hv
  have hrow0:W.drew.ownsRow w.heap.size 9 1 v pre.length (pre.map fun y=>(.string y.1.2.1)):=hrow
  have hcA:∀o,(W.alloc o).cell? ⟨w.heap.size,0,none⟩=some v:=fun o=>(hv.alloc o).cell
  have hmx:Tryz.prog.follows .mixedOrders=true:=by kernel_rfl
  gi_wp2
  refine wpIn_region_any hmx ?_
  change wpAnyIn _ _ _ _ _ _ _ _ _ (World.drew _)
  refine wpAnyIn_ready (rs:=[0,1]) (by kernel_rfl) (by simp) ?_
  refine AllReadyIn.cons rfl (fun K hK=> ?_) ?_
  ·go_simp
   refine hK _ _ ?_
   clear hK K
   refine wpAnyIn_ready (rs:=[1]) (by kernel_rfl) (by simp) ?_
   refine AllReadyIn.cons rfl (fun K hK=> ?_) AllReadyIn.nil
   go_simp
   refine hK _ _ ?_
   clear hK K
   refine wpAnyIn_ready (rs:=[2]) (by kernel_rfl) (by simp) ?_
   refine AllReadyIn.cons rfl (fun K hK=> ?_) AllReadyIn.nil
   go_simp
   refine hK _ _ ?_
   clear hK K
   refine wpAnyIn_ready (rs:=[3]) (by kernel_rfl) (by simp) ?_
   refine AllReadyIn.cons rfl (fun K hK=> ?_) AllReadyIn.nil
   go_simp
   refine hK _ _ ?_
   clear hK K
   refine wpAnyIn_ready (rs:=[4]) (by kernel_rfl) (by simp) ?_
   refine AllReadyIn.cons rfl (fun K hK=> ?_) AllReadyIn.nil
   go_simp
   refine hK _ _ ?_
   clear hK K
   refine wpAnyIn_ready (rs:=[5]) (by kernel_rfl) (by simp) ?_
   refine AllReadyIn.cons rfl (fun K hK=> ?_) AllReadyIn.nil
   go_simp
   refine hK _ _ ?_
   clear hK K
   refine wpAnyIn_ready (rs:=[6]) (by kernel_rfl) (by simp) ?_
   refine AllReadyIn.cons rfl (fun K hK=> ?_) AllReadyIn.nil
   refine dR W.drew rfl (.tmp 8) (.tmp 13) 108 rfl w.heap.size 9 i0 (.string ⟨#[]⟩) 1 16 Tryz.underlying108 hi hz0 hz1 hz2 rfl (by decide) v pre.length (pre.map fun y=>(.string y.1.2.1)) rfl hrow0 ⟨W.heap.size,0,none⟩ 1 1 [(.string x.1.2.1)] rfl rfl (cell_one_new W.drew _ _) (by simp[Value.oneCell']) (by unfold maxLen;omega) (by omega) (by have:=hB.size;simp;omega) ?_
   intro v' w1 hown' hgrow
   obtain⟨g',cap',rfl⟩:=ownsRow_succ hown'
   obtain⟨hv1,hv2,hr2,hk2,hb2⟩:=hv0.appended (by decide) hrow0 (show w.heap.size≤W.drew.heap.size from hB.size) Kv hown' hgrow
   have hc1:=hv1.cell
   have hf1:=hv1.frozen
   refine hK _ _ ?_
   clear hK K
   refine wpAnyIn_ready (rs:=[7]) (by kernel_rfl) (by simp) ?_
   refine AllReadyIn.cons rfl (fun K hK=> ?_) AllReadyIn.nil
   go_simp
   refine hK _ _ ?_
   clear hK K
   refine wpAnyIn_done (by kernel_rfl) ?_ _
   try gi_wp2
   exact⟨((KeepsOthers.drew W).trans hk2).from _,(bK (aj _ W)).trans hb2,⟨_,hv2,by simpa using hr2⟩,hB.trans ((bK (aj _ W)).trans hb2)⟩
  refine AllReadyIn.cons rfl (fun K hK=> ?_) AllReadyIn.nil
  go_simp
  refine hK _ _ ?_
  clear hK K
  refine wpAnyIn_ready (rs:=[0,2]) (by kernel_rfl) (by simp) ?_
  refine AllReadyIn.cons rfl (fun K hK=> ?_) ?_
  ·go_simp
   refine hK _ _ ?_
   clear hK K
   refine wpAnyIn_ready (rs:=[2]) (by kernel_rfl) (by simp) ?_
   refine AllReadyIn.cons rfl (fun K hK=> ?_) AllReadyIn.nil
   go_simp
   refine hK _ _ ?_
   clear hK K
   refine wpAnyIn_ready (rs:=[3]) (by kernel_rfl) (by simp) ?_
   refine AllReadyIn.cons rfl (fun K hK=> ?_) AllReadyIn.nil
   go_simp
   refine hK _ _ ?_
   clear hK K
   refine wpAnyIn_ready (rs:=[4]) (by kernel_rfl) (by simp) ?_
   refine AllReadyIn.cons rfl (fun K hK=> ?_) AllReadyIn.nil
   go_simp
   refine hK _ _ ?_
   clear hK K
   refine wpAnyIn_ready (rs:=[5]) (by kernel_rfl) (by simp) ?_
   refine AllReadyIn.cons rfl (fun K hK=> ?_) AllReadyIn.nil
   go_simp
   refine hK _ _ ?_
   clear hK K
   refine wpAnyIn_ready (rs:=[6]) (by kernel_rfl) (by simp) ?_
   refine AllReadyIn.cons rfl (fun K hK=> ?_) AllReadyIn.nil
   refine dR W.drew rfl (.tmp 8) (.tmp 13) 108 rfl w.heap.size 9 i0 (.string ⟨#[]⟩) 1 16 Tryz.underlying108 hi hz0 hz1 hz2 rfl (by decide) v pre.length (pre.map fun y=>(.string y.1.2.1)) rfl hrow0 ⟨W.heap.size,0,none⟩ 1 1 [(.string x.1.2.1)] rfl rfl (cell_one_new W.drew _ _) (by simp[Value.oneCell']) (by unfold maxLen;omega) (by omega) (by have:=hB.size;simp;omega) ?_
   intro v' w1 hown' hgrow
   obtain⟨g',cap',rfl⟩:=ownsRow_succ hown'
   obtain⟨hv1,hv2,hr2,hk2,hb2⟩:=hv0.appended (by decide) hrow0 (show w.heap.size≤W.drew.heap.size from hB.size) Kv hown' hgrow
   have hc1:=hv1.cell
   have hf1:=hv1.frozen
   refine hK _ _ ?_
   clear hK K
   refine wpAnyIn_ready (rs:=[7]) (by kernel_rfl) (by simp) ?_
   refine AllReadyIn.cons rfl (fun K hK=> ?_) AllReadyIn.nil
   go_simp
   refine hK _ _ ?_
   clear hK K
   refine wpAnyIn_done (by kernel_rfl) ?_ _
   try gi_wp2
   exact⟨((KeepsOthers.drew W).trans hk2).from _,(bK (aj _ W)).trans hb2,⟨_,hv2,by simpa using hr2⟩,hB.trans ((bK (aj _ W)).trans hb2)⟩
  refine AllReadyIn.cons rfl (fun K hK=> ?_) AllReadyIn.nil
  go_simp
  refine hK _ _ ?_
  clear hK K
  refine wpAnyIn_ready (rs:=[0,3]) (by kernel_rfl) (by simp) ?_
  refine AllReadyIn.cons rfl (fun K hK=> ?_) ?_
  ·go_simp
   refine hK _ _ ?_
   clear hK K
   refine wpAnyIn_ready (rs:=[3]) (by kernel_rfl) (by simp) ?_
   refine AllReadyIn.cons rfl (fun K hK=> ?_) AllReadyIn.nil
   go_simp
   refine hK _ _ ?_
   clear hK K
   refine wpAnyIn_ready (rs:=[4]) (by kernel_rfl) (by simp) ?_
   refine AllReadyIn.cons rfl (fun K hK=> ?_) AllReadyIn.nil
   go_simp
   refine hK _ _ ?_
   clear hK K
   refine wpAnyIn_ready (rs:=[5]) (by kernel_rfl) (by simp) ?_
   refine AllReadyIn.cons rfl (fun K hK=> ?_) AllReadyIn.nil
   go_simp
   refine hK _ _ ?_
   clear hK K
   refine wpAnyIn_ready (rs:=[6]) (by kernel_rfl) (by simp) ?_
   refine AllReadyIn.cons rfl (fun K hK=> ?_) AllReadyIn.nil
   refine dR W.drew rfl (.tmp 8) (.tmp 13) 108 rfl w.heap.size 9 i0 (.string ⟨#[]⟩) 1 16 Tryz.underlying108 hi hz0 hz1 hz2 rfl (by decide) v pre.length (pre.map fun y=>(.string y.1.2.1)) rfl hrow0 ⟨W.heap.size,0,none⟩ 1 1 [(.string x.1.2.1)] rfl rfl (cell_one_new W.drew _ _) (by simp[Value.oneCell']) (by unfold maxLen;omega) (by omega) (by have:=hB.size;simp;omega) ?_
   intro v' w1 hown' hgrow
   obtain⟨g',cap',rfl⟩:=ownsRow_succ hown'
   obtain⟨hv1,hv2,hr2,hk2,hb2⟩:=hv0.appended (by decide) hrow0 (show w.heap.size≤W.drew.heap.size from hB.size) Kv hown' hgrow
   have hc1:=hv1.cell
   have hf1:=hv1.frozen
   refine hK _ _ ?_
   clear hK K
   refine wpAnyIn_ready (rs:=[7]) (by kernel_rfl) (by simp) ?_
   refine AllReadyIn.cons rfl (fun K hK=> ?_) AllReadyIn.nil
   go_simp
   refine hK _ _ ?_
   clear hK K
   refine wpAnyIn_done (by kernel_rfl) ?_ _
   try gi_wp2
   exact⟨((KeepsOthers.drew W).trans hk2).from _,(bK (aj _ W)).trans hb2,⟨_,hv2,by simpa using hr2⟩,hB.trans ((bK (aj _ W)).trans hb2)⟩
  refine AllReadyIn.cons rfl (fun K hK=> ?_) AllReadyIn.nil
  go_simp
  refine hK _ _ ?_
  clear hK K
  refine wpAnyIn_ready (rs:=[0,4]) (by kernel_rfl) (by simp) ?_
  refine AllReadyIn.cons rfl (fun K hK=> ?_) ?_
  ·go_simp
   refine hK _ _ ?_
   clear hK K
   refine wpAnyIn_ready (rs:=[4]) (by kernel_rfl) (by simp) ?_
   refine AllReadyIn.cons rfl (fun K hK=> ?_) AllReadyIn.nil
   go_simp
   refine hK _ _ ?_
   clear hK K
   refine wpAnyIn_ready (rs:=[5]) (by kernel_rfl) (by simp) ?_
   refine AllReadyIn.cons rfl (fun K hK=> ?_) AllReadyIn.nil
   go_simp
   refine hK _ _ ?_
   clear hK K
   refine wpAnyIn_ready (rs:=[6]) (by kernel_rfl) (by simp) ?_
   refine AllReadyIn.cons rfl (fun K hK=> ?_) AllReadyIn.nil
   refine dR W.drew rfl (.tmp 8) (.tmp 13) 108 rfl w.heap.size 9 i0 (.string ⟨#[]⟩) 1 16 Tryz.underlying108 hi hz0 hz1 hz2 rfl (by decide) v pre.length (pre.map fun y=>(.string y.1.2.1)) rfl hrow0 ⟨W.heap.size,0,none⟩ 1 1 [(.string x.1.2.1)] rfl rfl (cell_one_new W.drew _ _) (by simp[Value.oneCell']) (by unfold maxLen;omega) (by omega) (by have:=hB.size;simp;omega) ?_
   intro v' w1 hown' hgrow
   obtain⟨g',cap',rfl⟩:=ownsRow_succ hown'
   obtain⟨hv1,hv2,hr2,hk2,hb2⟩:=hv0.appended (by decide) hrow0 (show w.heap.size≤W.drew.heap.size from hB.size) Kv hown' hgrow
   have hc1:=hv1.cell
   have hf1:=hv1.frozen
   refine hK _ _ ?_
   clear hK K
   refine wpAnyIn_ready (rs:=[7]) (by kernel_rfl) (by simp) ?_
   refine AllReadyIn.cons rfl (fun K hK=> ?_) AllReadyIn.nil
   go_simp
   refine hK _ _ ?_
   clear hK K
   refine wpAnyIn_done (by kernel_rfl) ?_ _
   try gi_wp2
   exact⟨((KeepsOthers.drew W).trans hk2).from _,(bK (aj _ W)).trans hb2,⟨_,hv2,by simpa using hr2⟩,hB.trans ((bK (aj _ W)).trans hb2)⟩
  refine AllReadyIn.cons rfl (fun K hK=> ?_) AllReadyIn.nil
  go_simp
  refine hK _ _ ?_
  clear hK K
  refine wpAnyIn_ready (rs:=[0,5]) (by kernel_rfl) (by simp) ?_
  refine AllReadyIn.cons rfl (fun K hK=> ?_) ?_
  ·go_simp
   refine hK _ _ ?_
   clear hK K
   refine wpAnyIn_ready (rs:=[5]) (by kernel_rfl) (by simp) ?_
   refine AllReadyIn.cons rfl (fun K hK=> ?_) AllReadyIn.nil
   go_simp
   refine hK _ _ ?_
   clear hK K
   refine wpAnyIn_ready (rs:=[6]) (by kernel_rfl) (by simp) ?_
   refine AllReadyIn.cons rfl (fun K hK=> ?_) AllReadyIn.nil
   refine dR W.drew rfl (.tmp 8) (.tmp 13) 108 rfl w.heap.size 9 i0 (.string ⟨#[]⟩) 1 16 Tryz.underlying108 hi hz0 hz1 hz2 rfl (by decide) v pre.length (pre.map fun y=>(.string y.1.2.1)) rfl hrow0 ⟨W.heap.size,0,none⟩ 1 1 [(.string x.1.2.1)] rfl rfl (cell_one_new W.drew _ _) (by simp[Value.oneCell']) (by unfold maxLen;omega) (by omega) (by have:=hB.size;simp;omega) ?_
   intro v' w1 hown' hgrow
   obtain⟨g',cap',rfl⟩:=ownsRow_succ hown'
   obtain⟨hv1,hv2,hr2,hk2,hb2⟩:=hv0.appended (by decide) hrow0 (show w.heap.size≤W.drew.heap.size from hB.size) Kv hown' hgrow
   have hc1:=hv1.cell
   have hf1:=hv1.frozen
   refine hK _ _ ?_
   clear hK K
   refine wpAnyIn_ready (rs:=[7]) (by kernel_rfl) (by simp) ?_
   refine AllReadyIn.cons rfl (fun K hK=> ?_) AllReadyIn.nil
   go_simp
   refine hK _ _ ?_
   clear hK K
   refine wpAnyIn_done (by kernel_rfl) ?_ _
   try gi_wp2
   exact⟨((KeepsOthers.drew W).trans hk2).from _,(bK (aj _ W)).trans hb2,⟨_,hv2,by simpa using hr2⟩,hB.trans ((bK (aj _ W)).trans hb2)⟩
  refine AllReadyIn.cons rfl (fun K hK=> ?_) AllReadyIn.nil
  go_simp
  refine hK _ _ ?_
  clear hK K
  refine wpAnyIn_ready (rs:=[0]) (by kernel_rfl) (by simp) ?_
  refine AllReadyIn.cons rfl (fun K hK=> ?_) AllReadyIn.nil
  go_simp
  refine hK _ _ ?_
  clear hK K
  refine wpAnyIn_ready (rs:=[6]) (by kernel_rfl) (by simp) ?_
  refine AllReadyIn.cons rfl (fun K hK=> ?_) AllReadyIn.nil
  refine dR W.drew rfl (.tmp 8) (.tmp 13) 108 rfl w.heap.size 9 i0 (.string ⟨#[]⟩) 1 16 Tryz.underlying108 hi hz0 hz1 hz2 rfl (by decide) v pre.length (pre.map fun y=>(.string y.1.2.1)) rfl hrow0 ⟨W.heap.size,0,none⟩ 1 1 [(.string x.1.2.1)] rfl rfl (cell_one_new W.drew _ _) (by simp[Value.oneCell']) (by unfold maxLen;omega) (by omega) (by have:=hB.size;simp;omega) ?_
  intro v' w1 hown' hgrow
  obtain⟨g',cap',rfl⟩:=ownsRow_succ hown'
  obtain⟨hv1,hv2,hr2,hk2,hb2⟩:=hv0.appended (by decide) hrow0 (show w.heap.size≤W.drew.heap.size from hB.size) Kv hown' hgrow
  have hc1:=hv1.cell
  have hf1:=hv1.frozen
  refine hK _ _ ?_
  clear hK K
  refine wpAnyIn_ready (rs:=[7]) (by kernel_rfl) (by simp) ?_
  refine AllReadyIn.cons rfl (fun K hK=> ?_) AllReadyIn.nil
  go_simp
  refine hK _ _ ?_
  clear hK K
  refine wpAnyIn_done (by kernel_rfl) ?_ _
  try gi_wp2
  exact⟨((KeepsOthers.drew W).trans hk2).from _,(bK (aj _ W)).trans hb2,⟨_,hv2,by simpa using hr2⟩,hB.trans ((bK (aj _ W)).trans hb2)⟩
 case done=>
  rintro D ys W hD rfl ⟨⟨v,hv,hrow,-⟩,hB⟩ hK
  have hc:=hv.cell
  gi_wp2
  refine⟨by simp,.inl ⟨_,_,rfl,run_takeDeferred hK,?_⟩⟩
  refine⟨_,results_tmp rfl _ _ _,v,rfl,?_,hB.trans (belowK_b (w:=w) Kv W D _ _ (by simp at hD;omega) hK rfl rfl)⟩
  have h:=ownsRow_putObj hrow (.deferred none) hK rfl
  rw[←Hns.out,iH,aX]
  exact h
 case stop=>
  rintro D c pre W _ _ h _
  exact h.elim
/-- Keys: all keys, in order, in a slice of its own. -/
theorem IW (g:Nat) (s:Code) (l:List (ByteArray×OV)) (w:World) (a:TabAt w g s l) (hlen:l.length≤1000000000):
  Cl 47 #[pt g] w fun e w'=>∃v,e=.returned v∧w'.ownsRow w.heap.size 9 1 v l.length (l.map fun y=>(.string y.1))∧Bw w w':=
 callsIn_wide.1 (Wu Fence.wide rfl rfl 3 trivial trivial trivial trivial rfl Kv g s l w a hlen)
end Go.Proofs.YtdhbpajamlfacaaGreatDoor.SO
