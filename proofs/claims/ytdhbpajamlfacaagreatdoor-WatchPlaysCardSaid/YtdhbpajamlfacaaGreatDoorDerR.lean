/- Layer 3 (tlv): lengths read. -/
import Derived.Test.YtdhbpajamlfacaaGreatDoorZeros
import Derived.Test.YtdhbpajamlfacaaGreatDoorWalK
import Derived.Test.YtdhbpajamlfacaaGreatDoorWalG
import Derived.Deep.LoopGhost
import Derived.Test.YtdhbpajamlfacaaGreatDoorTabSO
import Derived.Test.YtdhbpajamlfacaaGreatDoorErrs
import Derived.Deep.RegionLaw
import Derived.Test.YtdhbpajamlfacaaGreatDoorDiskWr
set_option maxHeartbeats 4000000
set_option maxRecDepth 100000
namespace Go.Proofs.YtdhbpajamlfacaaGreatDoor
open Go.RowKit
theorem OB.other {w:World} {B g i:Nat} {v u:Value} {l:List UInt8} {cs:Array Value} {T:TypeId} {fr:Nat×Nat} (h:OB w B v l) (hg:w.heap[g]?=some (.cells cs T fr)) (hT:T≠5):OB (w.setCell ⟨g,i,none⟩ u) B v l:=
 ah.eY h fun k hk=>Below.heap_setCell w ⟨g,i,none⟩ u k fun e=>by
  obtain⟨cur,hcur⟩:=au h hk
  rw[e] at hcur
  exact hT (ak hg hcur)
/-- A cell of an owned row is set. -/
theorem ah.setAt {w:World} {B g o n cap k e size:Nat} {xs:List Value} (y:Value) (h:ah w B e size (.slice (some ⟨g,o,none⟩) n cap) n xs) (_hk:k<xs.length):
  w.frozen? ⟨g,o+k,none⟩=false∧ah (w.setCell ⟨g,o+k,none⟩ y) B e size (.slice (some ⟨g,o,none⟩) n cap) n (xs.set k y):=by
 obtain⟨h1,h2⟩:=h
 rcases h2 with ⟨h2,_⟩ | ⟨g',o',cap',cur,h2,h3,h4,h5,h6,h7,h8⟩
 ·cases h2
 ·injection h2 with e1 e2 e3
  injection e1 with e1
  injection e1 with e4 e5
  subst e4;subst e5;subst e3
  refine⟨Kj h4,by rw[List.length_set];exact h1,.inr ⟨_,_,_,_,rfl,h3,aI _ _ _ _ _ _ h4,h5,h6,by simpa using h7,?_⟩⟩
  rw[Array.toList_setIfInBounds,List.drop_set,aG (by omega),List.take_set,h8,Nat.add_sub_cancel_left]
theorem Qi:(Tryz.prog.info? 287).map (fun i=>(i.zero,i.size,i.bytes))=some (some (.agg #[.int .i64 0,.slice none 0 0]),2,32):=by kernel_rfl
theorem xA {ops:Array Oper} {rest:List Oper} {o:Oper} {a:Act} {w:World} {Q:Exit→Act→World→Prop} (hgd:o.guard=none) (s x:Operand)
  (ho:o.op=.call {callee:=.builtin .append,args:=#[s,x],argTypes:=#[227,227]})
  {base:Nat} {v:Value} {n:Nat} {xs:List Value} (hown:ah w base 287 2 v n xs) (hs:a.eval s=v)
  {xv:Value} {news:List Value} (hsrc:Src Tryz.prog 2 227 xv 1 news w) (hx:a.eval x=xv) (hbytes:n≤1000000) (hbase:base≤w.heap.size)
  (h:∀v' w',ah w' base 287 2 v' (n+1) (xs++news)→w.grownBy w' v.ownBlock→(v'.ownBlock=v.ownBlock∨v'.ownBlock=some w.heap.size)→wpList Tryz.prog ops Q rest (a.put o.dst v') w'):wpList Tryz.prog ops Q (o::rest) a w:=by
 obtain⟨i0,hi,hz0,hz1,hz2⟩:=dO Qi
 exact dw hgd s x 227 227 ho i0 _ 32 Tryz.underlying227 hi hz0 hz1 hz2 rfl (by omega) hs hown xv 1 _ hx hsrc (by unfold maxLen;omega) (by omega) hbase fun v' w' h1 h2 h3=>h v' w' h1 h2 h3
theorem UR (w W:World) (tag:Int) (hW:Keeps (w.alloc (.cells #[.int .i64 tag,.slice none 0 0] 287)) W):Src Tryz.prog 2 227 (.slice (some ⟨w.heap.size,0,none⟩) 1 1) 1 [.int .i64 tag,.slice none 0 0] W:=
 Src.ofSlice _ Tryz.underlying227 _ _ 1 _ rfl (fun j u hu=>hW _ _ (mJ (cs:=#[.int .i64 tag,.slice none 0 0]) (aA w _) j u hu)) (fun u hu=>by
  simp only[List.mem_cons,List.not_mem_nil,or_false] at hu
  rcases hu with rfl | rfl<;>rfl)
/-- A writer, new; a: the world before it was made. -/
structure Wr0 (a w:World) (g:Nat):Prop where
 bel:Bw a w
 up:a.heap.size≤g
 row:w.heap[g]?=some (.cells #[.slice none 0 0,.slice none 0 0,.nilIface] 229 (0,0))
/-- A writer in which a list is under way: what was written into it. -/
structure oI (a w:World) (g q o cq:Nat) (kv:Value) (ws:List (List UInt8×Value)):Prop where
 bel:Bw a w
 up:a.heap.size≤g
 row:w.heap[g]?=some (.cells #[.slice (some ⟨q,o,none⟩) 1 cq,.slice none 0 0,.nilIface] 229 (0,0))
 frm:ah w a.heap.size 287 2 (.slice (some ⟨q,o,none⟩) 1 cq) 1 [.int .i64 48,kv]
 kids:ah w a.heap.size 35 1 kv ws.length (ws.map fun x=>x.2)
 each:∀x∈ws,OB w a.heap.size x.2 x.1
theorem FC {a w:World} {g:Nat} (h:Wr0 a w g):Cl 151 #[pt g,.int .i64 48] w fun e w'=>e=.returned (.tuple #[])∧∃q o cq,oI a w' g q o cq (.slice none 0 0) []:=by
 have HB:=Hj h.bel
 have HU:=Hj h.up
 have dZ:=Hj h.row
 have c0:w.cell? ⟨g,0,none⟩=some (.slice none 0 0):=Kq 0 h.row
 have c2:w.cell? ⟨g,2,none⟩=some .nilIface:=Kq 2 h.row
 have D:=(aj w.heap.size w).alloc Kv (.cells #[.int .i64 48,.slice none 0 0] 287)
 have HD:=Hj D
 have c0a:∀o,(w.alloc o).cell? ⟨g,0,none⟩=some (.slice none 0 0):=fun o=>Kz ((aj w.heap.size w).alloc Kv o) _ _ c0
 have hgl:g<w.heap.size:=(Cq h.row)
 have HGL:=Hj hgl
 clear h D hgl
 go_enter Tryz.func151,Tryz.ntmps151
 go_wp2_with (first
  | (go_at_call 173;((refine(BH w).mono ?_);rintro e w1 ⟨rfl,rfl⟩))
  | (at_builtin;(refine xA rfl (.tmp 8) (.tmp 11) rfl (ah.nil _ a.heap.size _ _) rfl (UR w _ 48 (fun _ _ h=>h)) rfl (by decide) (by have:=HB.out.size;simp;omega) ?_;intro v2 w2 hown2 dQ jZ;rw[dV,fP] at hown2;obtain⟨q,o,cap,e2,hq1,hq2,hcells⟩:=ah.cells hown2 (by decide);subst e2;have O2:=Hj hown2;have B2:Hid (Bw w w2):=Hj (HD.out.grown dQ (by simp) fun k hk=>(by cases hk));have Dt:=(B2.out.block g HGL.out).trans dZ.out;have R2:=Hj Dt;have d0:w2.cell? ⟨g,0,none⟩=some (.slice none 0 0):=Kq 0 Dt;have f0:w2.frozen? ⟨g,0,none⟩=false:=Kj Dt;clear hown2 dQ jZ hcells Dt))
  | fail)
 refine bodyPost_end (fM rfl _ _ _) rfl ⟨rfl,q,o,cap,?_⟩
 have hF:=(Fr.refl (fun k=>k=g) w2).setCell (p:=⟨g,0,none⟩) (fun _=>rfl) (.slice (some ⟨q,o,none⟩) 1 cap)
 have hB2:Bw a w2:=HB.out.trans (B2.out.mono HB.out.size)
 refine⟨hB2.trans (hF.below hB2.size fun k _ e=>by rw[e];exact HU.out),HU.out,aI _ g 0 _ _ _ R2.out,ah.kept O2.out hF fun k hk e=> ?_,ah.nil _ _ _ _,fun x hx=>(by cases hx)⟩
 subst e
 obtain⟨cur,hcur⟩:=au O2.out hk
 exact absurd (ak hcur R2.out) (by decide)
section
variable {a w:World} {g q o cq:Nat} {kv:Value} {ws:List (List UInt8×Value)}
theorem oI.gq (h:oI a w g q o cq kv ws):q≠g:=fun e=>by
 subst e
 obtain⟨cur,hcur⟩:=au h.frm (k:=q) rfl
 exact absurd (ak hcur h.row) (by decide)
theorem oI.cells (h:oI a w g q o cq kv ws):w.cell? ⟨q,o,none⟩=some (.int .i64 48)∧w.cell? ⟨q,o+1,none⟩=some kv:=by
 obtain⟨q',o',c',e,-,-,hc⟩:=ah.cells h.frm (by simp)
 injection e with e1 _ _
 injection e1 with e1
 injection e1 with e2 e3
 subst e2;subst e3
 exact⟨hc 0 _ rfl,hc 1 _ rfl⟩
/-- What stands behind the append; and behind the store. -/
theorem oI.push (h:oI a w g q o cq kv ws) {wa w3:World} {v3 xv:Value} {x:List UInt8} (hb:Bw w wa) (hgr:wa.grownBy w3 kv.ownBlock) (hv:ah w3 a.heap.size 35 1 v3 (ws.length+1) (ws.map (fun x=>x.2)++[xv]))
  (hx:OB wa w.heap.size xv x):w3.cell? ⟨g,0,none⟩=some (.slice (some ⟨q,o,none⟩) 1 cq)∧w3.cell? ⟨q,o+1,none⟩=some kv∧w3.frozen? ⟨q,o+1,none⟩=false∧oI a (w3.setCell ⟨q,o+1,none⟩ v3) g q o cq v3 (ws++[(x,xv)]):=by
 have hF:=(Fr.of_below (S:=fun k=>kv.ownBlock=some k) hb).trans (Fr.bF hgr) (fun q _ hq=>hq.symm)
 have hgl:g<w.heap.size:=(Cq h.row)
 have hgk:kv.ownBlock≠some g:=fun e=>by
  obtain⟨cur,hcur⟩:=au h.kids e
  exact absurd (ak hcur h.row) (by decide)
 have row3:w3.heap[g]?=_:=(hF.block g hgl hgk).trans h.row
 have UU:=ah.kept h.frm hF (fun k hk e=>by
  obtain⟨cur,hcur⟩:=au h.frm hk
  obtain⟨cur',kE⟩:=au h.kids e
  exact absurd (ak hcur kE) (by decide))
 obtain⟨fz,frm4⟩:=ah.setAt (k:=1) v3 UU (by simp)
 have cs:w3.cell? ⟨q,o+1,none⟩=some kv:=by
  obtain⟨q',o',c',e,-,-,hc⟩:=ah.cells UU (by simp)
  injection e with e1 _ _
  injection e1 with e1
  injection e1 with e2 e3
  subst e2;subst e3
  exact hc 1 _ rfl
 have hG:=(Fr.refl (fun k=>k=q) w3).setCell (p:=⟨q,o+1,none⟩) (fun _=>rfl) v3
 have hq:a.heap.size≤q:=(ah.lt h.frm q rfl).1
 have hB3:Bw a w3:=h.bel.trans (hF.below h.bel.size fun i _ e=>(ah.lt h.kids i e).1)
 refine⟨Kq 0 row3,cs,fz,hB3.trans (hG.below hB3.size fun i _ e=>by rw[e];exact hq),h.up,?_,frm4,?_,fun y hy=> ?_⟩
 ·exact (hG.block g (Cq row3) (fun e=>h.gq e.symm)).trans row3
 ·rw [bP,dI]
  refine ah.kept hv hG fun k hk e=> ?_
  subst e
  obtain⟨cur,hcur⟩:=au hv hk
  obtain⟨cur',kE⟩:=au UU (k:=k) rfl
  exact absurd (ak hcur kE) (by decide)
 ·have key:OB w3 a.heap.size y.2 y.1:=by
   rcases iO.1 hy with hy | hy
   ·exact ah.kept (h.each y hy) hF fun k hk e=>by
     obtain⟨cur,hcur⟩:=au (h.each y hy) hk
     obtain⟨cur',kE⟩:=au h.kids e
     exact absurd (ak hcur kE) (by decide)
   ·rw [iq.1 hy]
    refine OB.mono (ah.kept hx (Fr.bF hgr) fun k hk e=> ?_) h.bel.size
    have:=(OB.lt hx k hk).1
    have:=(ah.lt h.kids k e.symm).2
    omega
  refine ah.kept key hG fun k hk e=> ?_
  subst e
  obtain⟨cur,hcur⟩:=au key hk
  obtain⟨cur',kE⟩:=au UU (k:=k) rfl
  exact absurd (ak hcur kE) (by decide)
end
theorem yC {ops:Array Oper} {o:Oper} {a:Act} {w:World} {K:Act→World→Prop} {Q:Exit→Act→World→Prop} {E:Prop} (hgd:o.guard=none) (s x:Operand)
  (ho:o.op=.call {callee:=.builtin .append,args:=#[s,x],argTypes:=#[130,130]})
  {base:Nat} {v:Value} {n:Nat} {ws:List Value} (hown:ah w base 35 1 v n ws) (hs:a.eval s=v)
  {xv y:Value} (hsrc:Src Tryz.prog 1 130 xv 1 [y] w) (hx:a.eval x=xv) (hbytes:n≤1000000) (hbase:base≤w.heap.size)
  (h:∀v' w',ah w' base 35 1 v' (n+1) (ws++[y])→w.grownBy w' v.ownBlock→(v'.ownBlock=v.ownBlock∨v'.ownBlock=some w.heap.size)→K (a.put o.dst v') w'):
  if Region.wanted o (yielded ops a.tmps)=true then Oper.wp Tryz.prog o a w K Q else E:=by
 obtain⟨i0,hi,hz0,hz1,hz2⟩:=dO yD
 exact dA hgd s x 130 130 ho i0 _ 24 Tryz.underlying130 hi hz0 hz1 hz2 rfl (by omega) hs hown xv 1 _ hx hsrc (by unfold maxLen;omega) (by omega) hbase fun v' w' h1 h2 h3=>h v' w' h1 h2 h3
theorem UW {a w:World} {g q o cq:Nat} {kv:Value} {ws:List (List UInt8×Value)} (h:oI a w g q o cq kv ws) (A:Option Addr) (n c:Nat) (x:List UInt8) (hb:RB w A n x) (hn:n≤100000) (hws:ws.length≤1000):
  Cl 249 #[pt g,.slice A n c] w fun e w'=>e=.returned (.tuple #[])∧∃kv' xv,oI a w' g q o cq kv' (ws++[(x,xv)]):=by
 have HWr:=Hj h
 have HN:=Hj hws
 have hcs:=h.cells
 obtain⟨AV,cV,eV,-,-⟩:=ah.form h.kids
 have c1:w.cell? ⟨q,o+1,none⟩=some (.slice AV ws.length cV):=by rw[←eV];exact hcs.2
 have c0:w.cell? ⟨g,0,none⟩=some (.slice (some ⟨q,o,none⟩) 1 cq):=Kq 0 h.row
 have HK:Hid (∀W,Bw w W→W.cell? ⟨g,0,none⟩=some (.slice (some ⟨q,o,none⟩) 1 cq)∧W.cell? ⟨q,o+1,none⟩=some (.slice AV ws.length cV)):=Hj fun W hW=>⟨Kz hW _ _ c0,Kz hW _ _ c1⟩
 have Yy:Hid (∀W,Bw w W→Cl 94 #[.slice A n c] W fun e w'=>∃A' cap,e=.returned (.slice A' x.length cap)∧OB w' W.heap.size (.slice A' x.length cap) x∧Bw W w'):=Hj fun W h=>dU A n c x W (hb.keep (Kz h)) (by omega)
 have w0:IntKind.i64.wrap 0=0:=rfl
 subst eV
 clear h hb hn hws hcs
 go_enter Tryz.func249,Tryz.ntmps249
 go_wp2
 refine wp_region_noPanic ?_
 refine wp_region_held_drew (S:=(fun w'=>w'.cell? ⟨g,0,none⟩=some (.slice (some ⟨q,o,none⟩) 1 cq))) (by kernel_rfl) ?_ (fun hHeld=> ?_)
 ·exact (HK.out _ (kM (aj _ _))).1
 refine tk 0 hHeld ?_
 try simp only[pa]
 refine tk 1 hHeld ?_
 try simp only[pa]
 refine tk 2 hHeld ?_
 try simp only[pa]
 refine tk 3 hHeld ?_
 try simp only[pa]
 refine tk 4 hHeld ?_
 try simp only[pa]
 refine tk 5 hHeld ?_
 try simp only[pa]
 refine tk 6 hHeld ?_
 try simp only[pa]
 refine tk 7 hHeld ?_
 try simp only[pa]
 refine tk 8 hHeld ?_
 try simp only[pa]
 refine tk 9 hHeld ?_
 try simp only[pa]
 refine tk 10 hHeld ?_
 try simp only[pa]
 refine tk 11 hHeld ?_
 try simp only[pa]
 refine tk 12 hHeld ?_
 try simp only[pa]
 refine tk 13 hHeld ?_
 try simp only[pa]
 refine tk 15 hHeld ?_
 try simp only[pa]
 refine PO 14 16 rfl rfl (fun K hK=> ?_) (fun K hK=> ?_)
 focus
  go_simp
  refine hK.out _ _ ?_ (fun hHeld=> ?_)
  ·first | exact hHeld | assumption
  clear hK K
  try simp only[pa]
  refine mD 16 rfl (fun K hK=> ?_)
  go_simp
  (with_reducible refine(Yy.out w.drew (kM (aj _ _))).mono ?_)
  rintro e w2 ⟨A2,k2,rfl,ho2,hb2⟩
  have B2:Hid (Bw w w2):=Hj (Below.fZ hb2)
  obtain⟨x0,x1⟩:=HK.out w2 B2.out
  have D6:=(aj w2.heap.size w2).alloc Kv (.cells #[.slice A2 x.length k2] 35)
  have B6:=Hj (B2.out.trans (D6.mono B2.out.size))
  obtain⟨y0,y1⟩:=HK.out _ B6.out
  have O6:=Hj ((show OB w2 w.heap.size _ _ from ho2).below D6)
  clear ho2 hb2 D6
  refine hK.out _ _ ?_ (fun hHeld=> ?_)
  ·exact x0
  clear hK K
  try simp only[pa]
  refine mD 17 rfl (fun K hK=> ?_)
  go_simp
  refine hK.out _ _ ?_ (fun hHeld=> ?_)
  ·exact y0
 rotate_right
 focus
  go_simp
  (with_reducible refine(Yy.out w.drew (kM (aj _ _))).mono ?_)
  rintro e w2 ⟨A2,k2,rfl,ho2,hb2⟩
  have B2:Hid (Bw w w2):=Hj (Below.fZ hb2)
  obtain⟨x0,x1⟩:=HK.out w2 B2.out
  have D6:=(aj w2.heap.size w2).alloc Kv (.cells #[.slice A2 x.length k2] 35)
  have B6:=Hj (B2.out.trans (D6.mono B2.out.size))
  obtain⟨y0,y1⟩:=HK.out _ B6.out
  have O6:=Hj ((show OB w2 w.heap.size _ _ from ho2).below D6)
  clear ho2 hb2 D6
  refine hK.out _ _ ?_ (fun hHeld=> ?_)
  ·exact x0
  clear hK K
  try simp only[pa]
  refine PO 14 17 rfl rfl (fun K hK=> ?_) (fun K hK=> ?_)
  focus
   go_simp
   refine hK.out _ _ ?_ (fun hHeld=> ?_)
   ·first | exact hHeld | assumption
   clear hK K
   try simp only[pa]
   refine mD 17 rfl (fun K hK=> ?_)
   go_simp
   refine hK.out _ _ ?_ (fun hHeld=> ?_)
   ·exact y0
  rotate_right
  focus
   go_simp
   refine hK.out _ _ ?_ (fun hHeld=> ?_)
   ·exact y0
   clear hK K
   try simp only[pa]
   refine mD 14 rfl (fun K hK=> ?_)
   go_simp
   refine hK.out _ _ ?_ (fun hHeld=> ?_)
   ·first | exact hHeld | assumption
 all_goals
  clear hK K
  try simp only[pa]
  refine mD 18 rfl (fun K hK=> ?_)
  refine yC rfl (.tmp 26) (.tmp 29) (by rfl) (HWr.out.kids.below B6.out) (by rfl) (Src.one w2 _ A2 x.length k2 1 (fun _ _ h=>h)) (by rfl) (by have:=HN.out;omega) (Cz HWr.out.bel.size B6.out.size) ?_
  intro v7 w7 aU cu tX
  obtain⟨A7,c7,rfl,-,-⟩:=ah.form aU
  obtain⟨z0,z1,zf,hz⟩:=HWr.out.push B6.out cu aU O6.out
  have HZ:=Hj hz
  have HZ0:=Hj (show (w7.setCell ⟨q,o+1,none⟩ (.slice A7 (ws.length+1) c7)).cell? ⟨g,0,none⟩=some (.slice (some ⟨q,o,none⟩) 1 cq) from Kq 0 hz.row)
  clear aU cu tX hz
  refine hK.out _ _ ?_ (fun hHeld=> ?_)
  ·exact z0
  clear hK K
  try simp only[pa]
  refine tk 19 hHeld ?_
  try simp only[pa]
  refine tk 20 hHeld ?_
  try simp only[pa]
  refine mD 21 rfl (fun K hK=> ?_)
  go_simp
  refine hK.out _ _ ?_ (fun hHeld=> ?_)
  ·exact HZ0.out
  clear hK K
  try simp only[pa]
  refine wpAnyH_done (by kernel_rfl) ?_ _
  refine NoPanic.normal ?_
  go_wp2
  exact bg (fM rfl _ _ _) rfl ⟨rfl,_,_,HZ.out⟩
theorem Du {w:World} {g i:Nat} {cur:Array Value} {T:TypeId} {fr:Nat×Nat} {v:Value} (hg:w.heap[g]?=some (.cells cur T fr)) (hv:cur[i]?=some v):w.setCell ⟨g,i,none⟩ v=w:=by
 have hcur:cur.setIfInBounds i v=cur:=by
  apply Array.ext_getElem?
  intro k
  rw[Array.getElem?_setIfInBounds]
  split
  ·rename_i e
   subst e
   split
   ·exact hv.symm
   ·rename_i h
    rw[Array.getElem?_eq_none (by omega)]
  ·rfl
 have hh:(w.setCell ⟨g,i,none⟩ v).heap=w.heap:=by
  apply Array.ext_getElem?
  intro k
  unfold World.setCell
  rw[Array.getElem?_modify]
  split
  ·rename_i e
   subst e
   simp[hg,hcur]
  ·rfl
 cases w
 unfold World.setCell at hh ⊢
 simp only at hh ⊢
 rw[hh]
theorem Qj {w:World} {g:Nat} {cur:Array Value} (hg:w.heap[g]?=some (.cells cur 229 (0,0))) (hv:cur[2]?=some .nilIface):
  Cl 248 #[pt g,.nilIface] w fun e w'=>e=.returned (.tuple #[])∧w=w':=by
 have c2:w.cell? ⟨g,2,none⟩=some .nilIface:=(Kq 2 hg).trans hv
 have f2:w.frozen? ⟨g,2,none⟩=false:=Kj hg
 have HS:=Hj (Du hg hv)
 clear hg hv
 go_enter Tryz.func248,Tryz.ntmps248
 go_wp2
 exact bodyPost_end (fM rfl _ _ _) rfl ⟨rfl,HS.out.symm⟩
/-- put, whatever add does then. -/
theorem KU {w:World} {g:Nat} {cur:Array Value} {R:Ending→World→Prop} (tag:Nat) (A:Option Addr) (m c:Nat) (body:List UInt8) (hg:w.heap[g]?=some (.cells cur 229 (0,0))) (hv:cur[2]?=some .nilIface)
  (ht:Tag (tag:Int)) (htl:tag<256) (hb:RB w A m body) (hmc:m≤c) (hc:c≤maxLen) (hm:m≤65530)
  (hadd:∀W A' n' c',Bw w W→RB W A' n' (bG tag body)→n'≤c'→c'≤maxLen→Cl 249 #[pt g,.slice A' n' c'] W fun e w'=>e=.returned (.tuple #[])∧R e w'):
  Cl 206 #[pt g,.int .i64 (tag:Int),.slice A m c,.nilIface] w fun e w'=>e=.returned (.tuple #[])∧R e w':=by
 have c2:w.cell? ⟨g,2,none⟩=some .nilIface:=(Kq 2 hg).trans hv
 have HF:=Hj (Qj hg hv)
 have HP:=Hj (KO tag A m c body w ht htl hb hmc hc hm)
 have HA:=Hj hadd
 clear hg hv ht htl hb hmc hc hm hadd
 go_enter Tryz.func206,Tryz.ntmps206
 go_wp2_with (first
  | (go_at_call 248;((refine HF.out.mono ?_);rintro e w1 ⟨rfl,rfl⟩))
  | (go_at_call 107;((refine HP.out.mono ?_);rintro e w2 ⟨A2,k2,rfl,ho2,hb2⟩;have hr2:=OB.form ho2;obtain⟨A3,k3,e3,h31,h32,h33⟩:=hr2;injection e3 with e4 _ e5;subst e4;subst e5;have HA2:=Hj (HA.out w2 A2 _ _ hb2 h33 h31 h32);clear h31 h32 h33 ho2 hb2))
  | (go_at_call 249;((refine HA2.out.mono ?_);rintro e w3 ⟨rfl,hr3⟩;have R3:=Hj hr3;clear hr3))
  | fail)
 exact bodyPost_end (fM rfl _ _ _) rfl ⟨rfl,R3.out⟩
section
variable {a w:World} {g q o cq:Nat} {kv:Value} {ws:List (List UInt8×Value)}
theorem oI.below (h:oI a w g q o cq kv ws) {W:World} (hb:Bw w W):oI a W g q o cq kv ws:=
 ⟨h.bel.trans (hb.mono h.bel.size),h.up,(hb.block g (Cq h.row)).trans h.row,h.frm.below hb,h.kids.below hb,fun x hx=>(h.each x hx).below hb⟩
theorem Fv (tag:Nat) {b:List UInt8} (h:b.length≤65530):(bG tag b).length≤100000:=by
 have:=oG tag b (by omega)
 omega
theorem Dv (h:oI a w g q o cq kv ws) (tag:Nat) (A:Option Addr) (m c:Nat) (body:List UInt8) (ht:Tag (tag:Int)) (htl:tag<256) (hb:RB w A m body) (hmc:m≤c) (hc:c≤maxLen) (hm:m≤65530) (hws:ws.length≤1000):
  Cl 206 #[pt g,.int .i64 (tag:Int),.slice A m c,.nilIface] w fun e w'=>e=.returned (.tuple #[])∧∃kv' xv,oI a w' g q o cq kv' (ws++[(bG tag body,xv)]):=
 KU (R:=fun _ w'=>∃kv' xv,oI a w' g q o cq kv' (ws++[(bG tag body,xv)])) tag A m c body h.row rfl ht htl hb hmc hc hm fun W A' n' c' hW hA _ _=>
  UW (h.below hW) A' n' c' _ hA (by rw[←hA.1];exact Fv tag (by rw[hb.1];exact hm)) hws
theorem oJ (h:oI a w g q o cq kv ws) (A:Option Addr) (m c:Nat) (body:List UInt8) (hb:RB w A m body) (hmc:m≤c) (hc:c≤maxLen) (hm:m≤65530) (hws:ws.length≤1000):
  Cl 153 #[pt g,.slice A m c] w fun e w'=>e=.returned (.tuple #[])∧∃kv' xv,oI a w' g q o cq kv' (ws++[(bG 4 body,xv)]):=by
 have HP:Hid (Cl 206 #[pt g,.int .i64 4,.slice A m c,.nilIface] w fun e w'=>e=.returned (.tuple #[])∧∃kv' xv,oI a w' g q o cq kv' (ws++[(bG 4 body,xv)])):=Hj (Dv h 4 A m c body (.inr (by simp[oK])) (by decide) hb hmc hc hm hws)
 clear h hb hmc hc hm hws
 go_enter Tryz.func153,Tryz.ntmps153
 go_wp2_with (first
  | (go_at_call 206;((refine HP.out.mono ?_);rintro e w1 ⟨rfl,hr⟩;have R1:=Hj hr;clear hr))
  | fail)
 exact bodyPost_end (fM rfl _ _ _) rfl ⟨rfl,R1.out⟩
theorem uj (h:oI a w g q o cq kv ws) (n:Nat) (hn:n<4611686018427387904) (hws:ws.length≤1000):
  Cl 152 #[pt g,.int .i64 (n:Int)] w fun e w'=>e=.returned (.tuple #[])∧∃kv' xv,oI a w' g q o cq kv' (ws++[(bG 10 (dY n),xv)]):=by
 have hL:(dY n).length≤9:=by unfold dY;rw[List.length_reverse];exact uh 8 (by omega)
 have HW:=Hj (uX n w hn)
 have HP:Hid (∀W A c,Bw w W→OB W w.heap.size (.slice A (dY n).length c) (dY n)→Cl 206 #[pt g,.int .i64 10,.slice A (dY n).length c,.nilIface] W fun e w'=>e=.returned (.tuple #[])∧∃kv' xv,oI a w' g q o cq kv' (ws++[(bG 10 (dY n),xv)])):=Hj fun W A c hW ho=>by
  obtain⟨A',c',e,h1,h2,h3⟩:=OB.form ho
  injection e with e1 _ e3
  subst e1;subst e3
  exact Dv (h.below hW) 10 A _ c (dY n) (.inr (by simp[oK])) (by decide) h3 h1 h2 (by omega) hws
 clear h hws hL hn
 go_enter Tryz.func152,Tryz.ntmps152
 go_wp2_with (first
  | (go_at_call 134;((refine HW.out.mono ?_);rintro e w1 ⟨A1,c1,rfl,ho1,hb1⟩;have P1:=Hj (HP.out w1 A1 c1 hb1 ho1);clear ho1 hb1))
  | (go_at_call 206;((refine P1.out.mono ?_);rintro e w2 ⟨rfl,hr⟩;have R1:=Hj hr;clear hr))
  | fail)
 exact bodyPost_end (fM rfl _ _ _) rfl ⟨rfl,R1.out⟩
theorem La (h:oI a w g q o cq kv ws) (n:Nat) (hn:n<4611686018427387904) (hws:ws.length≤1000):
  Cl 154 #[pt g,.int .i64 (n:Int)] w fun e w'=>e=.returned (.tuple #[])∧∃kv' xv,oI a w' g q o cq kv' (ws++[(bG 2 (dY n),xv)]):=by
 have hL:(dY n).length≤9:=by unfold dY;rw[List.length_reverse];exact uh 8 (by omega)
 have HW:=Hj (uX n w hn)
 have HP:Hid (∀W A c,Bw w W→OB W w.heap.size (.slice A (dY n).length c) (dY n)→Cl 206 #[pt g,.int .i64 2,.slice A (dY n).length c,.nilIface] W fun e w'=>e=.returned (.tuple #[])∧∃kv' xv,oI a w' g q o cq kv' (ws++[(bG 2 (dY n),xv)])):=Hj fun W A c hW ho=>by
  obtain⟨A',c',e,h1,h2,h3⟩:=OB.form ho
  injection e with e1 _ e3
  subst e1;subst e3
  exact Dv (h.below hW) 2 A _ c (dY n) (.inr (by simp[oK])) (by decide) h3 h1 h2 (by omega) hws
 clear h hws hL hn
 go_enter Tryz.func154,Tryz.ntmps154
 go_wp2_with (first
  | (go_at_call 134;((refine HW.out.mono ?_);rintro e w1 ⟨A1,c1,rfl,ho1,hb1⟩;have P1:=Hj (HP.out w1 A1 c1 hb1 ho1);clear ho1 hb1))
  | (go_at_call 206;((refine P1.out.mono ?_);rintro e w2 ⟨rfl,hr⟩;have R1:=Hj hr;clear hr))
  | fail)
 exact bodyPost_end (fM rfl _ _ _) rfl ⟨rfl,R1.out⟩
end
section
variable {a w:World} {g:Nat} {lv:Value} {ls pre:List (List UInt8×Value)}
end
section
variable {a w:World} {g:Nat} {lv:Value} {pre:List (List UInt8×Value)} {rest:List UInt8}
end
/-- A writer whose list was taken off; what is done lies in dv. -/
structure KR (a w:World) (g q o cq:Nat) (dv:Value) (d:List UInt8):Prop where
 bel:Bw a w
 up:a.heap.size≤g
 row:w.heap[g]?=some (.cells #[.slice (some ⟨q,o,none⟩) 0 cq,dv,.nilIface] 229 (0,0))
 done:OB w a.heap.size dv d
section
variable {a w:World} {g q o cq:Nat} {kv dv:Value} {ws:List (List UInt8×Value)} {d:List UInt8}
theorem KR.below (h:KR a w g q o cq dv d) {W:World} (hb:Bw w W):KR a W g q o cq dv d:=
 ⟨h.bel.trans (hb.mono h.bel.size),h.up,(hb.block g (Cq h.row)).trans h.row,h.done.below hb⟩
theorem Qc (h:KR a w g q o cq dv d) (A:Option Addr) (n c:Nat) (x:List UInt8) (hb:RB w A n x) (hd:d.length≤1000000) (hn:n≤1000000):
  Cl 249 #[pt g,.slice A n c] w fun e w'=>e=.returned (.tuple #[])∧∃Xp,KR a w' g q o cq Xp (d++x):=by
 have HB:=Hj hb
 have HW:=Hj h
 have HN:=Hj (aB hd hn)
 have c0:w.cell? ⟨g,0,none⟩=some (.slice (some ⟨q,o,none⟩) 0 cq):=Kq 0 h.row
 obtain⟨AD,cD,eD,-,-,-⟩:=OB.form h.done
 subst eD
 have c1:w.cell? ⟨g,1,none⟩=some (.slice AD d.length cD):=Kq 1 h.row
 clear h hb hd hn
 go_enter Tryz.func249,Tryz.ntmps249
 go_wp2_with (first
  | (at_builtin;(refine aN rfl (.tmp 37) (.tmp 38) 35 rfl HW.out.done rfl (RB.src Tryz.underlying35 HB.out) rfl (by have:=HN.out;have:=HB.out.1;omega) HW.out.bel.size ?_;intro v2 w2 hown2 dQ jZ;obtain⟨A2,c2,e2,-,-,-⟩:=OB.form hown2;subst e2;have O2:=Hj hown2;have hB2:Fr (fun k=>(Value.slice AD d.length cD).ownBlock=some k) w w2:=(Fr.bF dQ).mono (fun k _ hk=>hk.symm);have hgk:(Value.slice AD d.length cD).ownBlock≠some g:=(fun e=>by obtain⟨cur,hcur⟩:=au HW.out.done e;exact absurd (ak hcur HW.out.row) (by decide));have Dt:w2.heap[g]?=some (.cells #[.slice (some ⟨q,o,none⟩) 0 cq,.slice AD d.length cD,.nilIface] 229 (0,0)):=(hB2.block g (Cq HW.out.row) hgk).trans HW.out.row;have R2:=Hj Dt;have F2:=Hj hB2;have d1:w2.cell? ⟨g,1,none⟩=some (.slice AD d.length cD):=Kq 1 Dt;have f1:w2.frozen? ⟨g,1,none⟩=false:=Kj Dt;clear hown2 dQ jZ hB2 hgk Dt))
  | fail)
 refine bodyPost_end (fM rfl _ _ _) rfl ⟨rfl,.slice A2 (d++x).length c2,?_⟩
 rw[←bP]
 have hG:=(Fr.refl (fun k=>k=g) w2).setCell (p:=⟨g,1,none⟩) (fun _=>rfl) (.slice A2 (d++x).length c2)
 have hB3:Bw a w2:=HW.out.bel.trans (F2.out.below HW.out.bel.size fun i _ e=>(ah.lt HW.out.done i e).1)
 refine⟨hB3.trans (hG.below hB3.size fun i _ e=>by rw[e];exact HW.out.up),HW.out.up,aI _ g 1 _ _ _ R2.out,ah.kept O2.out hG fun k hk e=> ?_⟩
 subst e
 obtain⟨cur,hcur⟩:=au O2.out hk
 exact absurd (ak hcur R2.out) (by decide)
theorem Qe (h:KR a w g q o cq (.slice none 0 0) []) (tag:Nat) (A:Option Addr) (m c:Nat) (body:List UInt8) (ht:Tag (tag:Int)) (htl:tag<256) (hb:RB w A m body) (hmc:m≤c) (hc:c≤maxLen) (hm:m≤65530):
  Cl 206 #[pt g,.int .i64 (tag:Int),.slice A m c,.nilIface] w fun e w'=>e=.returned (.tuple #[])∧∃Xp,KR a w' g q o cq Xp (bG tag body):=
 KU (R:=fun _ w'=>∃Xp,KR a w' g q o cq Xp (bG tag body)) tag A m c body h.row rfl ht htl hb hmc hc hm fun W A' n' c' hW hA _ _=>
  Qc (h.below hW) A' n' c' _ hA (by simp) (by rw[←hA.1];have:=Fv tag (b:=body) (by rw[hb.1];exact hm);omega)
/-- The kids as a list of bytes' slices. -/
theorem Qg {B:Nat} (hk:ah w B 35 1 kv ws.length (ws.map fun x=>x.2)) (he:∀x∈ws,OB w B x.2 x.1):∃A c,kv=.slice A ws.length c∧ws.length≤c∧c≤maxLen∧EO w A ws.length (ws.map fun x=>x.1):=by
 obtain⟨A,c,e,h1,h2⟩:=ah.form hk
 refine⟨A,c,e,h1,h2,by simp,fun hn=> ?_⟩
 obtain⟨q',o',c',e',-,-,hc⟩:=ah.cells hk (by simpa using hn)
 rw[e] at e'
 injection e' with e1 _ _
 refine⟨q',o',e1,fun k hk=>⟨(ws[k]).2,hc k _ (by simp[hk]),?_⟩⟩
 have:=(he ws[k] (List.getElem_mem hk)).sb
 rw[show ((ws.map fun x=>x.1).getD k [])=(ws[k]).1 by simp[hk]]
 exact this
theorem Qh (Fz:Int) (htg:(Fz==49)=false) (A:Option Addr) (n c:Nat) (ls:List (List UInt8)) (w:World) (hl:EO w A n ls) (hn:n≤maxLen) (hlen:ls.flatten.length≤1000000000):
  Cl 207 #[.agg #[.int .i64 Fz,.slice A n c]] w fun e w'=>∃v,e=.returned v∧OB w' w.heap.size v ls.flatten∧Bw w w':=by
 obtain⟨wb,hwb⟩:∃W,W=w.alloc (.cells #[.int .i64 Fz,.slice A n c] 287):=⟨_,rfl⟩
 have hbb:=(aj w.heap.size w).alloc Kv (.cells #[.int .i64 Fz,.slice A n c] 287)
 have hrow:=aA w (.cells #[.int .i64 Fz,.slice A n c] 287)
 have c0:(w.alloc (.cells #[.int .i64 Fz,.slice A n c] 287)).cell? ⟨w.heap.size,0,none⟩=some (.int .i64 Fz):=Kq 0 hrow
 have c1:(w.alloc (.cells #[.int .i64 Fz,.slice A n c] 287)).cell? ⟨w.heap.size,1,none⟩=some (.slice A n c):=Kq 1 hrow
 have HC:=Hj (oH A n c ls _ (hl.keep (Kz hbb)) hn hlen)
 have HB:=Hj hbb
 clear hbb hrow hl hn hlen
 go_enter Tryz.func207,Tryz.ntmps207
 go_wp2_with (first
  | (go_at_call 169;((refine HC.out.mono ?_);rintro e w2 ⟨v2,rfl,ho2,hb2⟩;have O2:=Hj ho2;have B2:=Hj hb2;clear ho2 hb2))
  | fail)
 go_ret
 exact⟨v2,rfl,OB.mono O2.out HB.out.size,HB.out.trans (B2.out.mono HB.out.size)⟩
theorem FB (h:KR a w g q o cq dv d) (hd:d.length≤65536):
  Cl 156 #[pt g] w fun e w'=>∃A c,e=.returned (.tuple #[.slice A d.length c,.nilIface])∧OB w' w.heap.size (.slice A d.length c) d∧Bw w w':=by
 obtain⟨AD,cD,eD,-,-,hr⟩:=OB.form h.done
 subst eD
 have c0:w.cell? ⟨g,0,none⟩=some (.slice (some ⟨q,o,none⟩) 0 cq):=Kq 0 h.row
 have c1:w.cell? ⟨g,1,none⟩=some (.slice AD d.length cD):=Kq 1 h.row
 have c2:w.cell? ⟨g,2,none⟩=some .nilIface:=Kq 2 h.row
 have HC:=Hj (dU AD d.length cD d w hr (by omega))
 have q1:decide ((d.length:Int)>65536)=false:=aQ (by omega)
 have q1':decide (65536<(d.length:Int))=false:=aQ (by omega)
 have q1n:decide (65536<d.length)=false:=aQ (by omega)
 have HD:=Hj hd
 clear h hr hd
 go_enter Tryz.func156,Tryz.ntmps156
 go_wp2_with (first
  | (go_at_call 94;((refine HC.out.mono ?_);rintro e w2 ⟨A2,k2,rfl,ho2,hb2⟩;have O2:=Hj ho2;have B2:=Hj hb2;clear ho2 hb2))
  | fail)
 go_ret2
 exact⟨A2,k2,rfl,O2.out,B2.out⟩
theorem oI.sD (h:oI a w g q o cq kv ws):w.cell? ⟨g,0,none⟩=some (.slice (some ⟨q,o,none⟩) 1 cq)∧w.cell? ⟨g,2,none⟩=some .nilIface∧w.frozen? ⟨g,0,none⟩=false:=
 ⟨Kq 0 h.row,Kq 2 h.row,Kj h.row⟩
/-- The list is taken off. -/
theorem oI.off (h:oI a w g q o cq kv ws) {W:World} (hb:Bw w W):KR a (W.setCell ⟨g,0,none⟩ (.slice (some ⟨q,o,none⟩) 0 cq)) g q o cq (.slice none 0 0) []:=by
 have h':=h.below hb
 have hG:=(Fr.refl (fun k=>k=g) W).setCell (p:=⟨g,0,none⟩) (fun _=>rfl) (.slice (some ⟨q,o,none⟩) 0 cq)
 exact⟨h'.bel.trans (hG.below h'.bel.size fun i _ e=>by rw[e];exact h.up),h.up,aI _ g 0 _ _ _ h'.row,OB.nil _ _⟩
theorem oI.KZ (h:oI a w g q o cq kv ws) {W:World} (hb:Bw w W) (v:Value):∃A c,kv=.slice A ws.length c∧ws.length≤c∧c≤maxLen∧EO (W.setCell ⟨g,0,none⟩ v) A ws.length (ws.map fun x=>x.1):=by
 have h':=h.below hb
 have hG:=(Fr.refl (fun k=>k=g) W).setCell (p:=⟨g,0,none⟩) (fun _=>rfl) v
 refine Qg (B:=a.heap.size) (ah.kept h'.kids hG fun k hk e=> ?_) fun x hx=>ah.kept (h'.each x hx) hG fun k hk e=> ?_
 ·subst e
  obtain⟨cur,hcur⟩:=au h'.kids hk
  exact absurd (ak hcur h'.row) (by decide)
 ·subst e
  obtain⟨cur,hcur⟩:=au (h'.each x hx) hk
  exact absurd (ak hcur h'.row) (by decide)
theorem Bv (h:oI a w g q o cq kv ws) (hlen:(ws.map fun x=>x.1).flatten.length≤65530):
  Cl 155 #[pt g] w fun e w'=>e=.returned (.tuple #[])∧∃dv,KR a w' g q o cq dv (bG 48 (ws.map fun x=>x.1).flatten):=by
 obtain⟨c0,c2,-⟩:=h.sD
 obtain⟨cq0,cq1⟩:=oI.cells h
 obtain⟨AV,cV,eV,hV1,hV2,-⟩:=h.KZ (aj _ _) (.nilIface)
 subst eV
 obtain⟨ls,hls⟩:∃l,l=(ws.map fun x=>x.1):=⟨_,rfl⟩
 rw[←hls] at hlen ⊢
 obtain⟨fl,hfl⟩:∃l,l=ls.flatten:=⟨_,rfl⟩
 rw[←hfl] at hlen ⊢
 have D:=(aj w.heap.size w).alloc Kv (.cells #[.int .i64 48,.slice AV ws.length cV] 287)
 obtain⟨wc,hwc⟩:∃W,W=(w.alloc (.cells #[.int .i64 48,.slice AV ws.length cV] 287)).setCell ⟨g,0,none⟩ (.slice (some ⟨q,o,none⟩) 0 cq):=⟨_,rfl⟩
 have hoff:=h.off D
 obtain⟨AV',cV',e',-,-,hrb⟩:=h.KZ D (.slice (some ⟨q,o,none⟩) 0 cq)
 injection e' with e1 _ e3
 subst e1;subst e3
 rw[←hls] at hrb
 have f0:∀ob,(w.alloc ob).frozen? ⟨g,0,none⟩=false:=fun ob=>Kj (h.below ((aj w.heap.size w).alloc Kv ob)).row
 have b0:∀ob,(w.alloc ob).cell? ⟨g,0,none⟩=some (.slice (some ⟨q,o,none⟩) 1 cq):=fun ob=>Kq 0 (h.below ((aj w.heap.size w).alloc Kv ob)).row
 have HO:=Hj hoff
 have HR:=Hj hrb
 have HLS:=Hj hls
 have HV:=Hj (aB hV1 hV2)
 have HH:=Hj h
 have HL:=Hj hlen
 have HWC:=Hj hwc
 have hgn:g≠w.heap.size:=fun e=>by have:=(Cq h.row);omega
 have hrow:wc.heap[w.heap.size]?=some (.cells #[.int .i64 48,.slice AV ws.length cV] 287 (0,0)):=by
  rw[hwc]
  exact(Below.heap_setCell _ ⟨g,0,none⟩ _ _ (fun e=>hgn e.symm)).trans (aA w _)
 have HK:Hid (∀W,Bw wc W→W.cell? ⟨w.heap.size,0,none⟩=some (.int .i64 48)∧W.cell? ⟨w.heap.size,1,none⟩=some (.slice AV ws.length cV)):=Hj fun W hW=>⟨Kz hW _ _ (Kq 0 hrow),Kz hW _ _ (Kq 1 hrow)⟩
 have HBd:Hid (∀W,Bw wc W→Cl 207 #[.agg #[.int .i64 48,.slice AV ws.length cV]] W fun e w'=>∃v,e=.returned v∧OB w' W.heap.size v fl∧Bw W w'):=Hj fun W hW=>by
  rw[hfl]
  exact Qh 48 rfl AV ws.length cV ls W (by rw[←hwc] at hrb;exact hrb.keep (Kz hW)) (Cz hV1 hV2) (by rw[←hfl];omega)
 have HPt:Hid (∀W A c,Bw wc W→OB W wc.heap.size (.slice A fl.length c) fl→Cl 206 #[pt g,.int .i64 48,.slice A fl.length c,.nilIface] W fun e w'=>e=.returned (.tuple #[])∧∃Xp,KR a w' g q o cq Xp (bG 48 fl)):=Hj fun W A c hW ho=>by
  obtain⟨A',c',e,h1,h2,h3⟩:=OB.form ho
  injection e with e1 _ e3
  subst e1;subst e3
  rw[←hwc] at hoff
  exact Qe (hoff.below hW) 48 A _ c fl (.inl rfl) (by decide) h3 h1 h2 hlen
 clear hfl hoff hrb hls hV1 hV2 h hlen hwc D hrow
 go_enter Tryz.func155,Tryz.ntmps155
 go_wp2
 rw[←HWC.out]
 have BD:=Hj (kM (aj wc.heap.size wc))
 obtain⟨b0',b1'⟩:=HK.out _ BD.out
 obtain⟨e0,e1⟩:=HK.out _ (aj _ _)
 refine wp_region_noPanic ?_
 refine wp_region_held_drew (S:=(fun _=>True)) (by kernel_rfl) ?_ (fun hHeld=> ?_)
 ·trivial
 refine tk 0 hHeld ?_
 try simp only[pa]
 refine tk 1 hHeld ?_
 try simp only[pa]
 refine PO 2 3 rfl rfl (fun K hK=> ?_) (fun K hK=> ?_)
 focus
  go_simp
  refine hK.out _ _ ?_ (fun hHeld=> ?_)
  ·trivial
  clear hK K
  try simp only[pa]
  refine mD 3 rfl (fun K hK=> ?_)
  go_simp
  refine hK.out _ _ ?_ (fun hHeld=> ?_)
  ·trivial
  clear hK K
  try simp only[pa]
  refine mD 4 rfl (fun K hK=> ?_)
  go_simp
  (with_reducible refine(HBd.out wc.drew BD.out).mono ?_)
  rintro e w2 ⟨v2,rfl,ho2,hb2⟩
  obtain⟨A2,k2,e2,-,-,-⟩:=OB.form ho2
  subst e2
  have B2:=Hj (Below.fZ hb2)
  obtain⟨x0,x1⟩:=HK.out w2 B2.out
  have P2:=Hj (HPt.out w2 A2 k2 B2.out ho2)
  clear ho2 hb2
 rotate_right
 focus
  go_simp
  refine hK.out _ _ ?_ (fun hHeld=> ?_)
  ·trivial
  clear hK K
  try simp only[pa]
  refine PO 2 4 rfl rfl (fun K hK=> ?_) (fun K hK=> ?_)
  focus
   go_simp
   refine hK.out _ _ ?_ (fun hHeld=> ?_)
   ·trivial
   clear hK K
   try simp only[pa]
   refine mD 4 rfl (fun K hK=> ?_)
   go_simp
   (with_reducible refine(HBd.out wc.drew BD.out).mono ?_)
   rintro e w2 ⟨v2,rfl,ho2,hb2⟩
   obtain⟨A2,k2,e2,-,-,-⟩:=OB.form ho2
   subst e2
   have B2:=Hj (Below.fZ hb2)
   obtain⟨x0,x1⟩:=HK.out w2 B2.out
   have P2:=Hj (HPt.out w2 A2 k2 B2.out ho2)
   clear ho2 hb2
  rotate_right
  focus
   go_simp
   (with_reducible refine(HBd.out wc.drew BD.out).mono ?_)
   rintro e w2 ⟨v2,rfl,ho2,hb2⟩
   obtain⟨A2,k2,e2,-,-,-⟩:=OB.form ho2
   subst e2
   have B2:=Hj (Below.fZ hb2)
   obtain⟨x0,x1⟩:=HK.out w2 B2.out
   have P2:=Hj (HPt.out w2 A2 k2 B2.out ho2)
   clear ho2 hb2
   refine hK.out _ _ ?_ (fun hHeld=> ?_)
   ·trivial
   clear hK K
   try simp only[pa]
   refine mD 2 rfl (fun K hK=> ?_)
   go_simp
 all_goals
  refine hK.out _ _ ?_ (fun hHeld=> ?_)
  ·trivial
  clear hK K
  try simp only[pa]
  refine mD 5 rfl (fun K hK=> ?_)
  go_simp
  (with_reducible refine P2.out.mono ?_)
  rintro e w3 ⟨rfl,hz⟩
  have R3:=Hj hz
  clear hz
  refine hK.out _ _ ?_ (fun hHeld=> ?_)
  ·trivial
  clear hK K
  try simp only[pa]
  refine wpAnyH_done (by kernel_rfl) ?_ _
  refine NoPanic.normal ?_
  go_wp2
  exact bodyPost_end (fM rfl _ _ _) rfl ⟨rfl,R3.out⟩
end
end Go.Proofs.YtdhbpajamlfacaaGreatDoor
