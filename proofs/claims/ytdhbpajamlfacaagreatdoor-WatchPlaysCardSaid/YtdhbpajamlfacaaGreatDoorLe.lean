/- The document's disk (layer 17) by its lengths: a disk in memory; Seen, Free, unit, wait, Write, Cut, Sync. -/
import Derived.Test.YtdhbpajamlfacaaGreatDoorLd
import Derived.Test.YtdhbpajamlfacaaGreatDoorWalG
set_option maxHeartbeats 8000000
set_option maxRecDepth 100000
namespace Go.Proofs.YtdhbpajamlfacaaGreatDoor
open Go.RowKit
def qN (i:Int) (p:Int) (v:Value) (cuts:Bool):List Value:=[.int .i64 i,.int .i64 p,v,.bool cuts]
/-- Block g is the document's disk: its room, the lengths of its areas, what waits; O: the blocks that are its own. -/
structure wH (w:World) (O:Nat→Prop) (g:Nat) (room:Int) (A:Nat→Option Addr) (k s:Nat→Nat) (wv:Value):Prop where
 cells:w.heap[g]?=some (.cells #[.int .i64 room,.slice (A 0) (s 0) (k 0),.slice (A 1) (s 1) (k 1),.slice (A 2) (s 2) (k 2),wv,.bool false,.int .i64 0,.bool false] 80 (0,0))
 eH:∀i,i<3→LS w O (.slice (A i) (s i) (k i)) (s i)
 fits:(s 0:Int)+s 1+s 2≤room
 room:room≤100000
 own:O g
/-- Nothing waits. -/
def LD (w:World) (O:Nat→Prop) (g:Nat) (room:Int) (s:Nat→Nat):Prop:=∃A k,wH w O g room A k s (.slice none 0 0)
/-- One change waits: area i is cut, or n bytes more are written to it. -/
def Ur (w:World) (O:Nat→Prop) (g:Nat) (room:Int) (s:Nat→Nat) (i n:Nat) (cuts:Bool):Prop:=∃A k wv v p,p=(if cuts=true then 0 else (s i:Int))∧wH w O g room A k s wv∧ah w 0 253 4 wv 1 (qN i p v cuts)∧LS w O v n∧∀q,wv.ownBlock=some q→O q
theorem Jm (A:Nat→Option Addr) (s k:Nat→Nat) (i j:Nat) (A':Option Addr) (n k':Nat):(if (i:Int)=(j:Int) then Value.slice A' n k' else .slice (A j) (s j) (k j))=.slice (upd A i A' j) (upd s i n j) (upd k i k' j):=by
 by_cases e:j=i
 · subst e;rw[aF rfl,qx,qx,qx]
 · rw[aG (by omega),upd_ne _ _ e,upd_ne _ _ e,upd_ne _ _ e]
section
variable {w w':World} {O X:Nat→Prop} {g:Nat} {room:Int} {A:Nat→Option Addr} {k s:Nat→Nat} {wv:Value}
theorem wH.lt (h:wH w O g room A k s wv):g<w.heap.size:=(Cq h.cells)
theorem wH.cell (h:wH w O g room A k s wv) {W:World} (hb:Bw w W):W.cell? ⟨g,0,none⟩=some (.int .i64 room)∧W.cell? ⟨g,1,none⟩=some (.slice (A 0) (s 0) (k 0))∧W.cell? ⟨g,2,none⟩=some (.slice (A 1) (s 1) (k 1))∧W.cell? ⟨g,3,none⟩=some (.slice (A 2) (s 2) (k 2))∧W.cell? ⟨g,4,none⟩=some wv∧W.cell? ⟨g,5,none⟩=some (.bool false)∧W.cell? ⟨g,7,none⟩=some (.bool false)∧∀j,W.frozen? ⟨g,j,none⟩=false:=by
 have hc:=(hb.block g h.lt).trans h.cells
 exact⟨Kq 0 hc,Kq 1 hc,Kq 2 hc,Kq 3 hc,Kq 4 hc,Kq 5 hc,Kq 7 hc,fun j=>Kj hc⟩
theorem wH.fr (h:wH w O g room A k s wv) (hf:Fr X w w') (hn:∀q,O q→¬X q):wH w' O g room A k s wv:=⟨(hf.block _ h.lt (hn _ h.own)).trans h.cells,fun i hi=>(h.eH i hi).fr hf hn,h.fits,h.room,h.own⟩
theorem wH.below (h:wH w O g room A k s wv) (hb:Bw w w'):wH w' O g room A k s wv:=h.fr (X:=fun _=>False) (Fr.of_below hb) fun _ _ x=>x
theorem wH.mono (h:wH w O g room A k s wv) (ho:∀q,q<w.heap.size→O q→X q):wH w X g room A k s wv:=⟨h.cells,fun i hi=>(h.eH i hi).mono ho,h.fits,h.room,ho _ h.lt h.own⟩
theorem Ur.mono {i n:Nat} {cuts:Bool} (h:Ur w O g room s i n cuts) (ho:∀q,q<w.heap.size→O q→X q):Ur w X g room s i n cuts:=let ⟨A,k,wv,v,p,h0,h1,h2,h3,h4⟩:=h;⟨A,k,wv,v,p,h0,h1.mono ho,h2,h3.mono ho,fun q hq=>ho q (ah.lt h2 q hq).2 (h4 q hq)⟩
theorem LD.fr (h:LD w O g room s) (hf:Fr X w w') (hn:∀q,O q→¬X q):LD w' O g room s:=let ⟨A,k,h⟩:=h;⟨A,k,h.fr hf hn⟩
theorem LD.mono (h:LD w O g room s) (ho:∀q,q<w.heap.size→O q→X q):LD w X g room s:=let ⟨A,k,h⟩:=h;⟨A,k,h.mono ho⟩
theorem LD.below (h:LD w O g room s) (hb:Bw w w'):LD w' O g room s:=let ⟨A,k,h⟩:=h;⟨A,k,h.below hb⟩
theorem yP (h:wH w O g room A k s (.slice none 0 0)):Cl 115 #[pt g] w fun e w'=>e=.returned (.agg #[.slice (A 0) (s 0) (k 0),.slice (A 1) (s 1) (k 1),.slice (A 2) (s 2) (k 2)])∧Bw w w':=by
 have hc:=fun o=>h.cell ((aj w.heap.size w).alloc Kv o)
 have q1:=fun o=>(hc o).2.1
 have q2:=fun o=>(hc o).2.2.1
 have q3:=fun o=>(hc o).2.2.2.1
 have q4:=fun o o'=>(h.cell (((aj w.heap.size w).alloc Kv o).alloc (by simp) o')).2.2.2.2.1
 have z1:=aP w (.cells #[.slice none 0 0,.slice none 0 0,.slice none 0 0] 77) (.cells #[.slice (A 0) (s 0) (k 0),.slice (A 1) (s 1) (k 1),.slice (A 2) (s 2) (k 2)] 77)
 obtain⟨wz,hwz⟩:∃W,W=(w.alloc (.cells #[.slice none 0 0,.slice none 0 0,.slice none 0 0] 77)).alloc (.cells #[.slice (A 0) (s 0) (k 0),.slice (A 1) (s 1) (k 1),.slice (A 2) (s 2) (k 2)] 77):=⟨_,rfl⟩
 rw[←hwz] at z1
 have HZ:=Hj z1
 clear h hc z1
 go_enter Tryz.func115,Tryz.ntmps115
 go_wp2_with fail
 rw[←hwz]
 clear hwz q1 q2 q3 q4
 go_loopg [15] 0 (fun gk s15 wr=>s15=.int .i64 0∧wr=wz)
 case atStart=>exact⟨rfl,rfl⟩
 case round=>
  obtain⟨rfl,rfl⟩:=hrel
  have u0:=Kq 0 HZ.out.2.1
  have u1:=Kq 1 HZ.out.2.1
  have u2:=Kq 2 HZ.out.2.1
  have r0:=Kq 0 HZ.out.1
  have r1:=Kq 1 HZ.out.1
  have r2:=Kq 2 HZ.out.1
  have y0:=kH _ _ 0 _ _ HZ.out.1
  have y1:=kH _ _ 1 _ _ HZ.out.1
  have y2:=kH _ _ 2 _ _ HZ.out.1
  go_wp2
  have hF3:=(((Fr.refl (fun q=>q=w.heap.size) wr).setCell (p:=⟨w.heap.size,0,none⟩) (fun _=>rfl) (.slice (A 0) (s 0) (k 0))).setCell (p:=⟨w.heap.size,1,none⟩) (fun _=>rfl) (.slice (A 1) (s 1) (k 1))).setCell (p:=⟨w.heap.size,2,none⟩) (fun _=>rfl) (.slice (A 2) (s 2) (k 2))
  exact bg (results_cell_row rfl _ _ w.heap.size 77 _ (0,0) _ rfl (aI _ _ 2 _ _ _ (aI _ _ 1 _ _ _ (aI _ _ 0 _ _ _ HZ.out.1))) Tryz.underlying77 rfl nS) rfl ⟨rfl,HZ.out.2.2.trans (hF3.below (by have:=HZ.out.2.2.size;omega) fun q _ e=>by omega)⟩
theorem QG (h:LD w O g room s):Cl 140 #[pt g] w fun e w'=>e=.returned (.int .i64 (room-s 0-s 1-s 2))∧Bw w w':=by
 obtain⟨A,k,h⟩:=h
 have HS:=Hj (yP h)
 have HV:=Hj h
 have r0:=h.fits
 have r1:=h.room
 clear h
 generalize s 0=n3 at*
 generalize s 1=n4 at*
 generalize s 2=n5 at*
 go_enter Tryz.func140,Tryz.ntmps140
 go_wp2_with (first
  | (go_at_call 115;((refine HS.out.mono ?_);rintro e w1 ⟨rfl,hb1⟩;have Po:=Hj hb1;clear hb1))
  | fail)
 have D0:=(aj w1.heap.size w1).alloc Kv (.cells #[.slice (A 0) n3 (k 0),.slice (A 1) n4 (k 1),.slice (A 2) n5 (k 2)] 77)
 have hrow:=aA w1 (.cells #[.slice (A 0) n3 (k 0),.slice (A 1) n4 (k 1),.slice (A 2) n5 (k 2)] 77)
 obtain⟨w2,hw2⟩:∃W,W=w1.alloc (.cells #[.slice (A 0) n3 (k 0),.slice (A 1) n4 (k 1),.slice (A 2) n5 (k 2)] 77):=⟨_,rfl⟩
 rw[←hw2] at D0 hrow ⊢
 have HB2:Hid (Bw w w2):=Hj (Po.out.trans (D0.mono Po.out.size))
 have e0:=(HV.out.cell HB2.out).1
 have e1:=Kq 0 hrow
 have e2:=Kq 1 hrow
 have e3:=Kq 2 hrow
 have s1:IntKind.i64.wrap (room-(n3:Int))=room-(n3:Int):=cO _ (by omega)
 have s2:IntKind.i64.wrap (room-(n3:Int)-(n4:Int))=room-(n3:Int)-(n4:Int):=cO _ (by omega)
 have s3:IntKind.i64.wrap (room-(n3:Int)-(n4:Int)-(n5:Int))=room-(n3:Int)-(n4:Int)-(n5:Int):=cO _ (by omega)
 clear hw2 D0 hrow
 go_quiet (fail)
 go_wp2
 go_ret
 exact⟨rfl,below_drewN HB2.out _⟩
theorem QH (h:wH w O g room A k s wv):Cl 184 #[pt g] w fun e w'=>e=.returned (.int .i64 0)∧w=w':=by
 obtain⟨-,-,-,-,-,c5,c7,-⟩:=h.cell (aj _ w)
 clear h
 go_enter Tryz.func184,Tryz.ntmps184
 go_wp2
 go_ret
 exact⟨rfl,rfl⟩
theorem Ns:(Tryz.prog.info? 253).map (fun i=>(i.zero,i.size,i.bytes))=some (some (.agg #[.int .i64 0,.int .i64 0,.slice none 0 0,.bool false]),4,48):=by kernel_rfl
theorem iU {ops:Array Oper} {o:Oper} {a:Act} {w:World} {K:Act→World→Prop} {Q:Exit→Act→World→Prop} {E:Prop} (hgd:o.guard=none) (s x:Operand)
 (ho:o.op=.call {callee:=.builtin .append,args:=#[s,x],argTypes:=#[78,78]})
 {base:Nat} {v:Value} {n:Nat} {xs:List Value} (hown:ah w base 253 4 v n xs) (hs:a.eval s=v)
 {xv:Value} {m:Nat} {news:List Value} (hsrc:Src Tryz.prog 4 78 xv m news w) (hx:a.eval x=xv) (hbytes:n+m≤1000000) (hbase:base≤w.heap.size)
 (h:∀v' w',ah w' base 253 4 v' (n+m) (xs++news)→w.grownBy w' v.ownBlock→(v'.ownBlock=v.ownBlock∨v'.ownBlock=some w.heap.size)→K (a.put o.dst v') w'):
 if Region.wanted o (yielded ops a.tmps)=true then Oper.wp Tryz.prog o a w K Q else E:=by
 obtain⟨i0,hi,hz0,hz1,hz2⟩:=dO Ns
 exact dA hgd s x 78 78 ho i0 _ 48 Tryz.underlying78 hi hz0 hz1 hz2 rfl (by omega) hs hown xv m news hx hsrc (by unfold maxLen;omega) (by omega) hbase fun v' w' h1 h2 h3=>h v' w' h1 h2 h3
theorem sH {w:World} {q base:Nat} (h:w.heap[q]?=some (.cells #[] 253 (0,0))) (hb:base≤q):ah w base 253 4 (.slice (some ⟨q,0,none⟩) 0 0) 0 []:=
 ⟨rfl,.inr ⟨q,0,0,#[],rfl,hb,h,bZ _,by unfold maxLen;omega,by simp,rfl⟩⟩
theorem kP {wa w7:World} {q qX:Nat} {o:Obj} (hc:wa.heap[qX]?=some o) (hg:wa.grownBy w7 (Value.slice (some ⟨q,0,none⟩) 0 0).ownBlock) (hne:qX≠q):w7.heap[qX]?=some o:=
 ((Fr.bF hg).block qX (Cq hc) (fun e=>by injection e with e;exact hne e)).trans hc
/-- A literal of a change, as an append's source. -/
theorem DL {W:World} {q:Nat} {i p:Int} {AX:Option Addr} {n kx:Nat} {cuts:Bool} (h:W.heap[q]?=some (.cells #[.int .i64 i,.int .i64 p,.slice AX n kx,.bool cuts] 253 (0,0))):Src Tryz.prog 4 78 (.slice (some ⟨q,0,none⟩) 1 1) 1 (qN i p (.slice AX n kx) cuts) W:=
 Src.ofSlice _ Tryz.underlying78 _ _ 1 _ rfl (fun j u hu=>mJ (cs:=#[.int .i64 i,.int .i64 p,.slice AX n kx,.bool cuts]) h j u hu) (fun u hu=>by
  simp only[qN,List.mem_cons,List.not_mem_nil,or_false] at hu
  rcases hu with rfl | rfl | rfl | rfl<;>rfl)
/-- One change more waits. -/
theorem wH.more {i p:Int} {AX:Option Addr} {n kx n8:Nat} {cuts:Bool} {A8:Option Addr} {c8:Nat} {w8:World} (h:wH w O g room A k s wv) (hb:Bw w w8) (hv:ah w8 w.heap.size 253 4 (.slice A8 n8 c8) n8 (qN i p (.slice AX n kx) cuts)) (hx:LS w O (.slice AX n kx) n) (h1:n8=1):
  wH (w8.setCell ⟨g,4,none⟩ (.slice A8 n8 c8)) (ext O w (w8.setCell ⟨g,4,none⟩ (.slice A8 n8 c8))) g room A k s (.slice A8 n8 c8)∧ah (w8.setCell ⟨g,4,none⟩ (.slice A8 n8 c8)) 0 253 4 (.slice A8 n8 c8) 1 (qN i p (.slice AX n kx) cuts)∧LS (w8.setCell ⟨g,4,none⟩ (.slice A8 n8 c8)) (ext O w (w8.setCell ⟨g,4,none⟩ (.slice A8 n8 c8))) (.slice AX n kx) n∧(∀q,(Value.slice A8 n8 c8).ownBlock=some q→ext O w (w8.setCell ⟨g,4,none⟩ (.slice A8 n8 c8)) q)∧Fr (fun q=>q=g) w (w8.setCell ⟨g,4,none⟩ (.slice A8 n8 c8)):=by
 subst h1
 have h8:=h.below hb
 have hF:Fr (fun q=>q=g) w8 (w8.setCell ⟨g,4,none⟩ (.slice A8 1 c8)):=(Fr.refl (fun q=>q=g) w8).setCell (p:=⟨g,4,none⟩) (fun _=>rfl) _
 have key:∀(v:Value) (m:Nat),LS w O v m→LS (w8.setCell ⟨g,4,none⟩ (.slice A8 1 c8)) (ext O w (w8.setCell ⟨g,4,none⟩ (.slice A8 1 c8))) v m:=fun v m ho=>((ho.below hb).stay h8.cells (by decide) hF).mono fun _ _ x=>.inl x
 refine⟨⟨aI _ _ 4 _ _ _ h8.cells,fun i hi=>key _ _ (h.eH i hi),h.fits,h.room,.inl h.own⟩,(ah.kept hv hF fun q hq e=> ?_).mono fun q _=>bU _,key _ _ hx,fun q hq=>.inr ⟨(ah.lt hv q hq).1,dP (ah.lt hv q hq).2 hF.size⟩,(Fr.of_below hb).trans hF fun _ _ e=>e⟩
 subst e
 obtain⟨cur,hc⟩:=au hv hq
 exact absurd (ak hc h8.cells) (by decide)
theorem QI (i n:Nat) (p:Int) (v:Value) (cuts:Bool) (h:wH w O g room A k s (.slice none 0 0)) (hx:LS w O v n) (hp:p=if cuts=true then 0 else (s i:Int)):
  Cl 183 #[pt g,.agg #[.int .i64 (i:Int),.int .i64 p,v,.bool cuts]] w fun e w'=>e=.returned (.int .i64 0)∧Ur w' (ext O w w') g room s i n cuts∧Fr (fun q=>q=g) w w':=by
 obtain⟨AX,kx,l,rfl,-,-,-,-⟩:=hx.form
 have D0:=(aj w.heap.size w).alloc Kv (.cells #[.int .i64 (i:Int),.int .i64 p,.slice AX n kx,.bool cuts] 253)
 have hrow:=aA w (.cells #[.int .i64 (i:Int),.int .i64 p,.slice AX n kx,.bool cuts] 253)
 obtain⟨wb,hwb⟩:∃W,W=w.alloc (.cells #[.int .i64 (i:Int),.int .i64 p,.slice AX n kx,.bool cuts] 253):=⟨_,rfl⟩
 rw[←hwb] at D0 hrow
 have V1:=Hj (h.below D0)
 have HX:=Hj (hx.below D0)
 have HU:=Hj (QH (h.below D0))
 have HWB:=Hj hwb
 have HD0:=Hj D0
 have HP:=Hj hp
 have KW:Hid (∀W,Bw wb W→W.cell? ⟨g,4,none⟩=some (.slice none 0 0)∧W.cell? ⟨w.heap.size,0,none⟩=some (.int .i64 (i:Int))∧W.cell? ⟨w.heap.size,1,none⟩=some (.int .i64 p)∧W.cell? ⟨w.heap.size,2,none⟩=some (.slice AX n kx)∧W.cell? ⟨w.heap.size,3,none⟩=some (.bool cuts)):=Hj fun W hW=>
  have hr:=(hW.block _ (Cq hrow)).trans hrow
  ⟨(V1.out.cell hW).2.2.2.2.1,Kq 0 hr,Kq 1 hr,Kq 2 hr,Kq 3 hr⟩
 have KA:Hid (∀(W:World) (o:Obj),Bw wb W→(W.alloc o).cell? ⟨g,4,none⟩=some (.slice none 0 0)∧(W.alloc o).cell? ⟨w.heap.size,0,none⟩=some (.int .i64 (i:Int))∧(W.alloc o).cell? ⟨w.heap.size,1,none⟩=some (.int .i64 p)∧(W.alloc o).cell? ⟨w.heap.size,2,none⟩=some (.slice AX n kx)∧(W.alloc o).cell? ⟨w.heap.size,3,none⟩=some (.bool cuts)):=Hj fun W o hW=>KW.out _ (hW.alloc hW.size o)
 clear h hx D0 hrow hwb hp
 go_enter Tryz.func183,Tryz.ntmps183
 go_wp2_with (first
  | (go_at_call 184;(rw[←HWB.out];(refine HU.out.mono ?_);rintro e w1 ⟨rfl,rfl⟩))
  | fail)
 obtain⟨g4,b0,b1,b2,b3⟩:=KW.out wb (aj _ _)
 have a4:=fun o=>(KA.out wb o (aj _ _)).1
 have a0:=fun o=>(KA.out wb o (aj _ _)).2.1
 have a1:=fun o=>(KA.out wb o (aj _ _)).2.2.1
 have a2:=fun o=>(KA.out wb o (aj _ _)).2.2.2.1
 have a3:=fun o=>(KA.out wb o (aj _ _)).2.2.2.2
 have e4:=fun o o'=>(KA.out (wb.alloc o) o' ((aj _ _).alloc Kv _)).1
 have e0:=fun o o'=>(KA.out (wb.alloc o) o' ((aj _ _).alloc Kv _)).2.1
 have e1:=fun o o'=>(KA.out (wb.alloc o) o' ((aj _ _).alloc Kv _)).2.2.1
 have e2:=fun o o'=>(KA.out (wb.alloc o) o' ((aj _ _).alloc Kv _)).2.2.2.1
 have e3:=fun o o'=>(KA.out (wb.alloc o) o' ((aj _ _).alloc Kv _)).2.2.2.2
 go_region_law (first
  | (refine iU rfl (.tmp 11) (.tmp 15) (by rfl) (sH (w:=(wb.alloc (.cells #[] 253)).drew) (q:=wb.heap.size) (base:=wb.heap.size) (aA wb _) (by omega)) (by rfl) (Src.ofNil _ Tryz.underlying78 0) (by rfl) (by omega) (by simp) ?_;intro v7 w7 aU cu tX;rw[dV,fP] at aU;obtain⟨A7,c7,rfl,-,-⟩:=aU.form;have B7:Hid (Bw wb w7):=Hj (dH (aJ ((aj _ wb).alloc Kv _)) cu (by omega));obtain⟨y4,yb0,yb1,yb2,yb3⟩:=KW.out w7 B7.out;have O7:=Hj aU;have za0:=fun o=>KA.out w7 o B7.out;clear aU cu tX)
  | (refine iU rfl (.tmp 11) (.tmp 15) (by rfl) (sH (w:=((wb.alloc (.cells #[] 253)).alloc (.cells #[.int .i64 (i:Int),.int .i64 p,.slice AX n kx,.bool cuts] 253)).drew) (q:=wb.heap.size) (base:=wb.heap.size) (aP wb (.cells #[] 253) (.cells #[.int .i64 (i:Int),.int .i64 p,.slice AX n kx,.bool cuts] 253)).1 (by omega)) (by rfl) (Src.ofNil _ Tryz.underlying78 0) (by rfl) (by omega) (by simp;omega) ?_;intro v7 w7 aU cu tX;rw[dV,fP] at aU;obtain⟨A7,c7,rfl,-,-⟩:=aU.form;have B7:Hid (Bw wb w7):=Hj (dH (aJ (aP wb (.cells #[] 253) (.cells #[.int .i64 (i:Int),.int .i64 p,.slice AX n kx,.bool cuts] 253)).2.2) cu (by omega));obtain⟨y4,yb0,yb1,yb2,yb3⟩:=KW.out w7 B7.out;have O7:=Hj aU;have X7:=Hj (DL (kP (wa:=((wb.alloc (.cells #[] 253)).alloc (.cells #[.int .i64 (i:Int),.int .i64 p,.slice AX n kx,.bool cuts] 253)).drew) (aP wb (.cells #[] 253) (.cells #[.int .i64 (i:Int),.int .i64 p,.slice AX n kx,.bool cuts] 253)).2.1 cu (by omega)));clear aU cu tX)
  | (refine iU rfl (.tmp 11) (.tmp 15) (by rfl) (sH (w:=((wb.alloc (.cells #[.int .i64 (i:Int),.int .i64 p,.slice AX n kx,.bool cuts] 253)).alloc (.cells #[] 253)).drew) (q:=wb.heap.size+1) (base:=wb.heap.size) (aP wb (.cells #[.int .i64 (i:Int),.int .i64 p,.slice AX n kx,.bool cuts] 253) (.cells #[] 253)).2.1 (by omega)) (by rfl) (Src.ofNil _ Tryz.underlying78 0) (by rfl) (by omega) (by simp;omega) ?_;intro v7 w7 aU cu tX;rw[dV,fP] at aU;obtain⟨A7,c7,rfl,-,-⟩:=aU.form;have B7:Hid (Bw wb w7):=Hj (dH (aJ (aP wb (.cells #[.int .i64 (i:Int),.int .i64 p,.slice AX n kx,.bool cuts] 253) (.cells #[] 253)).2.2) cu (by omega));obtain⟨y4,yb0,yb1,yb2,yb3⟩:=KW.out w7 B7.out;have O7:=Hj aU;have X7:=Hj (DL (kP (wa:=((wb.alloc (.cells #[.int .i64 (i:Int),.int .i64 p,.slice AX n kx,.bool cuts] 253)).alloc (.cells #[] 253)).drew) (aP wb (.cells #[.int .i64 (i:Int),.int .i64 p,.slice AX n kx,.bool cuts] 253) (.cells #[] 253)).1 cu (by omega)));clear aU cu tX)
  | (refine iU rfl (.tmp 16) (.tmp 18) (by rfl) (O7.out.alloc _) (by rfl) (DL (aA w7 _)) (by rfl) (by omega) (by have:=B7.out.size;simp;omega) ?_;intro v8 w8 dB kQ YQ;rw[dV,fP] at dB;obtain⟨A8,c8,rfl,-,-⟩:=dB.form;have B8:Hid (Bw wb w8):=Hj ((B7.out.alloc B7.out.size _).grown kQ (by have:=B7.out.size;simp;omega) fun q hq=>(ah.lt O7.out q hq).1);have fz8:=(V1.out.cell B8.out).2.2.2.2.2.2.2 4;obtain⟨z4,-,-,-,-⟩:=KW.out w8 B8.out;have O8:=Hj dB;clear dB kQ YQ)
  | (refine iU rfl (.tmp 16) (.tmp 18) (by rfl) O7.out (by rfl) X7.out (by rfl) (by omega) B7.out.size ?_;intro v8 w8 dB kQ YQ;rw[dV,fP] at dB;obtain⟨A8,c8,rfl,-,-⟩:=dB.form;have B8:Hid (Bw wb w8):=Hj (B7.out.grown kQ B7.out.size fun q hq=>(ah.lt O7.out q hq).1);have fz8:=(V1.out.cell B8.out).2.2.2.2.2.2.2 4;obtain⟨z4,-,-,-,-⟩:=KW.out w8 B8.out;have O8:=Hj dB;clear dB kQ YQ)
  | fail)
 all_goals
  go_wp2
  go_ret
  obtain⟨r1,r2,r3,r4,r5⟩:=V1.out.more B8.out O8.out HX.out rfl
  have hx:∀{W:World} (q:Nat),ext O wb W q→ext O w W q:=fun q ho=>ho.imp id fun h=>⟨Cz HD0.out.size h.1,h.2⟩
  exact⟨rfl,⟨A,k,_,_,p,HP.out,r1.mono fun q _=>hx q,r2,r3.mono fun q _=>hx q,fun q hq=>hx q (r4 q hq)⟩,(Fr.of_below HD0.out).trans r5 fun _ _ e=>e⟩
theorem YR (i n:Nat) (p:Int) (v:Value) (cuts:Bool) (s2:Nat→Nat) (hi:i<3) (h:wH w O g room A k s wv) (ho:ah w 0 253 4 wv 1 (qN i p v cuts)) (hv:LS w O v n) (hp:p=if cuts=true then 0 else (s i:Int)) (hn:cuts=true∨n≤500000) (hs:s2=upd s i (if cuts=true then 0 else s i+n)):
  Cl 115 #[pt g] w fun e w'=>∃(A':Nat→Option Addr) (k':Nat→Nat),e=.returned (.agg #[.slice (A' 0) (s2 0) (k' 0),.slice (A' 1) (s2 1) (k' 1),.slice (A' 2) (s2 2) (k' 2)])∧(∀j,j<3→LS w' (ext O w w') (.slice (A' j) (s2 j) (k' j)) (s2 j))∧Bw w w':=by
 have hc:=fun o=>h.cell ((aj w.heap.size w).alloc Kv o)
 obtain⟨AW,cW,rfl,-,-⟩:=ho.form
 obtain⟨b,o,cap,e,-,-,hcl⟩:=ho.cells (by show 0<4;omega)
 injection e with e _ _
 subst e
 have q1:=fun o=>(hc o).2.1
 have q2:=fun o=>(hc o).2.2.1
 have q3:=fun o=>(hc o).2.2.2.1
 have q4:=fun o o'=>(h.cell (((aj w.heap.size w).alloc Kv o).alloc (by simp) o')).2.2.2.2.1
 have z1:=aP w (.cells #[.slice none 0 0,.slice none 0 0,.slice none 0 0] 77) (.cells #[.slice (A 0) (s 0) (k 0),.slice (A 1) (s 1) (k 1),.slice (A 2) (s 2) (k 2)] 77)
 obtain⟨wz,hwz⟩:∃W,W=(w.alloc (.cells #[.slice none 0 0,.slice none 0 0,.slice none 0 0] 77)).alloc (.cells #[.slice (A 0) (s 0) (k 0),.slice (A 1) (s 1) (k 1),.slice (A 2) (s 2) (k 2)] 77):=⟨_,rfl⟩
 have hwsz:wz.heap.size=w.heap.size+2:=by rw[hwz];simp
 rw[←hwz] at z1
 have HZ:=Hj z1
 have YS:=Hj hwsz
 have HV:=Hj h
 have g0:wz.cell? ⟨b,o,none⟩=some (.int .i64 (i:Int)):=Kz z1.2.2 _ _ (hcl 0 _ rfl)
 have g1:=Kz z1.2.2 _ _ (hcl 1 _ rfl)
 have g2:=Kz z1.2.2 _ _ (hcl 2 _ rfl)
 have g3:=Kz z1.2.2 _ _ (hcl 3 _ rfl)
 obtain⟨AX,kx,l,rfl,-,-,hl,hrb⟩:=hv.form
 have HX:=Hj hrb
 have HI:=Hj hi
 have HP:=Hj hp
 have HS2:=Hj hs
 have hbnd:s i≤100000:=by
  have h1:=h.fits
  have h2:=h.room
  have h3:i=0∨i=1∨i=2:=by omega
  rcases h3 with rfl | rfl | rfl<;>omega
 obtain⟨fi,hfi⟩:∃fi,RB w (A i) (s i) fi:=by
  obtain⟨A0,c0,l0,e0,-,-,-,hr⟩:=(h.eH i hi).form
  injection e0 with e1 _ _
  rw[e1]
  exact⟨_,hr⟩
 have HDn:Hid (∀W,Bw w W→Cl 180 #[.agg #[.slice (A 0) (s 0) (k 0),.slice (A 1) (s 1) (k 1),.slice (A 2) (s 2) (k 2)],.agg #[.int .i64 (i:Int),.int .i64 p,.slice AX n kx,.bool cuts]] W fun e w'=>∃(A':Nat→Option Addr) (k':Nat→Nat),e=.returned (.agg #[.slice (A' 0) (s2 0) (k' 0),.slice (A' 1) (s2 1) (k' 1),.slice (A' 2) (s2 2) (k' 2)])∧(∀j,j<3→LS w' (fun q=>O q∨W.heap.size≤q) (.slice (A' j) (s2 j) (k' j)) (s2 j))∧Bw W w'):=Hj fun W hW=>by
  refine(YN (i:Int) p (by omega) (A 0) (A 1) (A 2) (A i) AX (s 0) (s 1) (s 2) (s i) (k 0) (k 1) (k 2) (k i) n kx cuts l fi W (fun e=>by obtain rfl:i=0:=(by omega);exact⟨rfl,rfl,rfl⟩) (fun e=>by obtain rfl:i=1:=(by omega);exact⟨rfl,rfl,rfl⟩) (fun e=>by obtain rfl:i=2:=(by omega);exact⟨rfl,rfl,rfl⟩) (hfi.keep (Kz hW)) (by omega) (hrb.keep (Kz hW)) (hn.imp id fun x=>by omega) HP.out).mono ?_
  rintro e w' ⟨A7,k7,rfl,h7,hb⟩
  refine⟨upd A i A7,upd k i k7,?_,fun j hj=> ?_,hb⟩
  · rw[HS2.out]
    rw[←Jm,←Jm,←Jm];rfl
  · rw[HS2.out]
    by_cases e:j=i
    · subst e
      rw[qx,qx,qx]
      exact h7.mono fun q _ hq=>.inr hq.1
    · rw[upd_ne _ _ e,upd_ne _ _ e,upd_ne _ _ e]
      exact(((HV.out.eH j hj).below hW).below hb).mono fun q _ hq=>.inl hq
 clear h hc z1 ho hcl hv hl hrb hi hp hs hbnd hfi hwsz
 go_enter Tryz.func115,Tryz.ntmps115
 go_wp2_with fail
 rw[←hwz]
 clear hwz q1 q2 q3 q4
 go_loopg [15] 1 (fun gk s15 wr=>(gk=1∧s15=.int .i64 0∧wr=wz)∨(gk=0∧s15=.int .i64 1∧∃(A':Nat→Option Addr) (k':Nat→Nat),wr.heap[w.heap.size]?=some (.cells #[.slice none 0 0,.slice none 0 0,.slice none 0 0] 77 (0,0))∧wr.heap[w.heap.size+1]?=some (.cells #[.slice (A' 0) (s2 0) (k' 0),.slice (A' 1) (s2 1) (k' 1),.slice (A' 2) (s2 2) (k' 2)] 77 (0,0))∧(∀j,j<3→LS wr (fun q=>O q∨w.heap.size+2≤q) (.slice (A' j) (s2 j) (k' j)) (s2 j))∧Bw w wr∧w.heap.size+2≤wr.heap.size))
 case atStart=>exact .inl ⟨rfl,rfl,rfl⟩
 case round=>
  rcases hrel with ⟨rfl,rfl,rfl⟩ | ⟨rfl,rfl,A',k',hr0,hr1,hls,hbw,hsz⟩
  · have u0:=Kq 0 HZ.out.2.1
    have u1:=Kq 1 HZ.out.2.1
    have u2:=Kq 2 HZ.out.2.1
    have ka:∀o p v,wr.cell? p=some v→(wr.alloc o).cell? p=some v:=fun o p v hv=>Kz ((aj wr.heap.size wr).alloc Kv o) _ _ hv
    have v0:=fun o=>ka o _ _ u0
    have v1:=fun o=>ka o _ _ u1
    have v2:=fun o=>ka o _ _ u2
    have D0:=(aj wr.heap.size wr).alloc Kv (.cells #[.int .i64 (i:Int),.int .i64 p,.slice AX n kx,.bool cuts] 253)
    obtain⟨wa,oh⟩:∃W,W=wr.alloc (.cells #[.int .i64 (i:Int),.int .i64 p,.slice AX n kx,.bool cuts] 253):=⟨_,rfl⟩
    rw[←oh] at D0
    have HWA:=Hj oh
    have HD0:=Hj D0
    clear ka D0 oh
    go_wp2_with (first
     | (go_at_call 180;(rw[←HWA.out];(refine(HDn.out wa (HZ.out.2.2.trans (HD0.out.mono HZ.out.2.2.size))).mono ?_);rintro e w7 ⟨A',k',rfl,hl7,hb7⟩;have L7:=Hj hl7;have B7:=Hj hb7;have R7:=Hj ((hb7.block _ (dP (by have:=YS.out;omega) HD0.out.size)).trans ((HD0.out.block _ (by have:=YS.out;omega)).trans HZ.out.2.1));have m0:=Kq 0 R7.out;have m1:=Kq 1 R7.out;have m2:=Kq 2 R7.out;have n0:=kH _ _ 0 _ _ R7.out;have n1:=kH _ _ 1 _ _ R7.out;have n2:=kH _ _ 2 _ _ R7.out;clear hl7 hb7))
     | fail)
    have hF3:=(((Fr.refl (fun q=>q=w.heap.size+1) w7).setCell (p:=⟨w.heap.size+1,0,none⟩) (fun _=>rfl) (.slice (A' 0) (s2 0) (k' 0))).setCell (p:=⟨w.heap.size+1,1,none⟩) (fun _=>rfl) (.slice (A' 1) (s2 1) (k' 1))).setCell (p:=⟨w.heap.size+1,2,none⟩) (fun _=>rfl) (.slice (A' 2) (s2 2) (k' 2))
    have hw7:Bw w w7:=(HZ.out.2.2.trans (HD0.out.mono HZ.out.2.2.size)).trans (B7.out.mono (Cz HZ.out.2.2.size HD0.out.size))
    go_roundg 0
    case measure=>omega
    case rel=>exact .inr ⟨rfl,rfl,A',k',((hF3.block _ (by have:=YS.out;have:=HD0.out.size;have:=B7.out.size;omega) (by omega)).trans (B7.out.block _ (by have:=YS.out;have:=HD0.out.size;omega))).trans ((HD0.out.block _ (by have:=YS.out;omega)).trans HZ.out.1),aI _ _ 2 _ _ _ (aI _ _ 1 _ _ _ (aI _ _ 0 _ _ _ R7.out)),fun j hj=>((L7.out j hj).stay R7.out (by decide) hF3).mono fun q _ hq=>hq.imp id fun h=>(by have:=HD0.out.size;have:=YS.out;omega),hw7.trans (hF3.below hw7.size fun q _ e=>by omega),(by have:=YS.out;have:=HD0.out.size;have:=B7.out.size;have:=hF3.size;omega)⟩
  · have HR0:=Hj hr0
    have HLS:=Hj hls
    have HB:=Hj hbw
    have YO:=Hj hsz
    have u0:=Kq 0 hr1
    have u1:=Kq 1 hr1
    have u2:=Kq 2 hr1
    have r0:=Kq 0 hr0
    have r1:=Kq 1 hr0
    have r2:=Kq 2 hr0
    have y0:=kH _ _ 0 _ _ hr0
    have y1:=kH _ _ 1 _ _ hr0
    have y2:=kH _ _ 2 _ _ hr0
    clear hr0 hr1 hls hbw hsz g0 g1 g2 g3
    go_wp2
    have hF3:=(((Fr.refl (fun q=>q=w.heap.size) wr).setCell (p:=⟨w.heap.size,0,none⟩) (fun _=>rfl) (.slice (A' 0) (s2 0) (k' 0))).setCell (p:=⟨w.heap.size,1,none⟩) (fun _=>rfl) (.slice (A' 1) (s2 1) (k' 1))).setCell (p:=⟨w.heap.size,2,none⟩) (fun _=>rfl) (.slice (A' 2) (s2 2) (k' 2))
    refine bg (results_cell_row rfl _ _ w.heap.size 77 _ (0,0) _ rfl (aI _ _ 2 _ _ _ (aI _ _ 1 _ _ _ (aI _ _ 0 _ _ _ HR0.out))) Tryz.underlying77 rfl nS) rfl ⟨A',k',rfl,fun j hj=> ?_,HB.out.trans (hF3.below HB.out.size fun q _ e=>by omega)⟩
    have h1:=(HLS.out j hj).stay HR0.out (by decide) hF3
    exact h1.mono fun q hq ho=>ho.imp id fun h=>⟨by omega,hq⟩
theorem oM (B0 B1 B2:Option Addr) (d0 d1 d2 l3 l4 l5 l:Nat) (a:Nat) (ha:a<3) (h0:a=0→l=l3) (h1:a=1→l=l4) (h2:a=2→l=l5):∃Ba da,∀W,(Instr.index 77 (.agg #[.slice B0 l3 d0,.slice B1 l4 d1,.slice B2 l5 d2]) (.int .i64 (a:Int))).run Tryz.prog W=.ok (.slice Ba l da) W:=by
 have s1:∀W,(sizeOf 35).run Tryz.prog W=.ok 1 W:=fun W=>by kernel_rfl
 have s2:∀W,(isAgg 35).run Tryz.prog W=.ok false W:=fun W=>by kernel_rfl
 have key:∀(W:World) (v:Value),([.slice B0 l3 d0,.slice B1 l4 d1,.slice B2 l5 d2]:List Value)[a]?=some v→(Instr.index 77 (.agg #[.slice B0 l3 d0,.slice B1 l4 d1,.slice B2 l5 d2]) (.int .i64 (a:Int))).run Tryz.prog W=.ok v W:=fun W v hv=>by
  have p0:(0:Int)≤(a:Int):=by omega
  simp[Instr.index,run_underlying (Tryz.underlying77),asIntOf,p0,ha,s1,s2,go_sem]
  exact(fA.1 hv).2
 have h:a=0∨a=1∨a=2:=by omega
 rcases h with rfl | rfl | rfl
 · exact⟨B0,d0,fun W=>key W _ (by rw[h0 rfl];rfl)⟩
 · exact⟨B1,d1,fun W=>key W _ (by rw[h1 rfl];rfl)⟩
 · exact⟨B2,d2,fun W=>key W _ (by rw[h2 rfl];rfl)⟩
/-- Bytes more, behind an area's end. -/
theorem U7 (i:Nat) (hi:i<3) (at_:Int) (B:Option Addr) (n kb:Nat) (bs:List UInt8) (h:LD w O g room s) (hat:at_=(s i:Int)) (hb:RB w B n bs) (h0:0<n) (hn:(n:Int)≤room-s 0-s 1-s 2):
  Cl 141 #[pt g,.int .i64 (i:Int),.int .i64 at_,.slice B n kb] w fun e w'=>e=.returned (.int .i64 0)∧Ur w' (ext O w w') g room s i n false∧Fr (fun q=>q=g) w w':=by
 subst hat
 have HFr:Hid (∀W,Bw w W→Cl 140 #[pt g] W fun e w'=>e=.returned (.int .i64 (room-s 0-s 1-s 2))∧Bw W w'):=Hj fun W hW=>QG (h.below hW)
 obtain⟨A,k,h⟩:=h
 have HS:=Hj (yP h)
 have HV:=Hj h
 have HI:=Hj hi
 obtain⟨l,hl⟩:∃l,l=s i:=⟨_,rfl⟩
 obtain⟨n0,hn0⟩:∃l,l=s 0:=⟨_,rfl⟩
 obtain⟨n1,hn1⟩:∃l,l=s 1:=⟨_,rfl⟩
 obtain⟨n2,hn2⟩:∃l,l=s 2:=⟨_,rfl⟩
 have HL:Hid ((i=0→l=n0)∧(i=1→l=n1)∧(i=2→l=n2)):=Hj ⟨fun e=>by subst e;rw[hl,hn0],fun e=>by subst e;rw[hl,hn1],fun e=>by subst e;rw[hl,hn2]⟩
 have hfit:(l:Int)≤room∧room≤100000:=by
  have h1:=h.fits
  have h2:=h.room
  have h3:i=0∨i=1∨i=2:=by omega
  rw[hl]
  rcases h3 with rfl | rfl | rfl<;>omega
 have a0:(0:Int)≤(i:Int):=by omega
 have a1:(i:Int)<3:=by omega
 have a2:decide ((i:Int)<0)=false:=aQ (by omega)
 have a3:decide (2<(i:Int))=false:=aQ (by omega)
 have a4:decide (i<0)=false:=aQ (by omega)
 have a5:decide (2<i)=false:=aQ (by omega)
 have HWt:Hid (∀W A3 c3,Bw w W→LS W (fun q=>w.heap.size≤q∧q<W.heap.size) (.slice A3 n c3) n→Cl 183 #[pt g,.agg #[.int .i64 (i:Int),.int .i64 (l:Int),.slice A3 n c3,.bool false]] W fun e w'=>e=.returned (.int .i64 0)∧Ur w' (ext O w w') g room s i n false∧Fr (fun q=>q=g) w w'):=Hj fun W A3 c3 hW ho=>by
  refine(QI i n (l:Int) (.slice A3 n c3) false ((HV.out.below hW).mono (X:=ext O w W) fun _ _ h=>.inl h) (ho.mono fun _ _ h=>.inr h) (by rw[hl];rfl)).mono ?_
  rintro e w' ⟨h1,h2,h3⟩
  exact⟨h1,h2.mono fun q _ hq=>iE hW.size h3.size hq,(Fr.of_below hW).trans h3 fun _ _ e=>e⟩
 have HB:=Hj hb
 have Jk:=Hj hb.1
 rw[←hn0,←hn1,←hn2] at HS HFr hn
 rw[←hl]
 have hnn:(n:Int)≤100000:=by omega
 have q1:decide ((l:Int)<0)=false:=aQ (by omega)
 have q1n:decide (l<0)=false:=aQ (by omega)
 have q2:decide ((l:Int)<(l:Int))=false:=aQ (by omega)
 have q2n:decide (l<l)=false:=aQ (by omega)
 have s1:IntKind.i64.wrap ((l:Int)+(n:Int)-(l:Int))=(l:Int)+(n:Int)-(l:Int):=cO _ (by omega)
 have q3:decide (0<(l:Int)+(n:Int)-(l:Int))=true:=aZ (by omega)
 have q3a:decide ((l:Int)<(l:Int)+(n:Int))=true:=aZ (by omega)
 have q3b:decide (l<l+n)=true:=aZ (by omega)
 obtain⟨F,hF⟩:∃F,F=room-(n0:Int)-(n1:Int)-(n2:Int):=⟨_,rfl⟩
 rw[←hF] at HFr hn
 have q4:decide (F<(l:Int)+(n:Int)-(l:Int))=false:=aQ (by omega)
 clear h hl hn0 hn1 hn2 hi hb h0 hn hF
 go_enter Tryz.func141,Tryz.ntmps141
 go_wp2_with (first
  | (go_at_call 115;((refine HS.out.mono ?_);rintro e w1 ⟨rfl,hb1⟩;have BB1:=Hj hb1;obtain⟨Ba,da,hix⟩:=oM (A 0) (A 1) (A 2) (k 0) (k 1) (k 2) n0 n1 n2 l i HI.out HL.out.1 HL.out.2.1 HL.out.2.2;clear hb1))
  | (go_at_call 140;((refine(HFr.out w1 BB1.out).mono ?_);rintro e w2 ⟨rfl,hb2⟩;have BB2:=Hj (BB1.out.trans (hb2.mono BB1.out.size));clear hb2))
  | (at_builtin;(refine aN rfl (.tmp 46) (.tmp 47) 35 (by rfl) (ku (w:=w2.alloc (.cells #[] 5)) (q:=w2.heap.size) (base:=w2.heap.size) (aA w2 _) Kv) (by rfl) (RB.src Tryz.underlying35 (c:=kb) ((HB.out.keep (Kz BB2.out)).keep (Kz ((aj _ w2).alloc Kv _)))) (by rfl) (by have:=Jk.out;simp;omega) (by simp) ?_;intro v3 w3 hown3 FK UZ;rw[fP] at hown3;obtain⟨A3,c3,rfl,-,-,-⟩:=hown3.form;rw[Jk.out] at hown3 ⊢;have O3:=Hj (LS.of (OB.mono hown3 BB2.out.size) Jk.out);have B3:Hid (Bw w w3):=Hj (BB2.out.trans ((dH ((aj _ w2).alloc Kv _) FK Kv).mono BB2.out.size));clear hown3 FK UZ))
  | (go_at_call 183;((refine(HWt.out w3 A3 c3 B3.out O3.out).mono ?_);rintro e w4 ⟨rfl,hr4,hf4⟩;have R4:=Hj hr4;have F4:=Hj hf4;clear hr4 hf4))
  | fail)
 all_goals
  go_ret
  exact⟨rfl,R4.out,F4.out⟩
/-- All of an area is cut. -/
theorem Cut_L (i:Nat) (hi:i<3) (h:LD w O g room s):
  Cl 121 #[pt g,.int .i64 (i:Int),.int .i64 0] w fun e w'=>e=.returned (.int .i64 0)∧Ur w' (ext O w w') g room s i 0 true∧Fr (fun q=>q=g) w w':=by
 obtain⟨A,k,h⟩:=h
 have HS:=Hj (yP h)
 have HV:=Hj h
 have HI:=Hj hi
 obtain⟨l,hl⟩:∃l,l=s i:=⟨_,rfl⟩
 obtain⟨n0,hn0⟩:∃l,l=s 0:=⟨_,rfl⟩
 obtain⟨n1,hn1⟩:∃l,l=s 1:=⟨_,rfl⟩
 obtain⟨n2,hn2⟩:∃l,l=s 2:=⟨_,rfl⟩
 have HL:Hid ((i=0→l=n0)∧(i=1→l=n1)∧(i=2→l=n2)):=Hj ⟨fun e=>by subst e;rw[hl,hn0],fun e=>by subst e;rw[hl,hn1],fun e=>by subst e;rw[hl,hn2]⟩
 have hfit:(l:Int)≤room∧room≤100000:=by
  have h1:=h.fits
  have h2:=h.room
  have h3:i=0∨i=1∨i=2:=by omega
  rw[hl]
  rcases h3 with rfl | rfl | rfl<;>omega
 have a0:(0:Int)≤(i:Int):=by omega
 have a1:(i:Int)<3:=by omega
 have a2:decide ((i:Int)<0)=false:=aQ (by omega)
 have a3:decide (2<(i:Int))=false:=aQ (by omega)
 have a4:decide (i<0)=false:=aQ (by omega)
 have a5:decide (2<i)=false:=aQ (by omega)
 have HWt:Hid (∀W,Bw w W→Cl 183 #[pt g,.agg #[.int .i64 (i:Int),.int .i64 0,.slice none 0 0,.bool true]] W fun e w'=>e=.returned (.int .i64 0)∧Ur w' (ext O w w') g room s i 0 true∧Fr (fun q=>q=g) w w'):=Hj fun W hW=>by
  refine(QI i 0 0 (.slice none 0 0) true ((HV.out.below hW).mono (X:=ext O w W) fun _ _ h=>.inl h) ⟨⟨[],rfl,OB.nil _ _⟩,fun q hq=>by cases hq⟩ rfl).mono ?_
  rintro e w' ⟨h1,h2,h3⟩
  exact⟨h1,h2.mono fun q _ hq=>iE hW.size h3.size hq,(Fr.of_below hW).trans h3 fun _ _ e=>e⟩
 rw[←hn0,←hn1,←hn2] at HS
 have q2:decide ((l:Int)<0)=false:=aQ (by omega)
 have q2n:decide (l<0)=false:=aQ (by omega)
 clear h hl hn0 hn1 hn2 hi
 go_enter Tryz.func121,Tryz.ntmps121
 go_wp2_with (first
  | (go_at_call 115;((refine HS.out.mono ?_);rintro e w1 ⟨rfl,hb1⟩;have BB1:=Hj hb1;obtain⟨Ba,da,hix⟩:=oM (A 0) (A 1) (A 2) (k 0) (k 1) (k 2) n0 n1 n2 l i HI.out HL.out.1 HL.out.2.1 HL.out.2.2;clear hb1))
  | (go_at_call 183;((refine(HWt.out w1 BB1.out).mono ?_);rintro e w4 ⟨rfl,hr4,hf4⟩;have R4:=Hj hr4;have F4:=Hj hf4;clear hr4 hf4))
  | fail)
 all_goals
  go_ret
  exact⟨rfl,R4.out,F4.out⟩
/-- What waited is done. -/
theorem YT (i n:Nat) (cuts:Bool) (hi:i<3) (h:Ur w O g room s i n cuts) (hn:cuts=true∨(n:Int)≤room-s 0-s 1-s 2):
  Cl 122 #[pt g] w fun e w'=>e=.returned (.int .i64 0)∧LD w' (ext O w w') g room (upd s i (if cuts=true then 0 else s i+n))∧Fr (fun q=>q=g) w w':=by
 obtain⟨A,k,wv,v,p,hp,h,ho,hv,hw⟩:=h
 obtain⟨s2,hs2⟩:∃s2,s2=upd s i (if cuts=true then 0 else s i+n):=⟨_,rfl⟩
 have hf:(s2 0:Int)+s2 1+s2 2≤room:=by
  have h1:=h.fits
  have h3:i=0∨i=1∨i=2:=by omega
  rw[hs2]
  unfold upd
  rcases h3 with rfl | rfl | rfl<;>cases cuts<;>simp at hn ⊢ <;>omega
 have hn5:cuts=true∨n≤500000:=hn.imp id fun x=>by have:=h.room;omega
 have HU:=Hj (QH h)
 have HS:=Hj (YR i n p v cuts s2 hi h ho hv hp hn5 hs2)
 have HF:=Hj hf
 have HV:=Hj h
 rw[←hs2]
 clear hs2 hf h ho hv hw hp hn hi hn5
 go_enter Tryz.func122,Tryz.ntmps122
 go_wp2_with (first
  | (go_at_call 184;((refine HU.out.mono ?_);rintro e w1 ⟨rfl,rfl⟩))
  | (go_at_call 115;((refine HS.out.mono ?_);rintro e w2 ⟨A',k',rfl,hls,hb2⟩;have LS2:=Hj hls;have BB:=Hj hb2;have V2:=Hj (HV.out.below hb2);obtain⟨-,z1,z2,z3,z4,-,-,fz⟩:=HV.out.cell hb2;have y1:=fz 1;have y2:=fz 2;have y3:=fz 3;have y4:=fz 4;clear hls hb2 fz))
  | fail)
 go_ret
 have hF:=((((Fr.refl (fun q=>q=g) w2).setCell (p:=⟨g,1,none⟩) (fun _=>rfl) (.slice (A' 0) (s2 0) (k' 0))).setCell (p:=⟨g,2,none⟩) (fun _=>rfl) (.slice (A' 1) (s2 1) (k' 1))).setCell (p:=⟨g,3,none⟩) (fun _=>rfl) (.slice (A' 2) (s2 2) (k' 2))).setCell (p:=⟨g,4,none⟩) (fun _=>rfl) (.slice none 0 0)
 refine⟨rfl,⟨A',k',aI _ _ 4 _ _ _ (aI _ _ 3 _ _ _ (aI _ _ 2 _ _ _ (aI _ _ 1 _ _ _ V2.out.cells))),fun j hj=>((LS2.out j hj).stay V2.out.cells (by decide) hF).mono fun q _ hq=>hq.imp id fun h=>⟨h.1,dP h.2 hF.size⟩,HF.out,HV.out.room,.inl HV.out.own⟩,(Fr.of_below BB.out).trans hF fun _ _ e=>e⟩
end
end Go.Proofs.YtdhbpajamlfacaaGreatDoor
