/- Layer 18 (wal): Compact. -/
import Derived.Test.YtdhbpajamlfacaaGreatDoorWalG
set_option maxRecDepth 100000
namespace Go.Proofs.YtdhbpajamlfacaaGreatDoor
open Go.RowKit
section
variable {w w' w0:World} {S P:Nat→Prop} {gl g:Nat} {m:DM} {L L':LM} {ea:Nat→Addr} {tv rv:Value} {ws:List (List UInt8×Value)}
/-- What the log does, and takes. -/
theorem DW.useX (h:DW w0 w S g m gl L) (X:Nat→Prop) (hX:∀k,X k→¬S k) (hXu:∀k,X k→w0.heap.size≤k) (hXh:∀k,X k→k<w.heap.size):
  ∃P tv rv ws,fG w P gl g L tv rv ws∧(∀k,P k→S k)∧∀w' L',nU w' (fun k=>ext P w w' k∨X k) gl g L'→Fr P w w'→DW w0 w' (fun k=>ext S w w' k∨X k) g m gl L'∧Fr S w w':=by
 obtain⟨⟨O,P,⟨bv,wv,xs,h1⟩,⟨tv,rv,ws,h2⟩,h3,h4,h5⟩,hu,hh,hb⟩:=h
 refine⟨P,tv,rv,ws,h2,h4,fun w' L' k1 k2=> ?_⟩
 have hsz:=k2.size
 have hF:Fr S w w':=k2.mono fun k _ hk=>h4 k hk
 refine⟨⟨⟨O,_,⟨bv,wv,xs,h1.Z8 k2 h5⟩,k1,fun k hk=>.inl (.inl (h3 k hk)),fun k hk=>hk.imp (fun hk=>hk.imp (h4 k) id) id,fun k hk hp=> ?_⟩,fun k hk=>hk.elim (jf hu hb.size k) (hXu k),fun k hk=>hk.elim (kN hh hsz k) fun hk=>Nat.lt_of_lt_of_le (hXh k hk) hsz,hb.trans (hF.below hb.size fun k _ hk=>hu k hk)⟩,hF⟩
 rcases hp with (hp | hp) | hp
 ·exact h5 k hk hp
 ·have:=hh k (h3 k hk);omega
 ·exact hX k hp (h3 k hk)
/-- The snapshot's own block behind the first region, whatever came first. -/
structure T5 (w wz:World) (q:Nat) (G t:Int) (A1:Option Addr) (n k1:Nat) (text:List UInt8):Prop where
 row:wz.heap[q]?=some (.cells #[.int .i64 G,.int .i64 t,.slice A1 n k1] 171 (0,0))
 bel:Below w.heap.size w wz
 up:w.heap.size≤q
 own:OB wz w.heap.size (.slice A1 n k1) text
theorem BN {wc:World} {A1:Option Addr} {n k1:Nat} {text:List UInt8} (G t:Int) (hb:Below w.heap.size w wc) (ho:OB wc w.heap.size (.slice A1 n k1) text):
  ∃q wz,q=wc.heap.size∧wz=wc.alloc (.cells #[.int .i64 G,.int .i64 t,.slice A1 n k1] 171)∧T5 w wz q G t A1 n k1 text:=
 ⟨_,_,rfl,rfl,heap_alloc_new wc _,hb.alloc hb.size _,hb.size,ho.alloc _⟩
theorem BO {wc:World} {A1:Option Addr} {n k1 b:Nat} {text:List UInt8} (G t:Int) (hb:Below w.heap.size w wc) (hr:wc.heap[w.heap.size]?=some (.cells #[.int .i64 0,.int .i64 0,.slice none 0 0] 171 (0,0))) (ho:OB wc b (.slice A1 n k1) text) (hlt:w.heap.size<b):
  ∃q wz,q=w.heap.size∧wz=((wc.setCell ⟨w.heap.size,0,none⟩ (.int .i64 G)).setCell ⟨w.heap.size,1,none⟩ (.int .i64 t)).setCell ⟨w.heap.size,2,none⟩ (.slice A1 n k1)∧T5 w wz q G t A1 n k1 text:=by
 refine⟨_,_,rfl,rfl,heap_setCell_same _ _ _ _ _ _ (heap_setCell_same _ _ _ _ _ _ (heap_setCell_same _ _ _ _ _ _ hr)),((hb.setCell (p:=⟨w.heap.size,0,none⟩) Kv _).setCell (p:=⟨w.heap.size,1,none⟩) Kv _).setCell (p:=⟨w.heap.size,2,none⟩) Kv _,Nat.le_refl _,?_⟩
 refine(ah.kept ho ((((Fr.refl (fun k=>k=w.heap.size) wc).setCell (p:=⟨w.heap.size,0,none⟩) (fun _=>rfl) (.int .i64 G)).setCell (p:=⟨w.heap.size,1,none⟩) (fun _=>rfl) (.int .i64 t)).setCell (p:=⟨w.heap.size,2,none⟩) (fun _=>rfl) (.slice A1 n k1)) fun k hk e=> ?_).mono fun k hk=> ?_
 ·have:=(OB.lt ho k hk).1;omega
 ·have:=(OB.lt ho k hk).1;omega
theorem fP {wc:World} {b gl:Nat} (hne:gl≠b) (hlt:gl<wc.heap.size) (x y z:Value) (k:Nat):(((wc.setCell ⟨b,0,none⟩ x).setCell ⟨b,1,none⟩ y).setCell ⟨b,2,none⟩ z).cell? ⟨gl,k,none⟩=wc.cell? ⟨gl,k,none⟩:=
 ((((Fr.refl (fun k=>k=b) wc).setCell (p:=⟨b,0,none⟩) (fun _=>rfl) x).setCell (p:=⟨b,1,none⟩) (fun _=>rfl) y).setCell (p:=⟨b,2,none⟩) (fun _=>rfl) z).cell (p:=⟨gl,k,none⟩) hlt hne
set_option maxHeartbeats 1000000 in
theorem BP (A:Option Addr) (n c:Nat) (h:DW w0 w S g m gl L) (hE:EW w0 ea) (hd:L.dead=true):
  Calls Tryz.prog 80 #[.pointer (some ⟨gl,0,none⟩),.slice A n c] w fun e w'=>e=.returned (.iface 368 (.pointer (some (ea 25))))∧w=w':=by
 have c6:=h.at.2.2.2.2
 have d1:=(h.errs hE).down
 rw[hd] at c6
 clear h hE
 go_enter Tryz.func80,Tryz.ntmps80
 go_wp2
 go_ret
 exact⟨rfl,rfl⟩
set_option maxHeartbeats 2000000 in
theorem BR (A:Option Addr) (n c s t:Nat) (text:List UInt8) (h:DW w0 w S g m gl L) (hE:EW w0 ea) (hL:L.Ok) (hb:RB w A n text) (hn:n≤1000000) (hs:L.slot=s) (hst:s+t=1) (hd:L.dead=false) (hg:2147483647≤L.gen):
  Calls Tryz.prog 80 #[.pointer (some ⟨gl,0,none⟩),.slice A n c] w fun e w'=>e=.returned (.iface 368 (.pointer (some (ea 26))))∧Below w.heap.size w w':=by
 have HD:=Hj h
 have HD0:Hid (gl≠w.heap.size):=Hj (by obtain⟨P',tv',rv',ws',hV',hP'⟩:=h.row;have:=hV'.lt;omega)
 have c1:=h.at.2.1
 have c2:w.cell? ⟨gl,2,none⟩=some (.int .i64 (s:Int)):=by rw[←hs];exact h.at.2.2.1
 have c6:=h.at.2.2.2.2
 rw[hd] at c6
 have c0:=h.at.1
 have g0:(L.gen:Int)≤2147483647:=by have:=hL.gen;omega
 have w1:IntKind.i64.wrap (1-(s:Int))=(t:Int):=by
  rw[IntWalk.i64_in _ (by omega)]
  omega
 obtain⟨G1,hG1⟩:∃G,G=L.gen+1:=⟨_,rfl⟩
 have w2:IntKind.i64.wrap ((L.gen:Int)+1)=(G1:Int):=by
  rw[IntWalk.i64_in _ (by omega)]
  omega
 have Nw:=Hj hG1
 clear hG1
 have xZ:=Hj hst
 have hsl:(s:Int)≤1:=by omega
 clear hst
 have FV:Hid (∀W,Below w.heap.size w W→Calls Tryz.prog 94 #[.slice A n c] W fun e w'=>∃A' cap,e=.returned (.slice A' n cap)∧OB w' W.heap.size (.slice A' n cap) text∧Below W.heap.size W w'):=Hj fun W hW=>(bT A n c text W (hb.keep (Kz hW)) (by omega)).mono fun e w' ⟨A',cap,h1,h2,h3⟩=>by
  rw[hb.1] at h1 h2
  exact⟨A',cap,h1,h2,h3⟩
 have d2:=(h.errs hE).full
 have HK:Hid (∀W,Below w.heap.size w W→W.cell? ⟨gl,1,none⟩=some (.int .i64 (L.gen:Int))∧W.cell? ⟨gl,2,none⟩=some (.int .i64 (s:Int))∧W.cell? ⟨gl,0,none⟩=some (.pointer (some ⟨g,0,none⟩))∧W.cell? ⟨25,0,none⟩=some (.iface 368 (.pointer (some (ea 26))))):=Hj fun W hW=>
  ⟨Kz hW _ _ c1,Kz hW _ _ c2,Kz hW _ _ c0,Kz hW _ _ d2⟩
 have Bd:Hid (Below w.heap.size w w.drew):=Hj (Below.drew (Below.refl _ _))
 have Bz:=(Below.refl w.heap.size w).alloc Kv (.cells #[.int .i64 0,.int .i64 0,.slice none 0 0] 171)
 have Ez:=Hj (heap_alloc_new w (.cells #[.int .i64 0,.int .i64 0,.slice none 0 0] 171))
 have Ri:=Hj (Below.drew Bz)
 have Sz:w.heap.size<(w.alloc (.cells #[.int .i64 0,.int .i64 0,.slice none 0 0] 171)).heap.size:=by show _<(w.heap.push _).size;rw[Array.size_push];omega
 have CU:=Hj Sz
 have nz:=HD0.out
 clear Bz Sz
 have HE:=Hj hE
 have q1:decide ((L.gen:Int)≥2147483647)=true:=decide_eq_true (by omega)
 have q1':decide (2147483647≤(L.gen:Int))=true:=decide_eq_true (by omega)
 clear h hE hb hL hd
 go_enter Tryz.func80,Tryz.ntmps80
 go_wp2_with fail
 go_region_held3 (fun w'=>w'.cell? ⟨gl,1,none⟩=some (.int .i64 (L.gen:Int))∧w'.cell? ⟨gl,2,none⟩=some (.int .i64 (s:Int))) (first | exact⟨by assumption,by assumption⟩ | exact KS.out _ _ _ | go_keep)
  (first
   | (go_at_call 94;(with_reducible refine(FV.out w.drew Bd.out).mono ?_);rintro e wc ⟨A1,k1,rfl,ho1,hb1⟩;have B1:Hid (Below w.heap.size w wc):=Hj (Below.cu hb1);obtain⟨x1,x2,x0,x3⟩:=HK.out wc B1.out;have O1:Hid (OB wc w.heap.size (.slice A1 n k1) text):=Hj ho1;have QZ:=BN (G1:Int) (t:Int) B1.out O1.out;clear ho1 hb1)
   | (go_at_call 94;(with_reducible refine(FV.out _ Ri.out).mono ?_);rintro e wc ⟨A1,k1,rfl,ho1,hb1⟩;have B1:Hid (Below w.heap.size w wc):=Hj (Ri.out.trans (hb1.mono (Nat.le_of_lt CU.out)));obtain⟨x1,x2,x0,x3⟩:=HK.out wc B1.out;have hrow:wc.heap[w.heap.size]?=_:=(hb1.block _ CU.out).trans Ez.out;have m0:wc.cell? ⟨w.heap.size,0,none⟩=some (.int .i64 0):=Kq 0 hrow;have m1:wc.cell? ⟨w.heap.size,1,none⟩=some (.int .i64 0):=Kq 1 hrow;have m2:wc.cell? ⟨w.heap.size,2,none⟩=some (.slice none 0 0):=Kq 2 hrow;have f0:wc.frozen? ⟨w.heap.size,0,none⟩=false:=Kj hrow;have f1:wc.frozen? ⟨w.heap.size,1,none⟩=false:=Kj hrow;have f2:wc.frozen? ⟨w.heap.size,2,none⟩=false:=Kj hrow;have KS:Hid (∀x y z,(((wc.setCell ⟨w.heap.size,0,none⟩ x).setCell ⟨w.heap.size,1,none⟩ y).setCell ⟨w.heap.size,2,none⟩ z).cell? ⟨gl,1,none⟩=some (.int .i64 (L.gen:Int))∧(((wc.setCell ⟨w.heap.size,0,none⟩ x).setCell ⟨w.heap.size,1,none⟩ y).setCell ⟨w.heap.size,2,none⟩ z).cell? ⟨gl,2,none⟩=some (.int .i64 (s:Int))):=Hj fun x y z=>⟨(fP HD0.out (World.block_lt_of_cell? _ _ x1) x y z 1).trans x1,(fP HD0.out (World.block_lt_of_cell? _ _ x1) x y z 2).trans x2⟩;have QZ:=BO (G1:Int) (t:Int) B1.out hrow (show OB wc (w.alloc (.cells #[.int .i64 0,.int .i64 0,.slice none 0 0] 171)).heap.size (.slice A1 n k1) text from ho1) CU.out;clear ho1 hb1 hrow)
   | fail)
 all_goals
  obtain⟨q,wz,hq,hwz,hQ⟩:=QZ
  first
   | rw[←hwz,←hq]
   | rw[←hq,←hwz]
  clear hq hwz
 all_goals
  obtain⟨z1,z2,z0,z3⟩:=HK.out wz hQ.bel
  have BQ:=Hj hQ.bel
  clear hQ x1 x2 x0 x3 c1 c2 c0 d2
  go_wp2_with fail
  refine wp_region_quiet_lit (by kernel_rfl) (by kernel_rfl) ?_
  repeat (any_goals (first | go_big_quiet_step (fail) | quiet_step (fail)))
  refine wpQuiet_nil ?_
  intro _ hw'
  obtain⟨nq,hw''⟩:=hw'
  subst hw''
  go_wp2
  go_ret
  exact⟨rfl,below_drewN BQ.out _⟩
set_option maxHeartbeats 2000000 in
theorem uZ (A:Option Addr) (n c s t:Nat) (text:List UInt8) (h:DW w0 w S g m gl L) (hE:EW w0 ea) (hok:m.Ok) (hL:L.Ok) (hb:RB w A n text) (hn:n≤1000000) (hs:L.slot=s) (hst:s+t=1) (hd:L.dead=false) (hg:L.gen<2147483647) (hsp:m.free<16+(n:Int)-((m.b (3+t)).length:Int)):
  Calls Tryz.prog 80 #[.pointer (some ⟨gl,0,none⟩),.slice A n c] w fun e w'=>e=.returned (.iface 368 (.pointer (some (ea 26))))∧Below w.heap.size w w':=by
 have HD:=Hj h
 have HD0:Hid (gl≠w.heap.size):=Hj (by obtain⟨P',tv',rv',ws',hV',hP'⟩:=h.row;have:=hV'.lt;omega)
 have c1:=h.at.2.1
 have c2:w.cell? ⟨gl,2,none⟩=some (.int .i64 (s:Int)):=by rw[←hs];exact h.at.2.2.1
 have c6:=h.at.2.2.2.2
 rw[hd] at c6
 have c0:=h.at.1
 have g0:(L.gen:Int)≤2147483647:=by have:=hL.gen;omega
 have w1:IntKind.i64.wrap (1-(s:Int))=(t:Int):=by
  rw[IntWalk.i64_in _ (by omega)]
  omega
 obtain⟨G1,hG1⟩:∃G,G=L.gen+1:=⟨_,rfl⟩
 have w2:IntKind.i64.wrap ((L.gen:Int)+1)=(G1:Int):=by
  rw[IntWalk.i64_in _ (by omega)]
  omega
 have Nw:=Hj hG1
 clear hG1
 have xZ:=Hj hst
 have hsl:(s:Int)≤1:=by omega
 clear hst
 have FV:Hid (∀W,Below w.heap.size w W→Calls Tryz.prog 94 #[.slice A n c] W fun e w'=>∃A' cap,e=.returned (.slice A' n cap)∧OB w' W.heap.size (.slice A' n cap) text∧Below W.heap.size W w'):=Hj fun W hW=>(bT A n c text W (hb.keep (Kz hW)) (by omega)).mono fun e w' ⟨A',cap,h1,h2,h3⟩=>by
  rw[hb.1] at h1 h2
  exact⟨A',cap,h1,h2,h3⟩
 have d2:=(h.errs hE).full
 have HK:Hid (∀W,Below w.heap.size w W→W.cell? ⟨gl,1,none⟩=some (.int .i64 (L.gen:Int))∧W.cell? ⟨gl,2,none⟩=some (.int .i64 (s:Int))∧W.cell? ⟨gl,0,none⟩=some (.pointer (some ⟨g,0,none⟩))∧W.cell? ⟨25,0,none⟩=some (.iface 368 (.pointer (some (ea 26))))):=Hj fun W hW=>
  ⟨Kz hW _ _ c1,Kz hW _ _ c2,Kz hW _ _ c0,Kz hW _ _ d2⟩
 have Bd:Hid (Below w.heap.size w w.drew):=Hj (Below.drew (Below.refl _ _))
 have Bz:=(Below.refl w.heap.size w).alloc Kv (.cells #[.int .i64 0,.int .i64 0,.slice none 0 0] 171)
 have Ez:=Hj (heap_alloc_new w (.cells #[.int .i64 0,.int .i64 0,.slice none 0 0] 171))
 have Ri:=Hj (Below.drew Bz)
 have Sz:w.heap.size<(w.alloc (.cells #[.int .i64 0,.int .i64 0,.slice none 0 0] 171)).heap.size:=by show _<(w.heap.push _).size;rw[Array.size_push];omega
 have CU:=Hj Sz
 have nz:=HD0.out
 clear Bz Sz
 have HE:=Hj hE
 have MN:=Hj hb.1
 have HGB:Hid (G1<4294967296):=Hj (by have:=Nw.out;omega)
 have q1:decide ((L.gen:Int)≥2147483647)=false:=decide_eq_false (by omega)
 have q1':decide (2147483647≤(L.gen:Int))=false:=decide_eq_false (by omega)
 have ht3:t<3:=by have:=xZ.out;omega
 obtain⟨sz,hsz⟩:∃z,z=(m.b (3+t)).length:=⟨_,rfl⟩
 have QJ:=hok.len (3+t) (by omega)
 rw[←hsz] at QJ
 obtain⟨F,hF⟩:∃F,F=m.free:=⟨_,rfl⟩
 have HSi:Hid (∀W,DW w0 W S g m gl L→Calls Tryz.prog 102 #[.pointer (some ⟨g,0,none⟩),.int .i64 (t:Int)] W fun e w'=>e=.returned (.int .i64 (sz:Int))∧W=w'):=Hj fun W hd=>by rw[hsz];exact QH t ht3 hd
 have U5:Hid (∀W,DW w0 W S g m gl L→Calls Tryz.prog 137 #[.pointer (some ⟨g,0,none⟩)] W fun e w'=>e=.returned (.int .i64 F)∧W=w'):=Hj fun W hd=>by rw[hF];exact BL hd hok
 rw[←hsz,←hF] at hsp
 have q2:decide (16+(n:Int)-(sz:Int)>F)=true:=decide_eq_true (by omega)
 have q2':decide (F<16+(n:Int)-(sz:Int))=true:=decide_eq_true (by omega)
 have e3:(16:Int)+(n:Int)-(sz:Int)≤2000000:=by omega
 have e4:(-2000000:Int)≤(16:Int)+(n:Int)-(sz:Int):=by omega
 have e5:IntKind.i64.wrap (16+(n:Int)-(sz:Int))=16+(n:Int)-(sz:Int):=IntWalk.i64_in _ (by omega)
 clear h hE hb hL hd hok hsp hsz hF QJ
 go_enter Tryz.func80,Tryz.ntmps80
 go_wp2_with fail
 go_region_held3 (fun w'=>w'.cell? ⟨gl,1,none⟩=some (.int .i64 (L.gen:Int))∧w'.cell? ⟨gl,2,none⟩=some (.int .i64 (s:Int))) (first | exact⟨by assumption,by assumption⟩ | exact KS.out _ _ _ | go_keep)
  (first
   | (go_at_call 94;(with_reducible refine(FV.out w.drew Bd.out).mono ?_);rintro e wc ⟨A1,k1,rfl,ho1,hb1⟩;have B1:Hid (Below w.heap.size w wc):=Hj (Below.cu hb1);obtain⟨x1,x2,x0,x3⟩:=HK.out wc B1.out;have O1:Hid (OB wc w.heap.size (.slice A1 n k1) text):=Hj ho1;have QZ:=BN (G1:Int) (t:Int) B1.out O1.out;clear ho1 hb1)
   | (go_at_call 94;(with_reducible refine(FV.out _ Ri.out).mono ?_);rintro e wc ⟨A1,k1,rfl,ho1,hb1⟩;have B1:Hid (Below w.heap.size w wc):=Hj (Ri.out.trans (hb1.mono (Nat.le_of_lt CU.out)));obtain⟨x1,x2,x0,x3⟩:=HK.out wc B1.out;have hrow:wc.heap[w.heap.size]?=_:=(hb1.block _ CU.out).trans Ez.out;have m0:wc.cell? ⟨w.heap.size,0,none⟩=some (.int .i64 0):=Kq 0 hrow;have m1:wc.cell? ⟨w.heap.size,1,none⟩=some (.int .i64 0):=Kq 1 hrow;have m2:wc.cell? ⟨w.heap.size,2,none⟩=some (.slice none 0 0):=Kq 2 hrow;have f0:wc.frozen? ⟨w.heap.size,0,none⟩=false:=Kj hrow;have f1:wc.frozen? ⟨w.heap.size,1,none⟩=false:=Kj hrow;have f2:wc.frozen? ⟨w.heap.size,2,none⟩=false:=Kj hrow;have KS:Hid (∀x y z,(((wc.setCell ⟨w.heap.size,0,none⟩ x).setCell ⟨w.heap.size,1,none⟩ y).setCell ⟨w.heap.size,2,none⟩ z).cell? ⟨gl,1,none⟩=some (.int .i64 (L.gen:Int))∧(((wc.setCell ⟨w.heap.size,0,none⟩ x).setCell ⟨w.heap.size,1,none⟩ y).setCell ⟨w.heap.size,2,none⟩ z).cell? ⟨gl,2,none⟩=some (.int .i64 (s:Int))):=Hj fun x y z=>⟨(fP HD0.out (World.block_lt_of_cell? _ _ x1) x y z 1).trans x1,(fP HD0.out (World.block_lt_of_cell? _ _ x1) x y z 2).trans x2⟩;have QZ:=BO (G1:Int) (t:Int) B1.out hrow (show OB wc (w.alloc (.cells #[.int .i64 0,.int .i64 0,.slice none 0 0] 171)).heap.size (.slice A1 n k1) text from ho1) CU.out;clear ho1 hb1 hrow)
   | fail)
 all_goals
  obtain⟨q,wz,hq,hwz,hQ⟩:=QZ
  first
   | rw[←hwz,←hq]
   | rw[←hq,←hwz]
  clear hq hwz
 all_goals
  obtain⟨z1,z2,z0,z3⟩:=HK.out wz hQ.bel
  have BQ:=Hj hQ.bel
  have OQ:=Hj hQ.own
  have HQr:=Hj hQ.row
  have YJ:=Hj hQ.up
  have y0:wz.cell? ⟨q,0,none⟩=some (.int .i64 (G1:Int)):=Kq 0 hQ.row
  have y1:wz.cell? ⟨q,1,none⟩=some (.int .i64 (t:Int)):=Kq 1 hQ.row
  have y2:wz.cell? ⟨q,2,none⟩=some (.slice A1 n k1):=Kq 2 hQ.row
  have HKZ:Hid (∀W,Below wz.heap.size wz W→W.cell? ⟨q,0,none⟩=some (.int .i64 (G1:Int))∧W.cell? ⟨q,1,none⟩=some (.int .i64 (t:Int))∧W.cell? ⟨q,2,none⟩=some (.slice A1 n k1)):=Hj fun W hW=>⟨Kz hW _ _ y0,Kz hW _ _ y1,Kz hW _ _ y2⟩
  obtain⟨hnk,hkm,VF⟩:n≤k1∧k1≤maxLen∧RB wz A1 n text:=by
   obtain⟨A2,c2',e2',i1,i2,i3⟩:=hQ.own.form
   injection e2' with e3 e4 e5
   subst e3
   subst e5
   rw[MN.out] at i1 i3
   exact⟨i1,i2,i3⟩
  have Xv:=Hj VF
  have MS:=Hj (And.intro hnk hkm)
  have VD:Hid (∀W,Below wz.heap.size wz W→Calls Tryz.prog 136 #[.agg #[.int .i64 (G1:Int),.int .i64 (t:Int),.slice A1 n k1]] W fun e w'=>∃A' cap,e=.returned (.slice A' (16+n) cap)∧Below W.heap.size W w'):=Hj fun W hW=>
   (l9 G1 t A1 n k1 text W (Xv.out.keep (Kz hW)) MS.out.1 MS.out.2 HGB.out (by omega) (HE.out.sha.keep (Kz (HD.out.bel.trans (BQ.out.trans (hW.mono BQ.out.size) |>.mono HD.out.bel.size))))).mono fun e w' ⟨v,h1,h2,h3⟩=>by
    obtain⟨A',cap,rfl,_,_,h6⟩:=h2.form
    rw[eG,MN.out] at h1
    exact⟨A',cap,h1,h3⟩
  have Bzz:Hid (Below wz.heap.size wz wz.drew):=Hj (Below.drew (Below.refl _ _))
  clear hQ x1 x2 x0 x3 c1 c2 c0 d2 VF hnk hkm z2
  go_wp2_with fail
  go_region_held3 (fun w'=>w'.cell? ⟨gl,1,none⟩=some (.int .i64 (L.gen:Int))∧w'.cell? ⟨gl,0,none⟩=some (.pointer (some ⟨g,0,none⟩))∧w'.cell? ⟨q,0,none⟩=some (.int .i64 (G1:Int))∧w'.cell? ⟨q,1,none⟩=some (.int .i64 (t:Int))∧w'.cell? ⟨q,2,none⟩=some (.slice A1 n k1)) (first | exact⟨by assumption,by assumption,by assumption,by assumption,by assumption⟩ | go_keep)
   (first
    | (go_at_call 136;((with_reducible refine(VD.out wz.drew Bzz.out).mono ?_);rintro e w2 ⟨A2,k2,rfl,hb2⟩;have B2:Hid (Below wz.heap.size wz w2):=Hj (Below.cu hb2);have L8:Hid (Below w.heap.size w w2):=Hj (BQ.out.trans (B2.out.mono BQ.out.size));obtain⟨u1,u2,u0,u3⟩:=HK.out w2 L8.out;obtain⟨v0,v1,v2⟩:=HKZ.out w2 B2.out;have D2:=Hj (HD.out.below L8.out);clear hb2 u2))
    | (go_at_call 102;((with_reducible refine(HSi.out w2 D2.out).mono ?_);rintro e w3 ⟨rfl,rfl⟩))
    | (go_at_call 137;((with_reducible refine(U5.out w2 D2.out).mono ?_);rintro e w3 ⟨rfl,rfl⟩))
    | fail)
 all_goals
  go_wp2
  go_ret
  exact⟨rfl,L8.out⟩
end
section
variable {w w' w0:World} {S P:Nat→Prop} {gl g:Nat} {m:DM} {L L':LM} {ea:Nat→Addr} {tv rv:Value} {ws:List (List UInt8×Value)}
/-- The world behind the five stores. -/
def five (w:World) (gl:Nat) (G t v:Value):World:=((((w.setCell ⟨gl,1,none⟩ G).setCell ⟨gl,2,none⟩ t).setCell ⟨gl,3,none⟩ v).setCell ⟨gl,4,none⟩ (.slice none 0 0)).setCell ⟨gl,5,none⟩ (.int .i64 0)
theorem QK {v:Value} {text:List UInt8} (h:fG w P gl g L tv rv ws) (G1 t:Nat) (hG:G1=L.gen+1) (ht:t=1-L.slot) (ho:OB w 0 v text):
  nU (five w gl (.int .i64 (G1:Int)) (.int .i64 (t:Int)) v) (fun k=>ext P w (five w gl (.int .i64 (G1:Int)) (.int .i64 (t:Int)) v) k∨v.ownBlock=some k) gl g (L.new text)∧Fr P w (five w gl (.int .i64 (G1:Int)) (.int .i64 (t:Int)) v):=by
 subst hG
 subst ht
 have hF:Fr (fun k=>k=gl) w (five w gl (.int .i64 ((L.gen+1:Nat):Int)) (.int .i64 ((1-L.slot:Nat):Int)) v):=
  ((((((Fr.refl (fun k=>k=gl) w).setCell (p:=⟨gl,1,none⟩) (fun _=>rfl) _).setCell (p:=⟨gl,2,none⟩) (fun _=>rfl) _).setCell (p:=⟨gl,3,none⟩) (fun _=>rfl) _).setCell (p:=⟨gl,4,none⟩) (fun _=>rfl) _).setCell (p:=⟨gl,5,none⟩) (fun _=>rfl) _)
 refine⟨⟨v,.slice none 0 0,[],?_,ah.kept ho hF fun k hk e=> ?_,ah.nil _ _ _ _,rfl,fun x hx=>(by cases hx),.inl (.inl h.fE),fun k hk=>.inr hk,fun k hk=>(by cases hk),fun x hx=>(by cases hx)⟩,hF.mono fun k _ e=>by subst e;exact h.fE⟩
 ·exact heap_setCell_same _ _ _ _ _ _ (heap_setCell_same _ _ _ _ _ _ (heap_setCell_same _ _ _ _ _ _ (heap_setCell_same _ _ _ _ _ _ (heap_setCell_same _ _ _ _ _ _ h.cells))))
 ·subst e
  obtain⟨cur,hc⟩:=ak ho hk
  exact absurd (aj hc h.cells) (by decide)
set_option maxHeartbeats 4000000 in
theorem Ic (A:Option Addr) (n c s t:Nat) (text:List UInt8) (h:DW w0 w S g m gl L) (hE:EW w0 ea) (hok:m.Ok) (hL:L.Ok) (hb:RB w A n text) (hn:n≤1000000) (hs:L.slot=s) (hst:s+t=1) (hd:L.dead=false) (hg:L.gen<2147483647) (hw:m.waits.length≤1000) (hsp:16+(n:Int)-((m.b (3+t)).length:Int)≤m.free):
  Calls Tryz.prog 80 #[.pointer (some ⟨gl,0,none⟩),.slice A n c] w fun e w'=>e=.returned (bK ea (MR (Ur m (t:Int) (dh (L.gen+1) text))))∧DW w0 w' (ext S w w') g (Jz m (t:Int) (dh (L.gen+1) text)) gl (if Ur m (t:Int) (dh (L.gen+1) text)=0 then L.new text else {L with dead:=true})∧Fr S w w':=by
 have HNB:Hid (16+n≤1048576):=Hj (by
  have h1:=hok.mO
  unfold DM.free at hsp
  have:t=0∨t=1:=by omega
  rcases this with rfl | rfl
  ·change 16+(n:Int)-((m.b 3).length:Int)≤_ at hsp;omega
  ·change 16+(n:Int)-((m.b 4).length:Int)≤_ at hsp;omega)
 have HD:=Hj h
 have HD0:Hid (gl≠w.heap.size):=Hj (by obtain⟨P',tv',rv',ws',hV',hP'⟩:=h.row;have:=hV'.lt;omega)
 have c1:=h.at.2.1
 have c2:w.cell? ⟨gl,2,none⟩=some (.int .i64 (s:Int)):=by rw[←hs];exact h.at.2.2.1
 have c6:=h.at.2.2.2.2
 rw[hd] at c6
 have c0:=h.at.1
 have g0:(L.gen:Int)≤2147483647:=by have:=hL.gen;omega
 have w1:IntKind.i64.wrap (1-(s:Int))=(t:Int):=by
  rw[IntWalk.i64_in _ (by omega)]
  omega
 obtain⟨G1,hG1⟩:∃G,G=L.gen+1:=⟨_,rfl⟩
 have w2:IntKind.i64.wrap ((L.gen:Int)+1)=(G1:Int):=by
  rw[IntWalk.i64_in _ (by omega)]
  omega
 have Nw:=Hj hG1
 clear hG1
 have xZ:=Hj hst
 have hsl:(s:Int)≤1:=by omega
 clear hst
 have FV:Hid (∀W,Below w.heap.size w W→Calls Tryz.prog 94 #[.slice A n c] W fun e w'=>∃A' cap,e=.returned (.slice A' n cap)∧OB w' W.heap.size (.slice A' n cap) text∧Below W.heap.size W w'):=Hj fun W hW=>(bT A n c text W (hb.keep (Kz hW)) (by omega)).mono fun e w' ⟨A',cap,h1,h2,h3⟩=>by
  rw[hb.1] at h1 h2
  exact⟨A',cap,h1,h2,h3⟩
 have d2:=(h.errs hE).full
 have HK:Hid (∀W,Below w.heap.size w W→W.cell? ⟨gl,1,none⟩=some (.int .i64 (L.gen:Int))∧W.cell? ⟨gl,2,none⟩=some (.int .i64 (s:Int))∧W.cell? ⟨gl,0,none⟩=some (.pointer (some ⟨g,0,none⟩))∧W.cell? ⟨25,0,none⟩=some (.iface 368 (.pointer (some (ea 26))))):=Hj fun W hW=>
  ⟨Kz hW _ _ c1,Kz hW _ _ c2,Kz hW _ _ c0,Kz hW _ _ d2⟩
 have Bd:Hid (Below w.heap.size w w.drew):=Hj (Below.drew (Below.refl _ _))
 have Bz:=(Below.refl w.heap.size w).alloc Kv (.cells #[.int .i64 0,.int .i64 0,.slice none 0 0] 171)
 have Ez:=Hj (heap_alloc_new w (.cells #[.int .i64 0,.int .i64 0,.slice none 0 0] 171))
 have Ri:=Hj (Below.drew Bz)
 have Sz:w.heap.size<(w.alloc (.cells #[.int .i64 0,.int .i64 0,.slice none 0 0] 171)).heap.size:=by show _<(w.heap.push _).size;rw[Array.size_push];omega
 have CU:=Hj Sz
 have nz:=HD0.out
 clear Bz Sz
 have HE:=Hj hE
 have MN:=Hj hb.1
 have HGB:Hid (G1<4294967296):=Hj (by have:=Nw.out;omega)
 have q1:decide ((L.gen:Int)≥2147483647)=false:=decide_eq_false (by omega)
 have q1':decide (2147483647≤(L.gen:Int))=false:=decide_eq_false (by omega)
 have ht3:t<3:=by have:=xZ.out;omega
 obtain⟨sz,hsz⟩:∃z,z=(m.b (3+t)).length:=⟨_,rfl⟩
 have QJ:=hok.len (3+t) (by omega)
 rw[←hsz] at QJ
 obtain⟨F,hF⟩:∃F,F=m.free:=⟨_,rfl⟩
 have HSi:Hid (∀W,DW w0 W S g m gl L→Calls Tryz.prog 102 #[.pointer (some ⟨g,0,none⟩),.int .i64 (t:Int)] W fun e w'=>e=.returned (.int .i64 (sz:Int))∧W=w'):=Hj fun W hd=>by rw[hsz];exact QH t ht3 hd
 have U5:Hid (∀W,DW w0 W S g m gl L→Calls Tryz.prog 137 #[.pointer (some ⟨g,0,none⟩)] W fun e w'=>e=.returned (.int .i64 F)∧W=w'):=Hj fun W hd=>by rw[hF];exact BL hd hok
 rw[←hsz,←hF] at hsp
 have q2:decide (16+(n:Int)-(sz:Int)>F)=false:=decide_eq_false (by omega)
 have q2':decide (F<16+(n:Int)-(sz:Int))=false:=decide_eq_false (by omega)
 have e3:(16:Int)+(n:Int)-(sz:Int)≤2000000:=by omega
 have e4:(-2000000:Int)≤(16:Int)+(n:Int)-(sz:Int):=by omega
 have e5:IntKind.i64.wrap (16+(n:Int)-(sz:Int))=16+(n:Int)-(sz:Int):=IntWalk.i64_in _ (by omega)
 have ng:Hid (∀W A1 k1,DW w0 W S g m gl L→RB W A1 n text→Off S A1→n≤k1→k1≤maxLen→Calls Tryz.prog 139 #[.pointer (some ⟨gl,0,none⟩),.agg #[.int .i64 (G1:Int),.int .i64 (t:Int),.slice A1 n k1]] W fun e w'=>e=.returned (bK ea (Ur m (t:Int) (dh (L.gen+1) text)))∧DW w0 w' (ext S W w') g (Jz m (t:Int) (dh (L.gen+1) text)) gl L∧Fr S W w'):=Hj fun W A1 k1 hd hr hA h1 h2=>by
  have:=swap_any G1 t A1 n k1 text hd hE hok hr hA h1 h2 HNB.out HGB.out hw
  rw[Nw.out] at this ⊢
  exact this
 have HGL:Hid (G1=L.gen+1):=Nw
 have HTS:Hid (t=1-L.slot):=Hj (by have:=xZ.out;omega)
 have Yg:Hid (∀k,S k→k<w.heap.size):=Hj h.hi
 clear h hE hb hL hd hok hsp hsz hF QJ hw
 generalize Jz m (t:Int) (dh (L.gen+1) text)=m1 at*
 generalize Ur m (t:Int) (dh (L.gen+1) text)=e1 at*
 by_cases he:e1=0
 ·subst he
  rw[if_pos rfl,show MR 0=0 from rfl]
  have Hz:=Hj (bQ ea)
  rw[Hz.out] at ng ⊢
  have HDn:Hid (∀W S',DW w0 W S' g m1 gl L→Calls Tryz.prog 138 #[.pointer (some ⟨gl,0,none⟩),.nilIface] W fun e w'=>e=.returned .nilIface∧DW w0 w' (ext S' W w') g m1 gl L∧Fr S' W w'):=Hj fun W S' hd=>by
   have:=oC 0 hd HE.out
   rw[show MR 0=0 from rfl,Hz.out,show L.done 0=L from if_pos rfl] at this
   exact this
  go_enter Tryz.func80,Tryz.ntmps80
  go_wp2_with fail
  go_region_held3 (fun w'=>w'.cell? ⟨gl,1,none⟩=some (.int .i64 (L.gen:Int))∧w'.cell? ⟨gl,2,none⟩=some (.int .i64 (s:Int))) (first | exact⟨by assumption,by assumption⟩ | exact KS.out _ _ _ | go_keep)
   (first
    | (go_at_call 94;(with_reducible refine(FV.out w.drew Bd.out).mono ?_);rintro e wc ⟨A1,k1,rfl,ho1,hb1⟩;have B1:Hid (Below w.heap.size w wc):=Hj (Below.cu hb1);obtain⟨x1,x2,x0,x3⟩:=HK.out wc B1.out;have O1:Hid (OB wc w.heap.size (.slice A1 n k1) text):=Hj ho1;have QZ:=BN (G1:Int) (t:Int) B1.out O1.out;clear ho1 hb1)
    | (go_at_call 94;(with_reducible refine(FV.out _ Ri.out).mono ?_);rintro e wc ⟨A1,k1,rfl,ho1,hb1⟩;have B1:Hid (Below w.heap.size w wc):=Hj (Ri.out.trans (hb1.mono (Nat.le_of_lt CU.out)));obtain⟨x1,x2,x0,x3⟩:=HK.out wc B1.out;have hrow:wc.heap[w.heap.size]?=_:=(hb1.block _ CU.out).trans Ez.out;have m0:wc.cell? ⟨w.heap.size,0,none⟩=some (.int .i64 0):=Kq 0 hrow;have m1:wc.cell? ⟨w.heap.size,1,none⟩=some (.int .i64 0):=Kq 1 hrow;have m2:wc.cell? ⟨w.heap.size,2,none⟩=some (.slice none 0 0):=Kq 2 hrow;have f0:wc.frozen? ⟨w.heap.size,0,none⟩=false:=Kj hrow;have f1:wc.frozen? ⟨w.heap.size,1,none⟩=false:=Kj hrow;have f2:wc.frozen? ⟨w.heap.size,2,none⟩=false:=Kj hrow;have KS:Hid (∀x y z,(((wc.setCell ⟨w.heap.size,0,none⟩ x).setCell ⟨w.heap.size,1,none⟩ y).setCell ⟨w.heap.size,2,none⟩ z).cell? ⟨gl,1,none⟩=some (.int .i64 (L.gen:Int))∧(((wc.setCell ⟨w.heap.size,0,none⟩ x).setCell ⟨w.heap.size,1,none⟩ y).setCell ⟨w.heap.size,2,none⟩ z).cell? ⟨gl,2,none⟩=some (.int .i64 (s:Int))):=Hj fun x y z=>⟨(fP HD0.out (World.block_lt_of_cell? _ _ x1) x y z 1).trans x1,(fP HD0.out (World.block_lt_of_cell? _ _ x1) x y z 2).trans x2⟩;have QZ:=BO (G1:Int) (t:Int) B1.out hrow (show OB wc (w.alloc (.cells #[.int .i64 0,.int .i64 0,.slice none 0 0] 171)).heap.size (.slice A1 n k1) text from ho1) CU.out;clear ho1 hb1 hrow)
    | fail)
  all_goals
   obtain⟨q,wz,hq,hwz,hQ⟩:=QZ
   first
    | rw[←hwz,←hq]
    | rw[←hq,←hwz]
   clear hq hwz
  all_goals
   obtain⟨z1,z2,z0,z3⟩:=HK.out wz hQ.bel
   have BQ:=Hj hQ.bel
   have OQ:=Hj hQ.own
   have HQr:=Hj hQ.row
   have YJ:=Hj hQ.up
   have y0:wz.cell? ⟨q,0,none⟩=some (.int .i64 (G1:Int)):=Kq 0 hQ.row
   have y1:wz.cell? ⟨q,1,none⟩=some (.int .i64 (t:Int)):=Kq 1 hQ.row
   have y2:wz.cell? ⟨q,2,none⟩=some (.slice A1 n k1):=Kq 2 hQ.row
   have HKZ:Hid (∀W,Below wz.heap.size wz W→W.cell? ⟨q,0,none⟩=some (.int .i64 (G1:Int))∧W.cell? ⟨q,1,none⟩=some (.int .i64 (t:Int))∧W.cell? ⟨q,2,none⟩=some (.slice A1 n k1)):=Hj fun W hW=>⟨Kz hW _ _ y0,Kz hW _ _ y1,Kz hW _ _ y2⟩
   obtain⟨hnk,hkm,VF⟩:n≤k1∧k1≤maxLen∧RB wz A1 n text:=by
    obtain⟨A2,c2',e2',i1,i2,i3⟩:=hQ.own.form
    injection e2' with e3 e4 e5
    subst e3
    subst e5
    rw[MN.out] at i1 i3
    exact⟨i1,i2,i3⟩
   have Xv:=Hj VF
   have MS:=Hj (And.intro hnk hkm)
   have VD:Hid (∀W,Below wz.heap.size wz W→Calls Tryz.prog 136 #[.agg #[.int .i64 (G1:Int),.int .i64 (t:Int),.slice A1 n k1]] W fun e w'=>∃A' cap,e=.returned (.slice A' (16+n) cap)∧Below W.heap.size W w'):=Hj fun W hW=>
    (l9 G1 t A1 n k1 text W (Xv.out.keep (Kz hW)) MS.out.1 MS.out.2 HGB.out (by omega) (HE.out.sha.keep (Kz (HD.out.bel.trans (BQ.out.trans (hW.mono BQ.out.size) |>.mono HD.out.bel.size))))).mono fun e w' ⟨v,h1,h2,h3⟩=>by
     obtain⟨A',cap,rfl,_,_,h6⟩:=h2.form
     rw[eG,MN.out] at h1
     exact⟨A',cap,h1,h3⟩
   have Bzz:Hid (Below wz.heap.size wz wz.drew):=Hj (Below.drew (Below.refl _ _))
   clear hQ x1 x2 x0 x3 c1 c2 c0 d2 VF hnk hkm z2
   go_wp2_with fail
   go_region_held3 (fun w'=>w'.cell? ⟨gl,1,none⟩=some (.int .i64 (L.gen:Int))∧w'.cell? ⟨gl,0,none⟩=some (.pointer (some ⟨g,0,none⟩))∧w'.cell? ⟨q,0,none⟩=some (.int .i64 (G1:Int))∧w'.cell? ⟨q,1,none⟩=some (.int .i64 (t:Int))∧w'.cell? ⟨q,2,none⟩=some (.slice A1 n k1)) (first | exact⟨by assumption,by assumption,by assumption,by assumption,by assumption⟩ | go_keep)
    (first
     | (go_at_call 136;((with_reducible refine(VD.out wz.drew Bzz.out).mono ?_);rintro e w2 ⟨A2,k2,rfl,hb2⟩;have B2:Hid (Below wz.heap.size wz w2):=Hj (Below.cu hb2);have L8:Hid (Below w.heap.size w w2):=Hj (BQ.out.trans (B2.out.mono BQ.out.size));obtain⟨u1,u2,u0,u3⟩:=HK.out w2 L8.out;obtain⟨v0,v1,v2⟩:=HKZ.out w2 B2.out;have D2:=Hj (HD.out.below L8.out);clear hb2 u2))
     | (go_at_call 102;((with_reducible refine(HSi.out w2 D2.out).mono ?_);rintro e w3 ⟨rfl,rfl⟩))
     | (go_at_call 137;((with_reducible refine(U5.out w2 D2.out).mono ?_);rintro e w3 ⟨rfl,rfl⟩))
     | fail)
  all_goals
   have OF:Hid (Off S A1):=Hj fun p e hs=>by
    subst e
    have:=(OB.lt OQ.out p.block (by rfl)).1
    have:=Yg.out _ hs
    omega
  all_goals
   go_wp2_with (first
    | (go_at_call 139;((with_reducible refine(ng.out w2 A1 k1 D2.out (Xv.out.keep (Kz B2.out)) OF.out MS.out.1 MS.out.2).mono ?_);rintro e w3 ⟨rfl,hd3,hf3⟩;have D3:=Hj hd3;have F3:=Hj hf3;clear hd3 hf3))
    | (go_at_call 138;((with_reducible refine(HDn.out w3 _ D3.out).mono ?_);rintro e w4 ⟨rfl,hd4,hf4⟩;have DN:=DW.then F3.out ⟨hd4,hf4⟩;have hq2:q<w2.heap.size:=Nat.lt_of_lt_of_le (Cq HQr.out) B2.out.size;have hqS:¬S q:=fun e=>absurd (Yg.out _ e) (Nat.not_lt_of_le YJ.out);have t0:w4.cell? ⟨q,0,none⟩=some (.int .i64 (G1:Int)):=(DN.2.cell (p:=⟨q,0,none⟩) hq2 hqS).trans v0;have t1:w4.cell? ⟨q,1,none⟩=some (.int .i64 (t:Int)):=(DN.2.cell (p:=⟨q,1,none⟩) hq2 hqS).trans v1;have t2:w4.cell? ⟨q,2,none⟩=some (.slice A1 n k1):=(DN.2.cell (p:=⟨q,2,none⟩) hq2 hqS).trans v2;have OX:OB w4 w.heap.size (.slice A1 n k1) text:=ah.kept (OQ.out.below B2.out) DN.2 (fun k hk hs=>absurd (Yg.out _ hs) (Nat.not_lt_of_le (OB.lt OQ.out k hk).1));obtain⟨P,tv,rv,ws,hV,hPS,hU⟩:=DN.1.useX (fun k=>(Value.slice A1 n k1).ownBlock=some k) (fun k hk hs=>by {have i1:=(OB.lt OQ.out k hk).1;have i2:=(OB.lt (OQ.out.below B2.out) k hk).2;rcases hs with hs | hs;exact absurd (Yg.out _ hs) (Nat.not_lt_of_le i1);exact absurd i2 (Nat.not_lt_of_le hs.1)}) (fun k hk=>Cz HD.out.bel.size (OB.lt OQ.out k hk).1) (fun k hk=>(OB.lt OX k hk).2);have HV:=Hj hV;have HU:=Hj hU;have OX':=Hj OX;have HF4:=Hj DN.2;have p1:w4.cell? ⟨gl,1,none⟩=some (.int .i64 (L.gen:Int)):=hV.cell 1;have p2:w4.cell? ⟨gl,2,none⟩=some (.int .i64 (L.slot:Int)):=hV.cell 2;have p3:w4.cell? ⟨gl,3,none⟩=some tv:=hV.cell 3;have p4:w4.cell? ⟨gl,4,none⟩=some rv:=hV.cell 4;have p5:w4.cell? ⟨gl,5,none⟩=some (.int .i64 (endOf L.recs:Int)):=hV.cell 5;have r1:=hV.free 1;have r2:=hV.free 2;have r3:=hV.free 3;have r4:=hV.free 4;have r5:=hV.free 5;clear hV hPS hU DN OX hd4 hf4 hq2 hqS))
    | fail)
  all_goals
   go_ret
   have Y:=QK HV.out G1 t HGL.out HTS.out (OX'.out.mono (Nat.zero_le _))
   have Z:=HU.out _ _ Y.1 Y.2
   refine⟨rfl,?_⟩
   have hfz:Fr S w2 (five w4 gl (.int .i64 (G1:Int)) (.int .i64 (t:Int)) (.slice A1 n k1)):=HF4.out.ext Z.2
   refine⟨⟨Z.1.dl.mono fun k hk=> ?_,?_,?_,Z.1.bel⟩,(Fr.of_below (S:=S) L8.out).trans hfz fun _ _ hk=>hk⟩
   ·have i1:=L8.out.size
    have i2:=HF4.out.size
    have i3:=Y.2.size
    rcases hk with hk | hk
    ·exact (iC i2 i3 hk).imp id fun hk=>⟨Cz i1 hk.1,hk.2⟩
    ·exact .inr ⟨(OB.lt OQ.out k hk).1,Nat.lt_of_lt_of_le (OB.lt OX'.out k hk).2 i3⟩
   ·exact jf HD.out.up HD.out.bel.size
   ·exact kN Yg.out (Cz L8.out.size hfz.size)
 ·rw [if_neg he]
  have Xu:Hid (bK ea (MR e1)=.iface 368 (.pointer (some (ea 25)))):=Hj (by unfold MR;rw[if_neg he];rfl)
  have HLD:Hid (L.done e1={L with dead:=true}):=Hj (by unfold LM.done;rw[if_neg he])
  have HDn:Hid (∀W S',DW w0 W S' g m1 gl L→Calls Tryz.prog 138 #[.pointer (some ⟨gl,0,none⟩),bK ea e1] W fun e w'=>e=.returned (.iface 368 (.pointer (some (ea 25))))∧DW w0 w' (ext S' W w') g m1 gl {L with dead:=true}∧Fr S' W w'):=Hj fun W S' hd=>by
   have:=oC e1 hd HE.out
   rw[Xu.out,HLD.out] at this
   exact this
  rw[Xu.out]
  clear Xu HLD he
  generalize bK ea e1=E1 at*
  go_enter Tryz.func80,Tryz.ntmps80
  go_wp2_with fail
  go_region_held3 (fun w'=>w'.cell? ⟨gl,1,none⟩=some (.int .i64 (L.gen:Int))∧w'.cell? ⟨gl,2,none⟩=some (.int .i64 (s:Int))) (first | exact⟨by assumption,by assumption⟩ | exact KS.out _ _ _ | go_keep)
   (first
    | (go_at_call 94;(with_reducible refine(FV.out w.drew Bd.out).mono ?_);rintro e wc ⟨A1,k1,rfl,ho1,hb1⟩;have B1:Hid (Below w.heap.size w wc):=Hj (Below.cu hb1);obtain⟨x1,x2,x0,x3⟩:=HK.out wc B1.out;have O1:Hid (OB wc w.heap.size (.slice A1 n k1) text):=Hj ho1;have QZ:=BN (G1:Int) (t:Int) B1.out O1.out;clear ho1 hb1)
    | (go_at_call 94;(with_reducible refine(FV.out _ Ri.out).mono ?_);rintro e wc ⟨A1,k1,rfl,ho1,hb1⟩;have B1:Hid (Below w.heap.size w wc):=Hj (Ri.out.trans (hb1.mono (Nat.le_of_lt CU.out)));obtain⟨x1,x2,x0,x3⟩:=HK.out wc B1.out;have hrow:wc.heap[w.heap.size]?=_:=(hb1.block _ CU.out).trans Ez.out;have m0:wc.cell? ⟨w.heap.size,0,none⟩=some (.int .i64 0):=Kq 0 hrow;have m1:wc.cell? ⟨w.heap.size,1,none⟩=some (.int .i64 0):=Kq 1 hrow;have m2:wc.cell? ⟨w.heap.size,2,none⟩=some (.slice none 0 0):=Kq 2 hrow;have f0:wc.frozen? ⟨w.heap.size,0,none⟩=false:=Kj hrow;have f1:wc.frozen? ⟨w.heap.size,1,none⟩=false:=Kj hrow;have f2:wc.frozen? ⟨w.heap.size,2,none⟩=false:=Kj hrow;have KS:Hid (∀x y z,(((wc.setCell ⟨w.heap.size,0,none⟩ x).setCell ⟨w.heap.size,1,none⟩ y).setCell ⟨w.heap.size,2,none⟩ z).cell? ⟨gl,1,none⟩=some (.int .i64 (L.gen:Int))∧(((wc.setCell ⟨w.heap.size,0,none⟩ x).setCell ⟨w.heap.size,1,none⟩ y).setCell ⟨w.heap.size,2,none⟩ z).cell? ⟨gl,2,none⟩=some (.int .i64 (s:Int))):=Hj fun x y z=>⟨(fP HD0.out (World.block_lt_of_cell? _ _ x1) x y z 1).trans x1,(fP HD0.out (World.block_lt_of_cell? _ _ x1) x y z 2).trans x2⟩;have QZ:=BO (G1:Int) (t:Int) B1.out hrow (show OB wc (w.alloc (.cells #[.int .i64 0,.int .i64 0,.slice none 0 0] 171)).heap.size (.slice A1 n k1) text from ho1) CU.out;clear ho1 hb1 hrow)
    | fail)
  all_goals
   obtain⟨q,wz,hq,hwz,hQ⟩:=QZ
   first
    | rw[←hwz,←hq]
    | rw[←hq,←hwz]
   clear hq hwz
  all_goals
   obtain⟨z1,z2,z0,z3⟩:=HK.out wz hQ.bel
   have BQ:=Hj hQ.bel
   have OQ:=Hj hQ.own
   have HQr:=Hj hQ.row
   have YJ:=Hj hQ.up
   have y0:wz.cell? ⟨q,0,none⟩=some (.int .i64 (G1:Int)):=Kq 0 hQ.row
   have y1:wz.cell? ⟨q,1,none⟩=some (.int .i64 (t:Int)):=Kq 1 hQ.row
   have y2:wz.cell? ⟨q,2,none⟩=some (.slice A1 n k1):=Kq 2 hQ.row
   have HKZ:Hid (∀W,Below wz.heap.size wz W→W.cell? ⟨q,0,none⟩=some (.int .i64 (G1:Int))∧W.cell? ⟨q,1,none⟩=some (.int .i64 (t:Int))∧W.cell? ⟨q,2,none⟩=some (.slice A1 n k1)):=Hj fun W hW=>⟨Kz hW _ _ y0,Kz hW _ _ y1,Kz hW _ _ y2⟩
   obtain⟨hnk,hkm,VF⟩:n≤k1∧k1≤maxLen∧RB wz A1 n text:=by
    obtain⟨A2,c2',e2',i1,i2,i3⟩:=hQ.own.form
    injection e2' with e3 e4 e5
    subst e3
    subst e5
    rw[MN.out] at i1 i3
    exact⟨i1,i2,i3⟩
   have Xv:=Hj VF
   have MS:=Hj (And.intro hnk hkm)
   have VD:Hid (∀W,Below wz.heap.size wz W→Calls Tryz.prog 136 #[.agg #[.int .i64 (G1:Int),.int .i64 (t:Int),.slice A1 n k1]] W fun e w'=>∃A' cap,e=.returned (.slice A' (16+n) cap)∧Below W.heap.size W w'):=Hj fun W hW=>
    (l9 G1 t A1 n k1 text W (Xv.out.keep (Kz hW)) MS.out.1 MS.out.2 HGB.out (by omega) (HE.out.sha.keep (Kz (HD.out.bel.trans (BQ.out.trans (hW.mono BQ.out.size) |>.mono HD.out.bel.size))))).mono fun e w' ⟨v,h1,h2,h3⟩=>by
     obtain⟨A',cap,rfl,_,_,h6⟩:=h2.form
     rw[eG,MN.out] at h1
     exact⟨A',cap,h1,h3⟩
   have Bzz:Hid (Below wz.heap.size wz wz.drew):=Hj (Below.drew (Below.refl _ _))
   clear hQ x1 x2 x0 x3 c1 c2 c0 d2 VF hnk hkm z2
   go_wp2_with fail
   go_region_held3 (fun w'=>w'.cell? ⟨gl,1,none⟩=some (.int .i64 (L.gen:Int))∧w'.cell? ⟨gl,0,none⟩=some (.pointer (some ⟨g,0,none⟩))∧w'.cell? ⟨q,0,none⟩=some (.int .i64 (G1:Int))∧w'.cell? ⟨q,1,none⟩=some (.int .i64 (t:Int))∧w'.cell? ⟨q,2,none⟩=some (.slice A1 n k1)) (first | exact⟨by assumption,by assumption,by assumption,by assumption,by assumption⟩ | go_keep)
    (first
     | (go_at_call 136;((with_reducible refine(VD.out wz.drew Bzz.out).mono ?_);rintro e w2 ⟨A2,k2,rfl,hb2⟩;have B2:Hid (Below wz.heap.size wz w2):=Hj (Below.cu hb2);have L8:Hid (Below w.heap.size w w2):=Hj (BQ.out.trans (B2.out.mono BQ.out.size));obtain⟨u1,u2,u0,u3⟩:=HK.out w2 L8.out;obtain⟨v0,v1,v2⟩:=HKZ.out w2 B2.out;have D2:=Hj (HD.out.below L8.out);clear hb2 u2))
     | (go_at_call 102;((with_reducible refine(HSi.out w2 D2.out).mono ?_);rintro e w3 ⟨rfl,rfl⟩))
     | (go_at_call 137;((with_reducible refine(U5.out w2 D2.out).mono ?_);rintro e w3 ⟨rfl,rfl⟩))
     | fail)
  all_goals
   have OF:Hid (Off S A1):=Hj fun p e hs=>by
    subst e
    have:=(OB.lt OQ.out p.block (by rfl)).1
    have:=Yg.out _ hs
    omega
  all_goals
   go_wp2_with (first
    | (go_at_call 139;((with_reducible refine(ng.out w2 A1 k1 D2.out (Xv.out.keep (Kz B2.out)) OF.out MS.out.1 MS.out.2).mono ?_);rintro e w3 ⟨rfl,hd3,hf3⟩;have D3:=Hj hd3;have F3:=Hj hf3;clear hd3 hf3))
    | (go_at_call 138;((with_reducible refine(HDn.out w3 _ D3.out).mono ?_);rintro e w4 ⟨rfl,hd4,hf4⟩;have D4:=Hj hd4;have F4:=Hj hf4;clear hd4 hf4))
    | fail)
  all_goals
   go_ret
   exact⟨rfl,DW.behind HD.out.bel.size L8.out (DW.then F3.out ⟨D4.out,F4.out⟩)⟩
theorem Dj (A:Option Addr) (n c:Nat) (text:List UInt8) (h:DW w0 w S g m gl L) (hE:EW w0 ea) (hok:m.Ok) (hL:L.Ok) (hb:RB w A n text) (hn:n≤1000000) (hw:m.waits.length≤1000):
  Calls Tryz.prog 80 #[.pointer (some ⟨gl,0,none⟩),.slice A n c] w fun e w'=>e=.returned (bK ea (L.mM m text))∧DW w0 w' (ext S w w') g (L.lD m text) gl (L.cp m text)∧Fr S w w':=by
 have hl:=hb.1
 obtain⟨t,ht⟩:∃t,t=1-L.slot:=⟨_,rfl⟩
 have hst:L.slot+t=1:=by have:=hL.slot;omega
 unfold LM.mM LM.lD LM.cp
 by_cases hsp:L.space m text=0
 ·rw [if_pos hsp,if_pos hsp,if_pos hsp]
  obtain⟨hd,hg,hf⟩:=oZ hsp
  rw[←ht] at hf ⊢
  have:=Ic A n c L.slot t text h hE hok hL hb hn rfl hst hd hg hw (by omega)
  rw[show (⟨L.gen+1,t,text,[],L.dead⟩:LM)=L.new text by rw[ht];rfl]
  exact this
 ·rw [if_neg hsp,if_neg hsp,if_neg hsp]
  have dn:∀e:Nat,e=L.space m text→e≠0→(Calls Tryz.prog 80 #[.pointer (some ⟨gl,0,none⟩),.slice A n c] w fun e' w'=>e'=.returned (.iface 368 (.pointer (some (ea e))))∧Below w.heap.size w w')→Calls Tryz.prog 80 #[.pointer (some ⟨gl,0,none⟩),.slice A n c] w fun e w'=>e=.returned (bK ea (L.space m text))∧DW w0 w' (ext S w w') g m gl L∧Fr S w w':=fun e he h0 hc=>hc.mono fun e' w' ⟨h1,h2⟩=>by
   rw[←he,jX ea h0]
   exact⟨h1,DW.behind h.bel.size h2 (h.below h2).same⟩
  cases hd:L.dead with
  | true=>
   refine dn 25 (by unfold LM.space;rw[if_pos hd]) (by decide) ((BP A n c h hE hd).mono fun e w' ⟨h1,h2⟩=>⟨h1,by rw[h2];exact Below.refl _ _⟩)
  | false=>
   have xJ:26=L.space m text:=by
    rcases nM (m:=m) (t:=text) hd with h | h
    ·exact absurd h hsp
    ·exact h.symm
   refine dn 26 xJ (by decide) ?_
   by_cases hg:2147483647≤L.gen
   ·exact BR A n c L.slot t text h hE hL hb hn rfl hst hd hg
   ·refine uZ A n c L.slot t text h hE hok hL hb hn rfl hst hd (by omega) ?_
    unfold LM.space at hsp
    rw[if_neg (by rw[hd];decide)] at hsp
    by_cases hx:2147483647≤L.gen∨m.free<16+(text.length:Int)-((m.b (3+(1-L.slot))).length:Int)
    ·rcases hx with hx | hx
     ·exact absurd hx hg
     ·rw [ht,←hl];exact hx
    ·rw [if_neg hx] at hsp
     exact absurd rfl hsp
end
end Go.Proofs.YtdhbpajamlfacaaGreatDoor
