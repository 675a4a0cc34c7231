/- The disk's calls, as a law meets them. -/
import Derived.Test.YtdhbpajamlfacaaGreatDoorDiskWr
import Derived.Test.YtdhbpajamlfacaaGreatDoorDiskOps
import Derived.Deep.LoopGhost
import Derived.Deep.RegionHeld3
import Derived.WalkSmall
import Derived.Lib.SlBytesConst
import Derived.Test.YtdhbpajamlfacaaGreatDoorWalK
import Derived.Deep.AppendLies
set_option maxHeartbeats 2000000
set_option maxRecDepth 100000
namespace Go.Proofs.YtdhbpajamlfacaaGreatDoor
open Go.RowKit
/-- A disk that a call made. -/
def DS (w0 w:World) (g:Nat) (d:DK):Prop:=∃O,gu w O g d∧(∀k,O k→w0.heap.size≤k)∧Bw w0 w
theorem New_S {w0 w:World} (room:Int) (hb:Bw w0 w) (h0:0≤room) (h1:room≤1048576):Cl 24 #[.int .i64 room] w fun e w'=>e=.returned (.tuple #[pt w.heap.size,.nilIface])∧DS w0 w' w.heap.size ⟨room,fun _=>[],[]⟩:=by
 refine(Qo room w h0 h1).mono ?_
 rintro e w' ⟨rfl,hd,hb'⟩
 exact⟨rfl,_,hd,fun k hk=>by rw[hk];exact hb.size,hb.trans (hb'.mono hb.size)⟩
theorem iF (ea:Nat→Addr):jC ea 0=.nilIface:=rfl
def JR (g:Nat) (L:LM) (tv rv:Value):Array Value:=#[pt g,.int .i64 (L.gen:Int),.int .i64 (L.slot:Int),tv,rv,.int .i64 (dW L.ns:Int),.bool false]
/-- Block gl is a log of the disk g; P: the blocks that are its own. -/
structure rC (w:World) (P:Nat→Prop) (gl g:Nat) (L:LM) (tv rv:Value) (xs:List Value):Prop where
 cells:w.heap[gl]?=some (.cells (JR g L tv rv) 173 (0,0))
 recs:ah w 0 35 1 rv L.ns.length xs
 jv:P gl
 AL:∀k,rv.ownBlock=some k→P k
def Me (w:World) (P:Nat→Prop) (gl g:Nat) (L:LM):Prop:=∃tv rv xs,rC w P gl g L tv rv xs
section
variable {w w' w0:World} {O P S S':Nat→Prop} {gl g:Nat} {m m':DM} {d:DK} {L L':LM} {tv rv:Value} {xs:List Value} {ea:Nat→Addr}
theorem rC.lt (h:rC w P gl g L tv rv xs):gl<w.heap.size:=(Cq h.cells)
theorem rC.cell (h:rC w P gl g L tv rv xs) (k:Nat):w.cell? ⟨gl,k,none⟩=(JR g L tv rv)[k]?:=bT _ _ _ _ _ _ h.cells
theorem rC.free (h:rC w P gl g L tv rv xs) (k:Nat):w.frozen? ⟨gl,k,none⟩=false:=Kj h.cells
theorem rC.rne (h:rC w P gl g L tv rv xs):rv.ownBlock≠some gl:=fun e=>by
 obtain⟨cur,hc⟩:=au h.recs e
 exact absurd (ak hc h.cells) (by decide)
theorem rC.fr (h:rC w P gl g L tv rv xs) (hf:Fr S w w') (hn:∀k,P k→¬S k):rC w' P gl g L tv rv xs:=
 ⟨(hf.block _ h.lt (hn _ h.jv)).trans h.cells,ah.kept h.recs hf fun k hk=>hn k (h.AL k hk),h.jv,h.AL⟩
theorem aY.frW {bv:Nat→Value} {wv:Value} {ws:List (jG×Value)} (h:aY w O g d bv wv ws) (hf:Fr S w w') (hn:∀k,O k→¬S k):aY w' O g d bv wv ws:=
 ⟨(hf.block _ h.lt (hn _ h.jv)).trans h.cells,fun i hi=>ah.kept (h.eH i hi) hf fun k hk=>hn k (h.ownB i hi k hk),ah.kept h.Np hf fun k hk=>hn k (h.FD k hk),h.eq,fun x hx=>ah.kept (h.bytes x hx) hf fun k hk=>hn k (h.I9 x hx k hk),h.apart,h.qm,h.jv,h.ownB,h.FD,h.I9⟩
theorem Fr.ext {S:Nat→Prop} {a b c:World} (h:Fr S a b) (k:Fr (ext S a b) b c):Fr S a c:=h.trans k fun i hi h=>h.elim id fun h=>absurd h.1 (by omega)
theorem iE {S:Nat→Prop} {a b c:World} (h1:a.heap.size≤b.heap.size) (h2:b.heap.size≤c.heap.size) {k:Nat} (h:Go.Proofs.YtdhbpajamlfacaaGreatDoor.ext (Go.Proofs.YtdhbpajamlfacaaGreatDoor.ext S a b) b c k):Go.Proofs.YtdhbpajamlfacaaGreatDoor.ext S a c k:=
 h.elim (fun h=>h.imp id fun h=>⟨h.1,by omega⟩) fun h=>.inr ⟨by omega,h.2⟩
theorem mV {S:Nat→Prop} (hu:∀k,S k→w0.heap.size≤k) (hs:w0.heap.size≤w.heap.size):∀k,ext S w w' k→w0.heap.size≤k:=fun k hk=>hk.elim (hu k) fun hk=>Cz hs hk.1
theorem qy {S:Nat→Prop} (hh:∀k,S k→k<w.heap.size) (hs:w.heap.size≤w'.heap.size):∀k,ext S w w' k→k<w'.heap.size:=fun k hk=>hk.elim (fun h=>dP (hh k h) hs) fun hk=>hk.2
/-- A disk and a log of it, above a world that stands; S: the blocks that are theirs. -/
structure DQ (w0 w:World) (S:Nat→Prop) (g:Nat) (m:DM) (gl:Nat) (L:LM):Prop where
 dl:∃O P d,gu w O g d∧Me w P gl g L∧(∀k,O k→S k)∧(∀k,P k→S k)∧(∀k,O k→¬P k)∧Quiet d m
 up:∀k,S k→w0.heap.size≤k
 hi:∀k,S k→k<w.heap.size
 bel:Bw w0 w
/-- .. that fit. -/
structure DW (w0 w:World) (S:Nat→Prop) (g:Nat) (m:DM) (gl:Nat) (L:LM):Prop where
 q:DQ w0 w S g m gl L
 fit:Fit m L
/-- What the disk does. -/
theorem DQ.yQ (h:DQ w0 w S g m gl L):∃O d,gu w O g d∧Quiet d m∧¬O gl∧∀w' d' m',gu w' (ext O w w') g d'→Quiet d' m'→Fr O w w'→DQ w0 w' (ext S w w') g m' gl L∧Fr S w w':=by
 obtain⟨⟨O,P,d,h1,⟨tv,rv,ws,h2⟩,h3,h4,h5,h6⟩,hu,hh,hb⟩:=h
 refine⟨O,d,h1,h6,fun e=>h5 gl e h2.jv,fun w' d' m' k1 k3 k2=> ?_⟩
 have hsz:=k2.size
 have hF:Fr S w w':=k2.mono fun k _ hk=>h3 k hk
 refine⟨⟨⟨ext O w w',P,d',k1,⟨tv,rv,ws,h2.fr k2 fun k hp ho=>h5 k ho hp⟩,fun k hk=>hk.imp (h3 k) id,fun k hk=>.inl (h4 k hk),fun k hk hp=> ?_,k3⟩,mV hu hb.size,qy hh hsz,hb.trans (hF.below hb.size fun k _ hk=>hu k hk)⟩,hF⟩
 rcases hk with hk | hk
 ·exact h5 k hk hp
 ·have:=hh k (h4 k hp);omega
/-- What the log does. -/
theorem DQ.yR (h:DQ w0 w S g m gl L):∃P tv rv xs,rC w P gl g L tv rv xs∧(∀k,P k→S k)∧∀w' L',Me w' (ext P w w') gl g L'→Fr P w w'→DQ w0 w' (ext S w w') g m gl L'∧Fr S w w':=by
 obtain⟨⟨O,P,d,⟨bv,wv,ys,h1⟩,⟨tv,rv,ws,h2⟩,h3,h4,h5,h6⟩,hu,hh,hb⟩:=h
 refine⟨P,tv,rv,ws,h2,h4,fun w' L' k1 k2=> ?_⟩
 have hsz:=k2.size
 have hF:Fr S w w':=k2.mono fun k _ hk=>h4 k hk
 refine⟨⟨⟨O,ext P w w',d,⟨bv,wv,ys,h1.frW k2 h5⟩,k1,fun k hk=>.inl (h3 k hk),fun k hk=>hk.imp (h4 k) id,fun k hk hp=> ?_,h6⟩,mV hu hb.size,qy hh hsz,hb.trans (hF.below hb.size fun k _ hk=>hu k hk)⟩,hF⟩
 rcases hp with hp | hp
 ·exact h5 k hk hp
 ·have:=hh k (h3 k hk);omega
theorem DQ.mono (h:DQ w0 w S g m gl L) (hs:∀k,S k→S' k) (hu:∀k,S' k→w0.heap.size≤k) (hh:∀k,S' k→k<w.heap.size):DQ w0 w S' g m gl L:=
 let ⟨⟨O,P,d,h1,h2,h3,h4,h5⟩,_,_,hb⟩:=h;⟨⟨O,P,d,h1,h2,fun k hk=>hs k (h3 k hk),fun k hk=>hs k (h4 k hk),h5⟩,hu,hh,hb⟩
theorem DQ.then {w'':World} {m'':DM} {L'':LM} (h1:Fr S w w') (h2:DQ w0 w'' (ext (ext S w w') w' w'') g m'' gl L''∧Fr (ext S w w') w' w''):DQ w0 w'' (ext S w w'') g m'' gl L''∧Fr S w w'':=
 have hx:∀k,ext S w w'' k→ext (ext S w w') w' w'' k:=fun k hk=>hk.elim (fun h=>.inl (.inl h)) fun hk=>(Nat.lt_or_ge k w'.heap.size).elim (fun h=>.inl (.inr ⟨hk.1,h⟩)) fun h=>.inr ⟨h,hk.2⟩
 ⟨h2.1.mono (fun _ hk=>iE h1.size h2.2.size hk) (fun k hk=>h2.1.up k (hx k hk)) fun k hk=>h2.1.hi k (hx k hk),h1.ext h2.2⟩
theorem DQ.fr (h:DQ w0 w S g m gl L) (hf:Fr O w w') (hX:∀k,S k→¬O k) (hu:∀k,O k→w0.heap.size≤k):DQ w0 w' S g m gl L:=by
 obtain⟨⟨O',P,d,⟨bv,wv,ys,h1⟩,⟨tv,rv,ws,h2⟩,h3,h4,h5,h6⟩,hu',hh,hb⟩:=h
 exact⟨⟨O',P,d,⟨bv,wv,ys,h1.frW hf fun k hk=>hX k (h3 k hk)⟩,⟨tv,rv,ws,h2.fr hf fun k hk=>hX k (h4 k hk)⟩,h3,h4,h5,h6⟩,hu',fun k hk=>dP (hh k hk) hf.size,hb.trans (hf.below hb.size fun k _ hk=>hu k hk)⟩
theorem DQ.below (h:DQ w0 w S g m gl L) (hb:Bw w w'):DQ w0 w' S g m gl L:=h.fr (O:=fun _=>False) (Fr.of_below hb) (fun _ _ x=>x) fun _ x=>x.elim
/-- Memory made first, then a call. -/
theorem DQ.behind {w1 w2:World} {m':DM} (hs:w0.heap.size≤w.heap.size) (hb:Bw w w1) (h:DQ w0 w2 (ext S w1 w2) g m' gl L'∧Fr S w1 w2):DQ w0 w2 (ext S w w2) g m' gl L'∧Fr S w w2:=
 ⟨h.1.mono (fun _ hk=>hk.imp id fun hk=>⟨Cz hb.size hk.1,hk.2⟩) (fun k hk=>hk.elim (fun hk=>h.1.up k (.inl hk)) fun hk=>Cz hs hk.1) fun k hk=>hk.elim (fun hk=>h.1.hi k (.inl hk)) fun hk=>hk.2,(Fr.of_below (S:=S) hb).trans h.2 fun _ _ hk=>hk⟩
theorem DQ.made (h:DQ w0 w S g m gl L) (hb:Bw w w'):DQ w0 w' (ext S w w') g m gl L∧Fr S w w':=⟨(h.below hb).mono (fun _ hk=>.inl hk) (mV h.up h.bel.size) (qy h.hi hb.size),Fr.of_below hb⟩
theorem DQ.at (h:DQ w0 w S g m gl L):w.cell? ⟨gl,0,none⟩=some (pt g)∧w.cell? ⟨gl,1,none⟩=some (.int .i64 (L.gen:Int))∧w.cell? ⟨gl,2,none⟩=some (.int .i64 (L.slot:Int))∧w.cell? ⟨gl,5,none⟩=some (.int .i64 (dW L.ns:Int))∧w.cell? ⟨gl,6,none⟩=some (.bool false):=by
 obtain⟨P,tv,rv,xs,h2,_⟩:=h.yR
 exact⟨h2.cell 0,h2.cell 1,h2.cell 2,h2.cell 5,h2.cell 6⟩
/-- What stands from the beginning: errors, tables. -/
structure EW (w:World) (ea:Nat→Addr):Prop where
 sha:gI w
 d:Lc w ea
 long:w.cell? ⟨3,0,none⟩=some (.iface 368 (.pointer (some (ea 3))))
 size:28≤w.heap.size
theorem Tz (h:DQ w0 w S g m gl L):Cl 137 #[pt g] w fun e w'=>e=.returned (.int .i64 m.free)∧w=w':=by
 obtain⟨O,d,⟨bv,wv,xs,h1⟩,h2,_⟩:=h.yQ
 rw[←h2.free]
 exact FH h2.ok h1
theorem Zu (a:Nat) (ha:a<3) (h:DQ w0 w S g m gl L):Cl 102 #[pt g,.int .i64 (a:Int)] w fun e w'=>e=.returned (.int .i64 (m.s a:Int))∧w=w':=by
 obtain⟨O,d,⟨bv,wv,xs,h1⟩,h2,_⟩:=h.yQ
 rw[←h2.seen a ha]
 exact xM a ha h1
theorem gu.mono (h:gu w O g d) (ho:∀k,O k→S k):gu w S g d:=let ⟨_,_,_,h⟩:=h;⟨_,_,_,h.mono fun k _=>ho k⟩
theorem zA (a p:Nat) (A:Option Addr) (n k:Nat) (bs:List UInt8) (h:DQ w0 w S g m gl L) (ha:a<3) (hp:m.s a=p) (hb:RB w A n bs) (hn:(n:Int)≤m.free):
  Cl 158 #[pt gl,.int .i64 (a:Int),.int .i64 (p:Int),.slice A n k] w fun e w'=>e=.returned .nilIface∧DQ w0 w' (ext S w w') g (m.put a (p+n)) gl L∧Fr S w w':=by
 have c0:=h.at.1
 obtain⟨O,d,h1,hq,hO,hu⟩:=h.yQ
 have hm:=hq.most ha
 have H1:=Hj (Jc a p A n k bs h1 hq.ok hb (by omega) (by rw[hq.waits];decide) ha (by rw[hq.seen a ha,hp];exact bZ _) (by rw[hq.seen a ha,hq.free,hp];omega))
 have HQ:Hid (Quiet (d.wait ⟨a,p,bs,false⟩).flush (m.put a (p+n))):=Hj (by rw[←hb.1,←hp];exact hq.wr ha bs (by rw[hb.1];exact hn))
 have hok:(d.wait ⟨a,p,bs,false⟩).Ok:=hq.ok.Qv ha (by show p+bs.length≤_;rw[hb.1];omega)
 have HS:=Hj fun W (hW:gu W (ext O w W) g (d.wait ⟨a,p,bs,false⟩))=>FM hW hok
 have HU:=Hj hu
 have HO:=Hj hO
 have hlt:=iP w _ c0
 clear h h1 hq hO hu hm hok hb
 go_enter Tryz.func158,Tryz.ntmps158
 go_wp2_with (first
  | (go_at_call 208;(refine H1.out.mono ?_);rintro e w1 ⟨rfl,hd1,hf1⟩;have c1:=(hf1.cell (p:=⟨gl,0,none⟩) hlt HO.out).trans c0;have D1:=Hj hd1;have F1:=Hj hf1;clear hd1 hf1)
  | (go_at_call 104;(refine(HS.out w1 D1.out).mono ?_);rintro e w2 ⟨rfl,hd2,hf2⟩;have D2:=Hj hd2;have F2:=Hj hf2;clear hd2 hf2))
 go_ret
 exact⟨rfl,HU.out _ _ _ (D2.out.mono fun _ hk=>iE F1.out.size F2.out.size hk) HQ.out (F1.out.ext F2.out)⟩
theorem zB (a:Nat) (h:DQ w0 w S g m gl L) (ha:a<3):
  Cl 200 #[pt gl,.int .i64 (a:Int)] w fun e w'=>e=.returned .nilIface∧DQ w0 w' (ext S w w') g (m.put a 0) gl L∧Fr S w w':=by
 have c0:=h.at.1
 obtain⟨O,d,h1,hq,hO,hu⟩:=h.yQ
 have H1:=Hj (Qr a h1 hq.ok (by rw[hq.waits];decide) ha)
 have HQ:=Hj (hq.cl ha)
 have hok:(d.wait ⟨a,0,[],true⟩).Ok:=hq.ok.Qv ha (by show 0+0≤_;omega)
 have HS:=Hj fun W (hW:gu W (ext O w W) g (d.wait ⟨a,0,[],true⟩))=>FM hW hok
 have HU:=Hj hu
 have HO:=Hj hO
 have hlt:=iP w _ c0
 clear h h1 hq hO hu hok
 go_enter Tryz.func200,Tryz.ntmps200
 go_wp2_with (first
  | (go_at_call 103;(refine H1.out.mono ?_);rintro e w1 ⟨rfl,hd1,hf1⟩;have c1:=(hf1.cell (p:=⟨gl,0,none⟩) hlt HO.out).trans c0;have D1:=Hj hd1;have F1:=Hj hf1;clear hd1 hf1)
  | (go_at_call 104;(refine(HS.out w1 D1.out).mono ?_);rintro e w2 ⟨rfl,hd2,hf2⟩;have D2:=Hj hd2;have F2:=Hj hf2;clear hd2 hf2))
 go_ret
 exact⟨rfl,HU.out _ _ _ (D2.out.mono fun _ hk=>iE F1.out.size F2.out.size hk) HQ.out (F1.out.ext F2.out)⟩
theorem CU (gl:Nat) (w:World):Cl 138 #[pt gl,.nilIface] w fun e w'=>e=.returned .nilIface∧w=w':=by
 go_enter Tryz.func138,Tryz.ntmps138
 go_wp2
 go_ret
 exact⟨rfl,rfl⟩
/-- A slice whose block is none of S. -/
def Off (S:Nat→Prop) (A:Option Addr):Prop:=∀p,A=some p→¬S p.block
theorem RB.fr {A:Option Addr} {n:Nat} {l:List UInt8} (h:RB w A n l) (hf:Fr S w w') (ha:Off S A):RB w' A n l:=
 ⟨h.1,fun hn=>let ⟨b,o,e,hc⟩:=h.2 hn;⟨b,o,e,fun k hk=>(hf.cell (p:=⟨b,o+k,none⟩) (iP w _ (hc k hk)) (fun hs=>ha _ e hs)).trans (hc k hk)⟩⟩
theorem RB.Pn {A:Option Addr} {n:Nat} {l:List UInt8} (h:RB w A n l) (hf:Fr S w w') (ha:0<n→Off S A):RB w' A n l:=by
 rcases pF n with h0 | h0
 ·subst h0
  exact⟨h.1,fun h=>absurd h (by omega)⟩
 ·exact h.fr hf (ha h0)
theorem swap_any (gen slot:Nat) (A:Option Addr) (n c:Nat) (text:List UInt8) (h:DQ w0 w S g m gl L) (hE:EW w0 ea) (hb:RB w A n text) (hA:Off S A) (hnc:n≤c) (hc:c≤maxLen) (hn:16+(n:Int)-m.s slot≤m.free) (hg:gen<4294967296) (hs:slot<2):
  Cl 139 #[pt gl,.agg #[.int .i64 (gen:Int),.int .i64 (slot:Int),.slice A n c]] w fun e w'=>e=.returned .nilIface∧DQ w0 w' (ext S w w') g ((m.put slot (16+n)).put 2 0) gl L∧Fr S w w':=by
 have D0:=(aj w.heap.size w).alloc Kv (.cells #[.int .i64 (gen:Int),.int .i64 (slot:Int),.slice A n c] 171)
 have E0:=aA w (.cells #[.int .i64 (gen:Int),.int .i64 (slot:Int),.slice A n c] 171)
 have Z0:w.heap.size<(w.alloc (.cells #[.int .i64 (gen:Int),.int .i64 (slot:Int),.slice A n c] 171)).heap.size:=by show _<(w.heap.push _).size;rw[Array.size_push];omega
 obtain⟨wa,oh⟩:∃W,W=w.alloc (.cells #[.int .i64 (gen:Int),.int .i64 (slot:Int),.slice A n c] 171):=⟨_,rfl⟩
 rw[←oh] at D0 E0 Z0
 have HSw:Hid (w0.heap.size≤w.heap.size):=Hj h.bel.size
 have HU:Hid (¬S w.heap.size):=Hj fun e=>Nat.lt_irrefl _ (h.hi _ e)
 have Ha:=h.below D0
 have c0:wa.cell? ⟨w.heap.size,0,none⟩=some (.int .i64 (gen:Int)):=Kq 0 E0
 have c1:wa.cell? ⟨w.heap.size,1,none⟩=some (.int .i64 (slot:Int)):=Kq 1 E0
 have c2:wa.cell? ⟨w.heap.size,2,none⟩=some (.slice A n c):=Kq 2 E0
 have K0:Hid (∀W,Fr S wa W→W.cell? ⟨w.heap.size,0,none⟩=some (.int .i64 (gen:Int))∧W.cell? ⟨w.heap.size,1,none⟩=some (.int .i64 (slot:Int))∧W.cell? ⟨w.heap.size,2,none⟩=some (.slice A n c)):=Hj fun W hf=>
  ⟨(hf.cell (p:=⟨w.heap.size,0,none⟩) Z0 HU.out).trans c0,(hf.cell (p:=⟨w.heap.size,1,none⟩) Z0 HU.out).trans c1,(hf.cell (p:=⟨w.heap.size,2,none⟩) Z0 HU.out).trans c2⟩
 have HR:Hid (∀W,Fr S wa W→RB W A n text):=Hj fun W hf=>(hb.keep (Kz D0)).fr hf hA
 have hm:16+n≤1048576:=by
  obtain⟨O,d,_,hq,_⟩:=h.yQ
  have:=hq.most (a:=slot) (by omega)
  omega
 have HD0:=Hj D0
 have H1:=Hj (zB slot Ha (by omega))
 have HSB:Hid (∀W,Bw w0 W→RB W A n text→Cl 136 #[.agg #[.int .i64 (gen:Int),.int .i64 (slot:Int),.slice A n c]] W fun e w'=>∃A' cap,e=.returned (.slice A' (16+n) cap)∧RB w' A' (16+n) (wR gen text)∧Bw W w'):=Hj fun W hW hr=>
  (zu gen slot A n c text W hr hnc hc hg (by omega) (hE.sha.keep (Kz hW))).mono fun e w' ⟨v,h1,h2,h3⟩=>by
   obtain⟨A',cap,rfl,_,_,h6⟩:=h2.form
   rw[o8,hr.1] at h1 h6
   exact⟨A',cap,h1,h6,h3⟩
 have hfr:((16+n:Nat):Int)≤(m.put slot 0).free:=by
  unfold DM.free at hn ⊢
  have:slot=0∨slot=1:=by omega
  rcases this with rfl | rfl
  ·rw [nO,kW _ _ (by decide),kW _ _ (by decide)];show _≤m.room-_-_-_;omega
  ·rw [nO,kW _ _ (by decide),kW _ _ (by decide)];show _≤m.room-_-_-_;omega
 have H2:Hid (∀W S',DQ w0 W S' g (m.put slot 0) gl L→∀A' cap,RB W A' (16+n) (wR gen text)→Cl 158 #[pt gl,.int .i64 (slot:Int),.int .i64 0,.slice A' (16+n) cap] W fun e w'=>e=.returned .nilIface∧DQ w0 w' (ext S' W w') g (m.put slot (16+n)) gl L∧Fr S' W w'):=Hj fun W S' hd A' cap hr=>by
  have:=zA slot 0 A' (16+n) cap _ hd (by omega) (nO _ _ _) hr hfr
  rw[Wx,dV] at this
  exact this
 have H3:Hid (∀W S',DQ w0 W S' g (m.put slot (16+n)) gl L→Cl 200 #[pt gl,.int .i64 2] W fun e w'=>e=.returned .nilIface∧DQ w0 w' (ext S' W w') g ((m.put slot (16+n)).put 2 0) gl L∧Fr S' W w'):=Hj fun W S' hd=>zB 2 hd (by decide)
 clear h hE hb hA D0 E0 Z0 Ha c0 c1 c2 hm hfr hn
 go_enter Tryz.func139,Tryz.ntmps139
 go_wp2_with (first
  | (go_at_call 200;rw[←oh];(refine H1.out.mono ?_);rintro e w1 ⟨rfl,hd1,hf1⟩;obtain⟨x0,x1,x2⟩:=K0.out w1 hf1;have D1:=Hj hd1;have F1:=Hj hf1;clear hd1 hf1)
  | fail)
 have F1d:Hid (Fr S wa w1.drew):=Hj F1.out.drew
 go_region_held3 (fun w'=>w'.cell? ⟨w.heap.size,0,none⟩=some (.int .i64 (gen:Int))∧w'.cell? ⟨w.heap.size,1,none⟩=some (.int .i64 (slot:Int))∧w'.cell? ⟨w.heap.size,2,none⟩=some (.slice A n c)) (first | exact⟨by assumption,by assumption,by assumption⟩ | go_keep)
  (first
   | (go_at_call 136;((refine(HSB.out w1.drew (bV D1.out.bel) (HR.out _ F1d.out)).mono ?_);rintro e w2 ⟨A2,k2,rfl,hr2,hb2⟩;have B2:Hid (Bw w1 w2):=Hj (Below.fZ hb2);have F2:Hid (Fr S wa w2):=Hj (F1.out.trans (Fr.of_below (S:=S) B2.out) fun _ _ hk=>hk);obtain⟨y0,y1,y2⟩:=K0.out w2 F2.out;have R2:=Hj hr2;clear hr2 hb2))
   | (go_at_call 158;((refine(H2.out w2 _ (D1.out.below B2.out) A2 k2 R2.out).mono ?_);rintro e w3 ⟨rfl,hd3,hf3⟩;have F3:Hid (Fr S wa w3):=Hj (F2.out.trans hf3 fun k hk hs=>hs.elim id fun hs=>absurd hs.1 (Nat.not_le_of_lt hk));obtain⟨u0,u1,u2⟩:=K0.out w3 F3.out;have D3:=Hj hd3;have FF3:=Hj hf3;clear hd3 hf3)))
 all_goals
  go_wp2_with (first
   | (go_at_call 200;((refine(H3.out w3 _ D3.out).mono ?_);rintro e w4 ⟨rfl,hd4,hf4⟩;have D4:=Hj hd4;have F4:=Hj hf4;clear hd4 hf4))
   | fail)
  go_ret
  exact⟨rfl,DQ.behind HSw.out HD0.out (DQ.then F1.out (DQ.behind D1.out.bel.size B2.out (DQ.then FF3.out ⟨D4.out,F4.out⟩)))⟩
end
end Go.Proofs.YtdhbpajamlfacaaGreatDoor
