/- Layer 18 (wal): good. -/
import Derived.Test.YtdhbpajamlfacaaGreatDoorWalK
import Derived.Test.YtdhbpajamlfacaaGreatDoorDiskS
import Derived.Deep.AppendLies
set_option maxRecDepth 100000
namespace Go.Proofs.YtdhbpajamlfacaaGreatDoor
open Go.RowKit
def xq (g:Nat) (L:LM) (tv rv:Value):Array Value:=#[.pointer (some ⟨g,0,none⟩),.int .i64 (L.gen:Int),.int .i64 (L.slot:Int),tv,rv,.int .i64 (endOf L.recs:Int),.bool L.dead]
/-- Block gl is a log of the disk g; P: the blocks that are its own. -/
structure fG (w:World) (P:Nat→Prop) (gl g:Nat) (L:LM) (tv rv:Value) (ws:List (List UInt8×Value)):Prop where
 cells:w.heap[gl]?=some (.cells (xq g L tv rv) 173 (0,0))
 text:OB w 0 tv L.text
 recs:ah w 0 35 1 rv ws.length (ws.map fun x=>x.2)
 eq:ws.map (fun x=>x.1)=L.recs
 each:∀x∈ws,OB w 0 x.2 x.1
 fE:P gl
 LQ:∀k,tv.ownBlock=some k→P k
 uT:∀k,rv.ownBlock=some k→P k
 qJ:∀x∈ws,∀k,x.2.ownBlock=some k→P k
def nU (w:World) (P:Nat→Prop) (gl g:Nat) (L:LM):Prop:=∃tv rv ws,fG w P gl g L tv rv ws
section
variable {w w' w0:World} {O P S S':Nat→Prop} {gl g:Nat} {m m':DM} {L L':LM} {tv rv:Value} {ws:List (List UInt8×Value)} {ea:Nat→Addr}
theorem fG.lt (h:fG w P gl g L tv rv ws):gl<w.heap.size:=(Cq h.cells)
theorem fG.cell (h:fG w P gl g L tv rv ws) (k:Nat):w.cell? ⟨gl,k,none⟩=(xq g L tv rv)[k]?:=cell_of_row _ _ _ _ _ _ h.cells
theorem fG.free (h:fG w P gl g L tv rv ws) (k:Nat):w.frozen? ⟨gl,k,none⟩=false:=Kj h.cells
theorem fG.num (h:fG w P gl g L tv rv ws):ws.length=L.recs.length:=by have:=congrArg List.length h.eq;simpa using this
theorem fG.tne (h:fG w P gl g L tv rv ws):tv.ownBlock≠some gl:=fun e=>by
 obtain⟨cur,hc⟩:=ak h.text e
 exact absurd (aj hc h.cells) (by decide)
theorem fG.rne (h:fG w P gl g L tv rv ws):rv.ownBlock≠some gl:=fun e=>by
 obtain⟨cur,hc⟩:=ak h.recs e
 exact absurd (aj hc h.cells) (by decide)
theorem fG.xne (h:fG w P gl g L tv rv ws) {x:List UInt8×Value} (hx:x∈ws):x.2.ownBlock≠some gl:=fun e=>by
 obtain⟨cur,hc⟩:=ak (h.each x hx) e
 exact absurd (aj hc h.cells) (by decide)
theorem fG.mono (h:fG w P gl g L tv rv ws) {P':Nat→Prop} (hp:∀k,k<w.heap.size→P k→P' k):fG w P' gl g L tv rv ws:=
 ⟨h.cells,h.text,h.recs,h.eq,h.each,hp _ h.lt h.fE,fun k hk=>hp _ (OB.lt h.text k hk).2 (h.LQ k hk),fun k hk=>hp _ (ah.lt h.recs k hk).2 (h.uT k hk),fun x hx k hk=>hp _ (OB.lt (h.each x hx) k hk).2 (h.qJ x hx k hk)⟩
/-- Nothing of the log's own has turned. -/
theorem fG.fr (h:fG w P gl g L tv rv ws) (hf:Fr S w w') (hn:∀k,P k→¬S k):fG w' P gl g L tv rv ws:=
 ⟨(hf.block _ h.lt (hn _ h.fE)).trans h.cells,ah.kept h.text hf fun k hk=>hn k (h.LQ k hk),ah.kept h.recs hf fun k hk=>hn k (h.uT k hk),h.eq,fun x hx=>ah.kept (h.each x hx) hf fun k hk=>hn k (h.qJ x hx k hk),h.fE,h.LQ,h.uT,h.qJ⟩
theorem fG.below (h:fG w P gl g L tv rv ws) (hb:Below w.heap.size w w'):fG w' P gl g L tv rv ws:=h.fr (S:=fun _=>False) (Fr.of_below hb) fun _ _ x=>x
/-- Only the log's block has turned, and in it neither text nor records. -/
theorem fG.turn (h:fG w P gl g L tv rv ws) (hf:Fr (fun k=>k=gl) w w') (hc:w'.heap[gl]?=some (.cells (xq g L' tv rv) 173 (0,0))) (ht:L'.text=L.text) (hr:L'.recs=L.recs):fG w' P gl g L' tv rv ws:=
 ⟨hc,by rw[ht];exact ah.kept h.text hf fun k hk e=>h.tne (by rw[←e];exact hk),ah.kept h.recs hf fun k hk e=>h.rne (by rw[←e];exact hk),by rw[hr];exact h.eq,fun x hx=>ah.kept (h.each x hx) hf fun k hk e=>h.xne hx (by rw[←e];exact hk),h.fE,h.LQ,h.uT,h.qJ⟩
theorem aK.Z8 {bv:Nat→Value} {wv:Value} {xs:List (fC×Value)} (h:aK w O g m bv wv xs) (hf:Fr S w w') (hn:∀k,O k→¬S k):aK w' O g m bv wv xs:=
 ⟨(hf.block _ h.lt (hn _ h.fE)).trans h.cells,fun i hi=>ah.kept (h.dJ i hi) hf fun k hk=>hn k (h.ownB i hi k hk),ah.kept h.JM hf fun k hk=>hn k (h.Dv k hk),h.eq,fun x hx=>ah.kept (h.bytes x hx) hf fun k hk=>hn k (h.qJ x hx k hk),h.apart,h.nH,h.fE,h.ownB,h.Dv,h.qJ⟩
theorem Fr.ext {S:Nat→Prop} {a b c:World} (h:Fr S a b) (k:Fr (ext S a b) b c):Fr S a c:=h.trans k fun i hi h=>h.elim id fun h=>absurd h.1 (by omega)
theorem iC {S:Nat→Prop} {a b c:World} (h1:a.heap.size≤b.heap.size) (h2:b.heap.size≤c.heap.size) {k:Nat} (h:Go.Proofs.YtdhbpajamlfacaaGreatDoor.ext (Go.Proofs.YtdhbpajamlfacaaGreatDoor.ext S a b) b c k):Go.Proofs.YtdhbpajamlfacaaGreatDoor.ext S a c k:=
 h.elim (fun h=>h.imp id fun h=>⟨h.1,by omega⟩) fun h=>.inr ⟨by omega,h.2⟩
/-- A disk and a log of it; S: the blocks that are theirs. -/
def DL (w:World) (S:Nat→Prop) (g:Nat) (m:DM) (gl:Nat) (L:LM):Prop:=
 ∃O P,gI w O g m∧nU w P gl g L∧(∀k,O k→S k)∧(∀k,P k→S k)∧(∀k,O k→¬P k)
theorem DL.mono (h:DL w S g m gl L) (hs:∀k,S k→S' k):DL w S' g m gl L:=
 let ⟨O,P,h1,h2,h3,h4,h5⟩:=h;⟨O,P,h1,h2,fun k hk=>hs k (h3 k hk),fun k hk=>hs k (h4 k hk),h5⟩
/-- .. above a world that stands. -/
structure DW (w0 w:World) (S:Nat→Prop) (g:Nat) (m:DM) (gl:Nat) (L:LM):Prop where
 dl:DL w S g m gl L
 up:∀k,S k→w0.heap.size≤k
 hi:∀k,S k→k<w.heap.size
 bel:Below w0.heap.size w0 w
theorem jf {S:Nat→Prop} (hu:∀k,S k→w0.heap.size≤k) (hs:w0.heap.size≤w.heap.size):∀k,ext S w w' k→w0.heap.size≤k:=fun k hk=>hk.elim (hu k) fun hk=>Cz hs hk.1
theorem kN {S:Nat→Prop} (hh:∀k,S k→k<w.heap.size) (hs:w.heap.size≤w'.heap.size):∀k,ext S w w' k→k<w'.heap.size:=fun k hk=>hk.elim (fun h=>Nat.lt_of_lt_of_le (hh k h) hs) fun hk=>hk.2
/-- What the disk does. -/
theorem DW.yC (h:DW w0 w S g m gl L):∃O,gI w O g m∧(∀k,O k→S k)∧∀w' m',gI w' (ext O w w') g m'→Fr O w w'→DW w0 w' (ext S w w') g m' gl L∧Fr S w w':=by
 obtain⟨⟨O,P,h1,⟨tv,rv,ws,h2⟩,h3,h4,h5⟩,hu,hh,hb⟩:=h
 refine⟨O,h1,h3,fun w' m' k1 k2=> ?_⟩
 have hsz:=k2.size
 have hF:Fr S w w':=k2.mono fun k _ hk=>h3 k hk
 refine⟨⟨⟨ext O w w',P,k1,⟨tv,rv,ws,h2.fr k2 fun k hp ho=>h5 k ho hp⟩,fun k hk=>hk.imp (h3 k) id,fun k hk=>.inl (h4 k hk),fun k hk hp=> ?_⟩,jf hu hb.size,kN hh hsz,hb.trans (hF.below hb.size fun k _ hk=>hu k hk)⟩,hF⟩
 rcases hk with hk | hk
 ·exact h5 k hk hp
 ·have:=hh k (h4 k hp);omega
/-- What the log does. -/
theorem DW.Aq (h:DW w0 w S g m gl L):∃P tv rv ws,fG w P gl g L tv rv ws∧(∀k,P k→S k)∧∀w' L',nU w' (ext P w w') gl g L'→Fr P w w'→DW w0 w' (ext S w w') g m gl L'∧Fr S w w':=by
 obtain⟨⟨O,P,⟨bv,wv,xs,h1⟩,⟨tv,rv,ws,h2⟩,h3,h4,h5⟩,hu,hh,hb⟩:=h
 refine⟨P,tv,rv,ws,h2,h4,fun w' L' k1 k2=> ?_⟩
 have hsz:=k2.size
 have hF:Fr S w w':=k2.mono fun k _ hk=>h4 k hk
 refine⟨⟨⟨O,ext P w w',⟨bv,wv,xs,h1.Z8 k2 h5⟩,k1,fun k hk=>.inl (h3 k hk),fun k hk=>hk.imp (h4 k) id,fun k hk hp=> ?_⟩,jf hu hb.size,kN hh hsz,hb.trans (hF.below hb.size fun k _ hk=>hu k hk)⟩,hF⟩
 rcases hp with hp | hp
 ·exact h5 k hk hp
 ·have:=hh k (h3 k hk);omega
theorem DW.then {w'':World} {m'':DM} {L'':LM} {gl':Nat} (h1:Fr S w w') (h2:DW w0 w'' (ext (ext S w w') w' w'') g m'' gl' L''∧Fr (ext S w w') w' w''):DW w0 w'' (ext S w w'') g m'' gl' L''∧Fr S w w'':=
 have hx:∀k,ext S w w'' k→ext (ext S w w') w' w'' k:=fun k hk=>hk.elim (fun h=>.inl (.inl h)) fun hk=>(Nat.lt_or_ge k w'.heap.size).elim (fun h=>.inl (.inr ⟨hk.1,h⟩)) fun h=>.inr ⟨h,hk.2⟩
 ⟨⟨h2.1.dl.mono fun _ hk=>iC h1.size h2.2.size hk,fun k hk=>h2.1.up k (hx k hk),fun k hk=>h2.1.hi k (hx k hk),h2.1.bel⟩,h1.ext h2.2⟩
theorem DW.same (h:DW w0 w S g m gl L):DW w0 w (ext S w w) g m gl L∧Fr S w w:=⟨⟨h.dl.mono fun _ hk=>.inl hk,fun k hk=>hk.elim (h.up k) fun hk=>absurd hk.1 (by omega),fun k hk=>hk.elim (h.hi k) fun hk=>hk.2,h.bel⟩,Fr.refl _ _⟩
theorem DW.below (h:DW w0 w S g m gl L) (hb:Below w.heap.size w w'):DW w0 w' S g m gl L:=by
 obtain⟨⟨O,P,⟨bv,wv,xs,h1⟩,⟨tv,rv,ws,h2⟩,h3,h4,h5⟩,hu,hh,hb0⟩:=h
 exact⟨⟨O,P,⟨bv,wv,xs,h1.below hb⟩,⟨tv,rv,ws,h2.below hb⟩,h3,h4,h5⟩,hu,fun k hk=>Nat.lt_of_lt_of_le (hh k hk) hb.size,hb0.trans (hb.mono hb0.size)⟩
/-- Memory made first, then a call. -/
theorem DW.behind {w1 w2:World} {m':DM} (hs:w0.heap.size≤w.heap.size) (hb:Below w.heap.size w w1) (h:DW w0 w2 (ext S w1 w2) g m' gl L'∧Fr S w1 w2):DW w0 w2 (ext S w w2) g m' gl L'∧Fr S w w2:=by
 have hF:Fr S w w2:=(Fr.of_below (S:=S) hb).trans h.2 fun _ _ hk=>hk
 refine⟨⟨h.1.dl.mono fun k hk=>hk.imp id fun hk=>⟨Cz hb.size hk.1,hk.2⟩,fun k hk=>hk.elim (fun hk=>h.1.up k (.inl hk)) fun hk=>Cz hs hk.1,fun k hk=>hk.elim (fun hk=>h.1.hi k (.inl hk)) fun hk=>hk.2,h.1.bel⟩,hF⟩
/-- The cells of the log's block, in every world that keeps it. -/
theorem DW.row (h:DW w0 w S g m gl L):∃P tv rv ws,fG w P gl g L tv rv ws∧∀k,P k→S k:=by
 obtain⟨⟨_,P,_,⟨tv,rv,ws,h2⟩,_,h4,_⟩,_,_,_⟩:=h
 exact⟨P,tv,rv,ws,h2,h4⟩
theorem DW.disk (h:DW w0 w S g m gl L):∃O,gI w O g m∧∀k,O k→S k:=by
 obtain⟨⟨O,_,h1,_,h3,_⟩,_,_,_⟩:=h
 exact⟨O,h1,h3⟩
theorem DW.at (h:DW w0 w S g m gl L):w.cell? ⟨gl,0,none⟩=some (.pointer (some ⟨g,0,none⟩))∧w.cell? ⟨gl,1,none⟩=some (.int .i64 (L.gen:Int))∧w.cell? ⟨gl,2,none⟩=some (.int .i64 (L.slot:Int))∧w.cell? ⟨gl,5,none⟩=some (.int .i64 (endOf L.recs:Int))∧w.cell? ⟨gl,6,none⟩=some (.bool L.dead):=by
 obtain⟨P,tv,rv,ws,h2,_⟩:=h.row
 exact⟨h2.cell 0,h2.cell 1,h2.cell 2,h2.cell 5,h2.cell 6⟩
theorem DW.fz (h:DW w0 w S g m gl L) (k:Nat):w.frozen? ⟨gl,k,none⟩=false:=by
 obtain⟨P,tv,rv,ws,h2,_⟩:=h.row
 exact h2.free k
/-- What stands from the beginning: errors, tables. -/
structure EW (w:World) (ea:Nat→Addr):Prop where
 sha:dS w
 d:oM w ea
 long:w.cell? ⟨3,0,none⟩=some (.iface 368 (.pointer (some (ea 3))))
 size:28≤w.heap.size
theorem DW.g26 (h:DW w0 w S g m gl L) (hE:EW w0 ea):28≤g:=by
 obtain⟨O,⟨bv,wv,xs,h1⟩,h3⟩:=h.disk
 exact Cz hE.size (h.up g (h3 g h1.fE))
theorem DW.errs (h:DW w0 w S g m gl L) (hE:EW w0 ea):oM w ea:=hE.d.keep (Kz h.bel)
theorem Uo (area at_:Int) (A:Option Addr) (n k:Nat) (bs:List UInt8) (h:DW w0 w S g m gl L) (hE:EW w0 ea) (hok:m.Ok) (hb:RB w A n bs) (hn:n≤1048576) (hw:m.waits.length≤1000):
  Calls Tryz.prog 208 #[.pointer (some ⟨g,0,none⟩),.int .i64 area,.int .i64 at_,.slice A n k] w fun e w'=>e=.returned (bK ea (m.dA area at_ bs.length))∧DW w0 w' (ext S w w') g (m.write area at_ bs) gl L∧Fr S w w':=by
 obtain⟨O,h1,_,hu⟩:=h.yC
 refine(Gf area at_ A n k bs h1 hok (h.errs hE) (h.g26 hE) hb hn hw).mono ?_
 rintro e w' ⟨rfl,hd',hf⟩
 exact⟨rfl,hu _ _ hd' hf⟩
theorem aag (area at_:Int) (h:DW w0 w S g m gl L) (hE:EW w0 ea) (hok:m.Ok) (hw:m.waits.length≤1000):
  Calls Tryz.prog 103 #[.pointer (some ⟨g,0,none⟩),.int .i64 area,.int .i64 at_] w fun e w'=>e=.returned (bK ea (m.jZ area at_))∧DW w0 w' (ext S w w') g (m.cut area at_) gl L∧Fr S w w':=by
 obtain⟨O,h1,_,hu⟩:=h.yC
 refine(NU area at_ h1 hok (h.errs hE) (h.g26 hE) hw).mono ?_
 rintro e w' ⟨rfl,hd',hf⟩
 exact⟨rfl,hu _ _ hd' hf⟩
/-- The error's number of a sync. -/
def syE (m:DM):Nat:=if m.dead=true then 25 else 0
theorem QG (h:DW w0 w S g m gl L) (hE:EW w0 ea) (hok:m.Ok):
  Calls Tryz.prog 104 #[.pointer (some ⟨g,0,none⟩)] w fun e w'=>e=.returned (bK ea (syE m))∧DW w0 w' (ext S w w') g m.sync gl L∧Fr S w w':=by
 obtain⟨O,h1,_,hu⟩:=h.yC
 refine(NT h1 hok (h.errs hE) (h.g26 hE)).mono ?_
 rintro e w' ⟨rfl,hd',hf⟩
 exact⟨rfl,hu _ _ hd' hf⟩
theorem BL (h:DW w0 w S g m gl L) (hok:m.Ok):Calls Tryz.prog 137 #[.pointer (some ⟨g,0,none⟩)] w fun e w'=>e=.returned (.int .i64 m.free)∧w=w':=by
 obtain⟨O,⟨bv,wv,xs,h1⟩,_⟩:=h.disk
 exact Dw hok h1
theorem QH (a:Nat) (ha:a<3) (h:DW w0 w S g m gl L):Calls Tryz.prog 102 #[.pointer (some ⟨g,0,none⟩),.int .i64 (a:Int)] w fun e w'=>e=.returned (.int .i64 ((m.b (3+a)).length:Int))∧w=w':=by
 obtain⟨O,⟨bv,wv,xs,h1⟩,_⟩:=h.disk
 exact vG a ha h1
theorem jX (ea:Nat→Addr) {n:Nat} (h:n≠0):bK ea n=.iface 368 (.pointer (some (ea n))):=by
 cases n with
 | zero=>exact absurd rfl h
 | succ n=>rfl
set_option maxHeartbeats 1000000 in
theorem xu (area at_:Int) (A:Option Addr) (n k:Nat) (bs:List UInt8) (h:DW w0 w S g m gl L) (hE:EW w0 ea) (hok:m.Ok) (hb:RB w A n bs) (hn:n≤1048576) (hw:m.waits.length≤1000):
  Calls Tryz.prog 158 #[.pointer (some ⟨gl,0,none⟩),.int .i64 area,.int .i64 at_,.slice A n k] w fun e w'=>e=.returned (bK ea (CV m area at_ bs))∧DW w0 w' (ext S w w') g (rQ m area at_ bs) gl L∧Fr S w w':=by
 have c0:=h.at.1
 have H1:=Hj (Uo area at_ A n k bs h hE hok hb hn hw)
 have HO:=Hj (hok.write area at_ bs)
 have HE:=Hj hE
 clear h hE hb
 unfold CV rQ
 by_cases h0:m.dA area at_ bs.length=0
 ·rw [if_pos h0,if_pos h0]
  change Calls _ _ _ _ fun e w'=>e=.returned (bK ea (syE (m.write area at_ bs)))∧_
  rw[h0] at H1
  generalize m.write area at_ bs=m1 at*
  clear h0
  have H2:=Hj (bQ ea)
  rw[H2.out] at H1
  go_enter Tryz.func158,Tryz.ntmps158
  go_wp2_with (first
   | (go_at_call 208;(with_reducible refine H1.out.mono ?_);rintro e w1 ⟨rfl,hd1,hf1⟩;have c1:=hd1.at.1;have D1:=Hj hd1;have F1:=Hj hf1;clear hd1 hf1)
   | (go_at_call 104;(with_reducible refine(QG D1.out HE.out HO.out).mono ?_);rintro e w2 ⟨rfl,hd2,hf2⟩;have D2:=Hj hd2;have F2:=Hj hf2;clear hd2 hf2))
  go_ret
  exact⟨rfl,DW.then F1.out ⟨D2.out,F2.out⟩⟩
 ·rw [if_neg h0,if_neg h0]
  rw[jX ea h0] at H1 ⊢
  go_enter Tryz.func158,Tryz.ntmps158
  go_wp2_with (first
   | (go_at_call 208;(with_reducible refine H1.out.mono ?_);rintro e w1 ⟨rfl,hd1,hf1⟩;have D1:=Hj hd1;have F1:=Hj hf1;clear hd1 hf1))
  go_ret
  exact⟨rfl,D1.out,F1.out⟩
set_option maxHeartbeats 1000000 in
theorem xA (area:Int) (h:DW w0 w S g m gl L) (hE:EW w0 ea) (hok:m.Ok) (hw:m.waits.length≤1000):
  Calls Tryz.prog 200 #[.pointer (some ⟨gl,0,none⟩),.int .i64 area] w fun e w'=>e=.returned (bK ea (MQ m area))∧DW w0 w' (ext S w w') g (oL m area) gl L∧Fr S w w':=by
 have c0:=h.at.1
 have H1:=Hj (aag area 0 h hE hok hw)
 have HO:=Hj (hok.cut area 0)
 have HE:=Hj hE
 clear h hE
 unfold MQ oL
 by_cases h0:m.jZ area 0=0
 ·rw [if_pos h0,if_pos h0]
  change Calls _ _ _ _ fun e w'=>e=.returned (bK ea (syE (m.cut area 0)))∧_
  rw[h0] at H1
  generalize m.cut area 0=m1 at*
  clear h0
  have H2:=Hj (bQ ea)
  rw[H2.out] at H1
  go_enter Tryz.func200,Tryz.ntmps200
  go_wp2_with (first
   | (go_at_call 103;(with_reducible refine H1.out.mono ?_);rintro e w1 ⟨rfl,hd1,hf1⟩;have c1:=hd1.at.1;have D1:=Hj hd1;have F1:=Hj hf1;clear hd1 hf1)
   | (go_at_call 104;(with_reducible refine(QG D1.out HE.out HO.out).mono ?_);rintro e w2 ⟨rfl,hd2,hf2⟩;have D2:=Hj hd2;have F2:=Hj hf2;clear hd2 hf2))
  go_ret
  exact⟨rfl,DW.then F1.out ⟨D2.out,F2.out⟩⟩
 ·rw [if_neg h0,if_neg h0]
  rw[jX ea h0] at H1 ⊢
  go_enter Tryz.func200,Tryz.ntmps200
  go_wp2_with (first
   | (go_at_call 103;(with_reducible refine H1.out.mono ?_);rintro e w1 ⟨rfl,hd1,hf1⟩;have D1:=Hj hd1;have F1:=Hj hf1;clear hd1 hf1))
  go_ret
  exact⟨rfl,D1.out,F1.out⟩
/-- The log behind done. -/
def LM.done (L:LM) (e:Nat):LM:=if e=0 then L else {L with dead:=true}
def MR (e:Nat):Nat:=if e=0 then 0 else 25
set_option maxHeartbeats 1000000 in
theorem oC (e0:Nat) (h:DW w0 w S g m gl L) (hE:EW w0 ea):
  Calls Tryz.prog 138 #[.pointer (some ⟨gl,0,none⟩),bK ea e0] w fun e w'=>e=.returned (bK ea (MR e0))∧DW w0 w' (ext S w w') g m gl (L.done e0)∧Fr S w w':=by
 unfold MR LM.done
 by_cases h0:e0=0
 ·subst h0
  rw[if_pos rfl,if_pos rfl,bQ]
  have HS:=Hj h.same
  clear h hE
  go_enter Tryz.func138,Tryz.ntmps138
  go_wp2
  go_ret
  exact⟨rfl,HS.out⟩
 ·rw [if_neg h0,if_neg h0,jX ea h0,jX ea (n:=25) (by decide)]
  have c6:=h.at.2.2.2.2
  have f6:=h.fz 6
  have d1:=(hE.d.keep (Kz h.bel)).down
  have hg:24<w0.heap.size:=Nat.lt_of_lt_of_le (by decide) hE.size
  obtain⟨P,tv,rv,ws,hV,_,hu⟩:=h.Aq
  have hPl:=hV.fE
  have hne:gl≠24:=fun e=>by
   obtain⟨P',tv',rv',ws',hV',hP'⟩:=h.row
   have:=h.up gl (hP' gl hV'.fE)
   omega
  have HU:=Hj hu
  have HV:=Hj hV
  clear h hE hu hV
  go_enter Tryz.func138,Tryz.ntmps138
  go_wp2
  go_ret
  have hf:Fr (fun k=>k=gl) w (w.setCell ⟨gl,6,none⟩ (.bool true)):=(Fr.refl (fun k=>k=gl) w).setCell (p:=⟨gl,6,none⟩) (fun _=>rfl) _
  exact⟨rfl,HU.out _ _ ⟨_,_,_,(HV.out.turn (L':={L with dead:=true}) hf (heap_setCell_same _ _ _ _ _ _ HV.out.cells) rfl rfl).mono fun _ _ hk=>Or.inl hk⟩ (hf.mono fun _ _ e=>by subst e;exact hPl)⟩
end
section
variable {w w' w0:World} {S:Nat→Prop} {gl g:Nat} {m:DM} {L:LM} {ea:Nat→Addr}
/-- A slice whose block is none of S. -/
def Off (S:Nat→Prop) (A:Option Addr):Prop:=∀p,A=some p→¬S p.block
theorem RB.fr {A:Option Addr} {n:Nat} {l:List UInt8} (h:RB w A n l) (hf:Fr S w w') (ha:Off S A):RB w' A n l:=
 ⟨h.1,fun hn=>let ⟨b,o,e,hc⟩:=h.2 hn;⟨b,o,e,fun k hk=>(hf.cell (p:=⟨b,o+k,none⟩) (World.block_lt_of_cell? w _ (hc k hk)) (fun hs=>ha _ e hs)).trans (hc k hk)⟩⟩
theorem RB.MK {A:Option Addr} {n:Nat} {l:List UInt8} (h:RB w A n l) (hf:Fr S w w') (ha:0<n→Off S A):RB w' A n l:=by
 rcases Nat.eq_zero_or_pos n with h0 | h0
 ·subst h0
  exact⟨h.1,fun h=>absurd h (by omega)⟩
 ·exact h.fr hf (ha h0)
theorem uD {m:DM} (h:syE m=0):m.sync.waits=[]:=by
 unfold syE at h
 split at h
 ·cases h
 ·rename_i hd
  unfold DM.sync
  rw[if_neg hd]
  rfl
theorem LX {m:DM} {a:Int} (h:MQ m a=0):(oL m a).waits=[]:=by
 unfold MQ at h
 unfold oL
 split at h
 ·rename_i h0
  rw[if_pos h0]
  exact uD h
 ·rename_i h0
  exact absurd h h0
theorem LY {m:DM} {a p:Int} {bs:List UInt8} (h:CV m a p bs=0):(rQ m a p bs).waits=[]:=by
 unfold CV at h
 unfold rQ
 split at h
 ·rename_i h0
  rw[if_pos h0]
  exact uD h
 ·rename_i h0
  exact absurd h h0
set_option maxHeartbeats 2000000 in
theorem swap_any (gen slot:Nat) (A:Option Addr) (n c:Nat) (text:List UInt8) (h:DW w0 w S g m gl L) (hE:EW w0 ea) (hok:m.Ok) (hb:RB w A n text) (hA:Off S A) (hnc:n≤c) (hc:c≤maxLen) (hn:16+n≤1048576) (hg:gen<4294967296) (hw:m.waits.length≤1000):
  Calls Tryz.prog 139 #[.pointer (some ⟨gl,0,none⟩),.agg #[.int .i64 (gen:Int),.int .i64 (slot:Int),.slice A n c]] w fun e w'=>e=.returned (bK ea (Ur m slot (dh gen text)))∧DW w0 w' (ext S w w') g (Jz m slot (dh gen text)) gl L∧Fr S w w':=by
 have D0:=(Below.refl w.heap.size w).alloc Kv (.cells #[.int .i64 (gen:Int),.int .i64 (slot:Int),.slice A n c] 171)
 have E0:=heap_alloc_new w (.cells #[.int .i64 (gen:Int),.int .i64 (slot:Int),.slice A n c] 171)
 have Z0:w.heap.size<(w.alloc (.cells #[.int .i64 (gen:Int),.int .i64 (slot:Int),.slice A n c] 171)).heap.size:=by show _<(w.heap.push _).size;rw[Array.size_push];omega
 obtain⟨wa,Oo⟩:∃W,W=w.alloc (.cells #[.int .i64 (gen:Int),.int .i64 (slot:Int),.slice A n c] 171):=⟨_,rfl⟩
 rw[←Oo] at D0 E0 Z0
 have HSw:Hid (w0.heap.size≤w.heap.size):=Hj h.bel.size
 have HU:Hid (¬S w.heap.size):=Hj fun e=>Nat.lt_irrefl _ (h.hi _ e)
 have Ha:=h.below D0
 have c0:wa.cell? ⟨w.heap.size,0,none⟩=some (.int .i64 (gen:Int)):=Kq 0 E0
 have c1:wa.cell? ⟨w.heap.size,1,none⟩=some (.int .i64 (slot:Int)):=Kq 1 E0
 have c2:wa.cell? ⟨w.heap.size,2,none⟩=some (.slice A n c):=Kq 2 E0
 have K0:Hid (∀W,Fr S wa W→W.cell? ⟨w.heap.size,0,none⟩=some (.int .i64 (gen:Int))∧W.cell? ⟨w.heap.size,1,none⟩=some (.int .i64 (slot:Int))∧W.cell? ⟨w.heap.size,2,none⟩=some (.slice A n c)):=Hj fun W hf=>
  ⟨(hf.cell (p:=⟨w.heap.size,0,none⟩) Z0 HU.out).trans c0,(hf.cell (p:=⟨w.heap.size,1,none⟩) Z0 HU.out).trans c1,(hf.cell (p:=⟨w.heap.size,2,none⟩) Z0 HU.out).trans c2⟩
 have HR:Hid (∀W,Fr S wa W→RB W A n text):=Hj fun W hf=>(hb.keep (Kz D0)).fr hf hA
 have MN:=Hj hb.1
 have HE:=Hj hE
 have HD0:=Hj D0
 have H1:=Hj (xA (slot:Int) Ha hE hok hw)
 have Q5:=Hj (hok.oL (slot:Int))
 have VD:Hid (∀W,Below w0.heap.size w0 W→RB W A n text→Calls Tryz.prog 136 #[.agg #[.int .i64 (gen:Int),.int .i64 (slot:Int),.slice A n c]] W fun e w'=>∃A' cap,e=.returned (.slice A' (16+n) cap)∧RB w' A' (16+n) (dh gen text)∧Below W.heap.size W w'):=Hj fun W hW hr=>
  (l9 gen slot A n c text W hr hnc hc hg (by omega) (hE.sha.keep (Kz hW))).mono fun e w' ⟨v,h1,h2,h3⟩=>by
   obtain⟨A',cap,rfl,_,_,h6⟩:=h2.form
   rw[eG,hr.1] at h1 h6
   exact⟨A',cap,h1,h6,h3⟩
 have HW1:Hid (MQ m (slot:Int)=0→(oL m (slot:Int)).waits.length≤1000):=Hj fun e=>by rw[LX e];decide
 unfold Ur Jz
 generalize hm1:oL m (slot:Int)=m1 at*
 generalize he1:MQ m (slot:Int)=e1 at*
 clear h hE hb hA hm1 he1 D0 E0 Z0 Ha c0 c1 c2 hok
 by_cases h1:e1=0
 ·subst h1
  rw[if_pos rfl,if_pos rfl]
  have HW1':=Hj (HW1.out rfl)
  clear HW1
  have Hz:=Hj (bQ ea)
  rw[Hz.out] at H1
  have Rz:=Hj (Q5.out.rQ (slot:Int) 0 (dh gen text))
  have HW2:Hid (CV m1 (slot:Int) 0 (dh gen text)=0→(rQ m1 (slot:Int) 0 (dh gen text)).waits.length≤1000):=Hj fun e=>by rw[LY e];decide
  have H2:Hid (∀W S',DW w0 W S' g m1 gl L→∀A' cap,RB W A' (16+n) (dh gen text)→Calls Tryz.prog 158 #[.pointer (some ⟨gl,0,none⟩),.int .i64 (slot:Int),.int .i64 0,.slice A' (16+n) cap] W fun e w'=>e=.returned (bK ea (CV m1 (slot:Int) 0 (dh gen text)))∧DW w0 w' (ext S' W w') g (rQ m1 (slot:Int) 0 (dh gen text)) gl L∧Fr S' W w'):=Hj fun W S' hd A' cap hr=>
   xu (slot:Int) 0 A' (16+n) cap _ hd HE.out Q5.out hr hn HW1'.out
  generalize rQ m1 (slot:Int) 0 (dh gen text)=m2 at*
  generalize CV m1 (slot:Int) 0 (dh gen text)=e2 at*
  by_cases h2:e2=0
  ·subst h2
   rw[if_pos rfl,if_pos rfl]
   have HW2':=Hj (HW2.out rfl)
   clear HW2
   rw[Hz.out] at H2
   go_enter Tryz.func139,Tryz.ntmps139
   go_wp2_with (first
    | (go_at_call 200;rw[←Oo];(with_reducible refine H1.out.mono ?_);rintro e w1 ⟨rfl,hd1,hf1⟩;obtain⟨x0,x1,x2⟩:=K0.out w1 hf1;have D1:=Hj hd1;have F1:=Hj hf1;clear hd1 hf1)
    | fail)
   have F1d:Hid (Fr S wa w1.drew):=Hj F1.out.drew
   go_region_held3 (fun w'=>w'.cell? ⟨w.heap.size,0,none⟩=some (.int .i64 (gen:Int))∧w'.cell? ⟨w.heap.size,1,none⟩=some (.int .i64 (slot:Int))∧w'.cell? ⟨w.heap.size,2,none⟩=some (.slice A n c)) (first | exact⟨by assumption,by assumption,by assumption⟩ | go_keep)
    (first
     | (go_at_call 136;((with_reducible refine(VD.out w1.drew (Below.drew D1.out.bel) (HR.out _ F1d.out)).mono ?_);rintro e w2 ⟨A2,k2,rfl,hr2,hb2⟩;have B2:Hid (Below w1.heap.size w1 w2):=Hj (Below.cu hb2);have F2:Hid (Fr S wa w2):=Hj (F1.out.trans (Fr.of_below (S:=S) B2.out) fun _ _ hk=>hk);obtain⟨y0,y1,y2⟩:=K0.out w2 F2.out;have R2:=Hj hr2;clear hr2 hb2))
     | (go_at_call 158;((with_reducible refine(H2.out w2 _ (D1.out.below B2.out) A2 k2 R2.out).mono ?_);rintro e w3 ⟨rfl,hd3,hf3⟩;have F3:Hid (Fr S wa w3):=Hj (F2.out.trans hf3 fun k hk hs=>hs.elim id fun hs=>absurd hs.1 (Nat.not_le_of_lt hk));obtain⟨u0,u1,u2⟩:=K0.out w3 F3.out;have D3:=Hj hd3;have FF3:=Hj hf3;clear hd3 hf3)))
   all_goals
    go_wp2_with (first
     | (go_at_call 200;((with_reducible refine(xA 2 D3.out HE.out Rz.out HW2'.out).mono ?_);rintro e w4 ⟨rfl,hd4,hf4⟩;have D4:=Hj hd4;have F4:=Hj hf4;clear hd4 hf4))
     | fail)
    go_ret
    refine⟨rfl,?_⟩
    exact DW.behind HSw.out HD0.out (DW.then F1.out (DW.behind D1.out.bel.size B2.out (DW.then FF3.out ⟨D4.out,F4.out⟩)))
  ·rw [if_neg h2,if_neg h2]
   rw[jX ea h2] at H2 ⊢
   go_enter Tryz.func139,Tryz.ntmps139
   go_wp2_with (first
    | (go_at_call 200;rw[←Oo];(with_reducible refine H1.out.mono ?_);rintro e w1 ⟨rfl,hd1,hf1⟩;obtain⟨x0,x1,x2⟩:=K0.out w1 hf1;have D1:=Hj hd1;have F1:=Hj hf1;clear hd1 hf1)
    | fail)
   have F1d:Hid (Fr S wa w1.drew):=Hj F1.out.drew
   go_region_held3 (fun w'=>w'.cell? ⟨w.heap.size,0,none⟩=some (.int .i64 (gen:Int))∧w'.cell? ⟨w.heap.size,1,none⟩=some (.int .i64 (slot:Int))∧w'.cell? ⟨w.heap.size,2,none⟩=some (.slice A n c)) (first | exact⟨by assumption,by assumption,by assumption⟩ | go_keep)
    (first
     | (go_at_call 136;((with_reducible refine(VD.out w1.drew (Below.drew D1.out.bel) (HR.out _ F1d.out)).mono ?_);rintro e w2 ⟨A2,k2,rfl,hr2,hb2⟩;have B2:Hid (Below w1.heap.size w1 w2):=Hj (Below.cu hb2);have F2:Hid (Fr S wa w2):=Hj (F1.out.trans (Fr.of_below (S:=S) B2.out) fun _ _ hk=>hk);obtain⟨y0,y1,y2⟩:=K0.out w2 F2.out;have R2:=Hj hr2;clear hr2 hb2))
     | (go_at_call 158;((with_reducible refine(H2.out w2 _ (D1.out.below B2.out) A2 k2 R2.out).mono ?_);rintro e w3 ⟨rfl,hd3,hf3⟩;have F3:Hid (Fr S wa w3):=Hj (F2.out.trans hf3 fun k hk hs=>hs.elim id fun hs=>absurd hs.1 (Nat.not_le_of_lt hk));obtain⟨u0,u1,u2⟩:=K0.out w3 F3.out;have D3:=Hj hd3;have FF3:=Hj hf3;clear hd3 hf3)))
   all_goals
    go_wp2
    go_ret
    refine⟨rfl,?_⟩
    exact DW.behind HSw.out HD0.out (DW.then F1.out (DW.behind D1.out.bel.size B2.out ⟨D3.out,FF3.out⟩))
 ·rw [if_neg h1,if_neg h1]
  rw[jX ea h1] at H1 ⊢
  go_enter Tryz.func139,Tryz.ntmps139
  go_wp2_with (first
   | (go_at_call 200;(rw[←Oo];(with_reducible refine H1.out.mono ?_);rintro e w1 ⟨rfl,hd1,hf1⟩;have D1:=Hj hd1;have F1:=Hj hf1;clear hd1 hf1))
   | fail)
  go_ret
  exact⟨rfl,DW.behind HSw.out HD0.out ⟨D1.out,F1.out⟩⟩
end
theorem wo:(Tryz.prog.info? 35).map (fun i=>(i.zero,i.size,i.bytes))=some (some (.slice none 0 0),1,24):=by kernel_rfl
theorem Src.one (w W:World) (A:Option Addr) (n k:Nat) (cp:Nat) (hW:Keeps (w.alloc (.cells #[.slice A n k] 35)) W):Src Tryz.prog 1 130 (.slice (some ⟨w.heap.size,0,none⟩) 1 cp) 1 [.slice A n k] W:=
 Src.ofSlice _ Tryz.underlying130 _ _ cp _ rfl (fun j u hu=>hW _ _ (World.news_of_block (cs:=#[.slice A n k]) (heap_alloc_new w _) j u hu)) (fun u hu=>by
  rw[List.mem_singleton.1 hu];rfl)
theorem yF {ops:Array Oper} {o:Oper} {a:Act} {w:World} {K:Act→World→Prop} {Q:Exit→Act→World→Prop} {E:Prop} (hgd:o.guard=none) (s x:Operand)
  (ho:o.op=.call {callee:=.builtin .append,args:=#[s,x],argTypes:=#[130,130]})
  {v:Value} {n:Nat} {ws:List Value} (hown:ah w 0 35 1 v n ws) (hs:a.eval s=v)
  {xv y:Value} (hsrc:Src Tryz.prog 1 130 xv 1 [y] w) (hx:a.eval x=xv) (hbytes:n≤1000000)
  (h:∀v' w',ah w' 0 35 1 v' (n+1) (ws++[y])→w.grownBy w' v.ownBlock→(v'.ownBlock=v.ownBlock∨v'.ownBlock=some w.heap.size)→K (a.put o.dst v') w'):
  if Region.wanted o (yielded ops a.tmps)=true then Oper.wp Tryz.prog o a w K Q else E:=by
 obtain⟨i0,hi,hz0,hz1,hz2⟩:=bW wo
 exact bH hgd s x 130 130 ho i0 _ 24 Tryz.underlying130 hi hz0 hz1 hz2 rfl (by omega) hs hown xv 1 _ hx hsrc (by unfold maxLen;omega) (by omega) (Nat.zero_le _) fun v' w' h1 h2 h3=>h v' w' h1 h2 h3
section
variable {w w' w0:World} {S P:Nat→Prop} {gl g:Nat} {m:DM} {L:LM} {ea:Nat→Addr} {tv rv:Value} {ws:List (List UInt8×Value)}
/-- One record more. -/
theorem fG.push (h:fG w P gl g L tv rv ws) {x:List UInt8} {xv rv':Value} (hf:Fr (fun k=>k=gl∨rv.ownBlock=some k) w w') (hc:w'.heap[gl]?=some (.cells (xq g (L.with x) tv rv') 173 (0,0)))
  (hv:ah w' 0 35 1 rv' (ws.length+1) (ws.map (fun x=>x.2)++[xv])) (hat:rv'.ownBlock=rv.ownBlock∨∃k,rv'.ownBlock=some k∧w.heap.size≤k)
  (hx:OB w' w.heap.size xv x):fG w' (ext P w w') gl g (L.with x) tv rv' (ws++[(x,xv)]):=by
 have hxn:∀(x:Value) (l:List UInt8),OB w 0 x l→∀k,x.ownBlock=some k→¬(k=gl∨rv.ownBlock=some k):=fun x l hx k hk e=>by
  obtain⟨cur,hcur⟩:=ak hx hk
  rcases e with rfl | e
  ·exact absurd (aj hcur h.cells) (by decide)
  ·obtain ⟨cur',hc'⟩:=ak h.recs e
   exact absurd (aj hcur hc') (by decide)
 refine⟨hc,ah.kept h.text hf (hxn _ _ h.text),?_,?_,fun x hx'=> ?_,.inl h.fE,fun k hk=>.inl (h.LQ k hk),fun k hk=> ?_,fun x hx' k hk=> ?_⟩
 ·rw [List.length_append,List.map_append];exact hv
 ·rw [List.map_append,h.eq];rfl
 ·rcases List.mem_append.1 hx' with hx' | hx'
  ·exact ah.kept (h.each x hx') hf (hxn _ _ (h.each x hx'))
  ·rw [List.mem_singleton.1 hx']
   exact hx.mono (Nat.zero_le _)
 ·rcases hat with e | ⟨q,e,hq⟩
  ·exact .inl (h.uT k (e.symm.trans hk))
  ·refine .inr ⟨?_,(ah.lt hv k hk).2⟩
   rw[e] at hk
   injection hk with hk
   omega
 ·rcases List.mem_append.1 hx' with hx' | hx'
  ·exact .inl (h.qJ x hx' k hk)
  ·rw [List.mem_singleton.1 hx'] at hk
   exact .inr (OB.lt hx k hk)
/-- What stands behind the append: w: before; wa: memory made; w3: appended. -/
theorem xB {wa w3:World} {v3:Value} (h:fG w P gl g L tv rv ws) (hb:Below w.heap.size w wa) (hgr:wa.grownBy w3 rv.ownBlock) (hat:v3.ownBlock=rv.ownBlock∨v3.ownBlock=some wa.heap.size):
  w3.heap[gl]?=some (.cells (xq g L tv rv) 173 (0,0))∧Fr (fun q=>q=gl∨rv.ownBlock=some q) w w3∧(v3.ownBlock=rv.ownBlock∨∃q,v3.ownBlock=some q∧w.heap.size≤q):=by
 have hg3:=((Fr.aU hgr).block gl (Nat.lt_of_lt_of_le h.lt hb.size) (fun e=>h.rne e.symm)).trans ((hb.block gl h.lt).trans h.cells)
 exact⟨hg3,(Fr.of_below hb).trans (Fr.aU hgr) (fun q _ hq=>.inr hq.symm),hat.imp id fun e=>⟨_,e,hb.size⟩⟩
/-- .. and behind both stores. -/
theorem LZ {wa w3:World} {A3:Option Addr} {c3:Nat} {x:List UInt8} {xv:Value} (h:fG w P gl g L tv rv ws) (hb:Below w.heap.size w wa) (hgr:wa.grownBy w3 rv.ownBlock) (hat:(Value.slice A3 (ws.length+1) c3).ownBlock=rv.ownBlock∨(Value.slice A3 (ws.length+1) c3).ownBlock=some wa.heap.size)
  (hv:ah w3 0 35 1 (.slice A3 (ws.length+1) c3) (ws.length+1) (ws.map (fun x=>x.2)++[xv])) (hx:OB wa w.heap.size xv x):
  nU ((w3.setCell ⟨gl,4,none⟩ (.slice A3 (ws.length+1) c3)).setCell ⟨gl,5,none⟩ (.int .i64 ((endOf L.recs+(20+x.length):Nat):Int))) (ext P w ((w3.setCell ⟨gl,4,none⟩ (.slice A3 (ws.length+1) c3)).setCell ⟨gl,5,none⟩ (.int .i64 ((endOf L.recs+(20+x.length):Nat):Int)))) gl g (L.with x)∧
   Fr P w ((w3.setCell ⟨gl,4,none⟩ (.slice A3 (ws.length+1) c3)).setCell ⟨gl,5,none⟩ (.int .i64 ((endOf L.recs+(20+x.length):Nat):Int))):=by
 obtain⟨h1,h2,h3⟩:=xB h hb hgr hat
 have hF:=(h2.setCell (p:=⟨gl,4,none⟩) (fun _=>.inl rfl) (.slice A3 (ws.length+1) c3)).setCell (p:=⟨gl,5,none⟩) (fun _=>.inl rfl) (.int .i64 ((endOf L.recs+(20+x.length):Nat):Int))
 have keep:∀(v:Value) (b n:Nat) (e:TypeId) (l:List Value),ah w3 b e 1 v n l→e≠173→ah ((w3.setCell ⟨gl,4,none⟩ (.slice A3 (ws.length+1) c3)).setCell ⟨gl,5,none⟩ (.int .i64 ((endOf L.recs+(20+x.length):Nat):Int))) b e 1 v n l:=fun v b n e l ho hne=>
  ah.kept ho (((Fr.refl (fun k=>k=gl) w3).setCell (p:=⟨gl,4,none⟩) (fun _=>rfl) (.slice A3 (ws.length+1) c3)).setCell (p:=⟨gl,5,none⟩) (fun _=>rfl) (.int .i64 ((endOf L.recs+(20+x.length):Nat):Int))) fun k hk e=>by
   subst e
   obtain⟨cur,hcur⟩:=ak ho hk
   exact hne (aj hcur h1)
 have hx3:OB w3 w.heap.size xv x:=ah.kept hx (Fr.aU hgr) fun k hk e=>by
  obtain⟨cur,hcur⟩:=ak h.recs e.symm
  have:=(OB.lt hx k hk).1
  have:=(ah.lt h.recs k e.symm).2
  omega
 refine⟨⟨tv,_,_,h.push hF ?_ (keep _ _ _ _ _ hv (by decide)) h3 (keep _ _ _ _ _ hx3 (by decide))⟩,hF.mono fun q _ hq=> ?_⟩
 ·have:=heap_setCell_same _ gl 5 _ _ (.int .i64 ((endOf L.recs+(20+x.length):Nat):Int)) (heap_setCell_same _ gl 4 _ _ (.slice A3 (ws.length+1) c3) h1)
  rw[this]
  show some (Obj.cells #[.pointer (some ⟨g,0,none⟩),.int .i64 (L.gen:Int),.int .i64 (L.slot:Int),tv,.slice A3 (ws.length+1) c3,.int .i64 ((endOf L.recs+(20+x.length):Nat):Int),.bool L.dead] _ _)=some (Obj.cells #[.pointer (some ⟨g,0,none⟩),.int .i64 (L.gen:Int),.int .i64 (L.slot:Int),tv,.slice A3 (ws.length+1) c3,.int .i64 (endOf (L.recs++[x]):Int),.bool L.dead] _ _)
  rw[xC]
 ·rcases hq with rfl | hq
  ·exact h.fE
  ·exact h.uT q hq
end
section
variable {w w' w0:World} {S P:Nat→Prop} {gl g:Nat} {m:DM} {L:LM} {ea:Nat→Addr} {tv rv:Value} {ws:List (List UInt8×Value)}
set_option maxHeartbeats 1000000 in
theorem Ia (A:Option Addr) (n c:Nat) (text:List UInt8) (h:DW w0 w S g m gl L) (hE:EW w0 ea) (hok:m.Ok) (hb:RB w A n text) (hr:L.room m text≠0):
  Calls Tryz.prog 100 #[.pointer (some ⟨gl,0,none⟩),.slice A n c] w fun e w'=>e=.returned (bK ea (L.room m text))∧w=w':=by
 have c6:=h.at.2.2.2.2
 have c0:=h.at.1
 have d1:=(h.errs hE).down
 have d2:=(h.errs hE).full
 have d3:w.cell? ⟨3,0,none⟩=some (.iface 368 (.pointer (some (ea 3)))):=Kz h.bel _ _ hE.long
 have HF:=Hj (BL h hok)
 have hl:=hb.1
 clear h hE hb
 unfold LM.room at hr ⊢
 cases hd:L.dead with
 | true=>
  rw[if_pos rfl]
  rw[hd] at c6
  show Calls _ _ _ _ fun e w'=>e=.returned (.iface 368 (.pointer (some (ea 25))))∧w=w'
  go_enter Tryz.func100,Tryz.ntmps100
  go_wp2
  go_ret
  exact⟨rfl,rfl⟩
 | false=>
  rw[hd] at c6 hr
  rw[if_neg (by decide)] at hr ⊢
  by_cases h1:16384<text.length
  ·rw [if_pos h1]
   have q1:decide ((n:Int)>16384)=true:=decide_eq_true (by omega)
   have q1':decide (16384<(n:Int))=true:=decide_eq_true (by omega)
   show Calls _ _ _ _ fun e w'=>e=.returned (.iface 368 (.pointer (some (ea 3))))∧w=w'
   go_enter Tryz.func100,Tryz.ntmps100
   go_wp2
   go_ret
   exact⟨rfl,rfl⟩
  ·rw [if_neg h1] at hr ⊢
   by_cases h2:m.free<20+(text.length:Int)
   ·rw [if_pos h2]
    have q1:decide ((n:Int)>16384)=false:=decide_eq_false (by omega)
    have q1':decide (16384<(n:Int))=false:=decide_eq_false (by omega)
    have q2:decide (20+(n:Int)>m.free)=true:=decide_eq_true (by omega)
    have q2':decide (m.free<20+(n:Int))=true:=decide_eq_true (by omega)
    have n0:(n:Int)≤16384:=by omega
    clear h1 h2 hr hl
    generalize m.free=F at*
    show Calls _ _ _ _ fun e w'=>e=.returned (.iface 368 (.pointer (some (ea 26))))∧w=w'
    go_enter Tryz.func100,Tryz.ntmps100
    go_wp2_with (first
     | (go_at_call 137;(with_reducible refine HF.out.mono ?_);rintro e w1 ⟨rfl,rfl⟩)
     | fail)
    go_ret
    exact⟨rfl,rfl⟩
   ·rw [if_neg h2] at hr
    exact absurd rfl hr
set_option maxHeartbeats 2000000 in
theorem EY (A:Option Addr) (n c:Nat) (text:List UInt8) (h:DW w0 w S g m gl L) (hE:EW w0 ea) (hok:m.Ok) (hL:L.Ok) (hb:RB w A n text) (hA:0<n→Off S A) (hnc:n≤c) (hc:c≤maxLen) (hw:m.waits.length≤1000) (hr:L.room m text=0):
  Calls Tryz.prog 100 #[.pointer (some ⟨gl,0,none⟩),.slice A n c] w fun e w'=>e=.returned (bK ea (MR (CV m 2 (endOf L.recs:Int) (lu L.gen L.recs.length text))))∧DW w0 w' (ext S w w') g (rQ m 2 (endOf L.recs:Int) (lu L.gen L.recs.length text)) gl (if CV m 2 (endOf L.recs:Int) (lu L.gen L.recs.length text)=0 then L.with text else {L with dead:=true})∧Fr S w w':=by
 obtain⟨hd,h1,h2⟩:=sQ hr
 have hl:=hb.1
 have c0:=h.at.1
 have c1:=h.at.2.1
 have c6:=h.at.2.2.2.2
 rw[hd] at c6
 have HF:=Hj (BL h hok)
 have q1:decide ((n:Int)>16384)=false:=decide_eq_false (by omega)
 have q1':decide (16384<(n:Int))=false:=decide_eq_false (by omega)
 have q2:decide (20+(n:Int)>m.free)=false:=decide_eq_false (by omega)
 have q2':decide (m.free<20+(n:Int))=false:=decide_eq_false (by omega)
 have n0:(n:Int)≤16384:=by omega
 have hge:=QI L.recs
 have hL3:=hL.recs
 have hL1:=hL.gen
 obtain⟨P0,tv0,rv0,ws0,hV0,hP0⟩:=h.row
 have hnum:=hV0.num
 obtain⟨AR,cR,e4,_,_⟩:=hV0.recs.form
 have c4:w.cell? ⟨gl,4,none⟩=some (.slice AR L.recs.length cR):=by rw[←hnum,←e4];exact hV0.cell 4
 have HK:Hid (∀W,Below w.heap.size w W→W.cell? ⟨gl,1,none⟩=some (.int .i64 (L.gen:Int))∧W.cell? ⟨gl,4,none⟩=some (.slice AR L.recs.length cR)∧W.cell? ⟨gl,0,none⟩=some (.pointer (some ⟨g,0,none⟩))∧W.cell? ⟨gl,5,none⟩=some (.int .i64 (endOf L.recs:Int))):=Hj fun W hW=>
  ⟨Kz hW _ _ c1,Kz hW _ _ c4,Kz hW _ _ c0,Kz hW _ _ h.at.2.2.2.1⟩
 have HR:Hid (∀W,Below w.heap.size w W→Calls Tryz.prog 157 #[.int .i64 (L.gen:Int),.int .i64 (L.recs.length:Int),.slice A n c] W fun e w'=>∃A' cap,e=.returned (.slice A' (20+n) cap)∧RB w' A' (20+n) (lu L.gen L.recs.length text)∧Below W.heap.size W w'):=Hj fun W hW=>
  (H9 L.gen L.recs.length A n c text W (hb.keep (Kz hW)) hnc hc (by omega) (by omega) (by omega) (hE.sha.keep (Kz (h.bel.trans (hW.mono h.bel.size))))).mono fun e w' ⟨v,k1,k2,k3⟩=>by
   obtain⟨A',cap,rfl,_,_,k6⟩:=k2.form
   rw[jy,hl] at k1 k6
   exact⟨A',cap,k1,k6,k3⟩
 have HD:=Hj h
 have HE:=Hj hE
 have HWr:Hid (∀W S',DW w0 W S' g m gl L→∀A' cap,RB W A' (20+n) (lu L.gen L.recs.length text)→Calls Tryz.prog 158 #[.pointer (some ⟨gl,0,none⟩),.int .i64 2,.int .i64 (endOf L.recs:Int),.slice A' (20+n) cap] W fun e w'=>e=.returned (bK ea (CV m 2 (endOf L.recs:Int) (lu L.gen L.recs.length text)))∧DW w0 w' (ext S' W w') g (rQ m 2 (endOf L.recs:Int) (lu L.gen L.recs.length text)) gl L∧Fr S' W w'):=Hj fun W S' hd A' cap hr=>
  xu 2 _ A' (20+n) cap _ hd hE hok hr (by omega) hw
 have HB:=Hj hb
 have HA:=Hj hA
 have HN:Hid (n≤16384):=Hj (by omega)
 have MI:Hid (L.recs.length≤1000000):=Hj (by omega)
 have HEN:Hid (endOf L.recs≤1048576):=Hj hL3
 have MN:=Hj hl
 clear h hE hok hL hb hA hnc hc hw hr hd h1 h2 hV0 hP0 e4 hnum hge hL3 hL1 hl
 generalize rQ m 2 (endOf L.recs:Int) (lu L.gen L.recs.length text)=m1 at*
 generalize CV m 2 (endOf L.recs:Int) (lu L.gen L.recs.length text)=e1 at*
 generalize m.free=F at*
 by_cases he:e1=0
 ·subst he
  rw[if_pos rfl,show MR 0=0 from rfl]
  have Hz:=Hj (bQ ea)
  rw[Hz.out] at HWr ⊢
  have HDn:Hid (∀W S',DW w0 W S' g m1 gl L→Calls Tryz.prog 138 #[.pointer (some ⟨gl,0,none⟩),.nilIface] W fun e w'=>e=.returned .nilIface∧DW w0 w' (ext S' W w') g m1 gl L∧Fr S' W w'):=Hj fun W S' hd=>by
   have:=oC 0 hd HE.out
   rw[show MR 0=0 from rfl,Hz.out,show L.done 0=L from if_pos rfl] at this
   exact this
  have FV:Hid (∀W,RB W A n text→Calls Tryz.prog 94 #[.slice A n c] W fun e w'=>∃A' cap,e=.returned (.slice A' text.length cap)∧OB w' W.heap.size (.slice A' text.length cap) text∧Below W.heap.size W w'):=Hj fun W h=>bT A n c text W h (by have:=HN.out;omega)
  go_enter Tryz.func100,Tryz.ntmps100
  go_wp2_with (first
   | (go_at_call 137;(with_reducible refine HF.out.mono ?_);rintro e w1 ⟨rfl,rfl⟩)
   | fail)
  have Bd:Hid (Below w.heap.size w w.drew):=Hj (Below.drew (Below.refl _ _))
  go_region_held3 (fun w'=>w'.cell? ⟨gl,1,none⟩=some (.int .i64 (L.gen:Int))∧w'.cell? ⟨gl,4,none⟩=some (.slice AR L.recs.length cR)) (first | exact⟨by assumption,by assumption⟩ | go_keep)
   (first
    | (go_at_call 157;((with_reducible refine(HR.out w.drew Bd.out).mono ?_);rintro e w2 ⟨A2,k2,rfl,hr2,hb2⟩;have B2:Hid (Below w.heap.size w w2):=Hj (Below.cu hb2);obtain⟨x1,x4,x0,x5⟩:=HK.out w2 B2.out;have R2:=Hj hr2;clear hr2 hb2)))
  all_goals
   go_wp2_with (first
    | (go_at_call 158;((with_reducible refine(HWr.out w2 S (HD.out.below B2.out) A2 k2 R2.out).mono ?_);rintro e w3 ⟨rfl,hd3,hf3⟩;have D3:=Hj hd3;have F3:=Hj hf3;clear hd3 hf3))
    | (go_at_call 138;((with_reducible refine(HDn.out w3 _ D3.out).mono ?_);rintro e w4 ⟨rfl,hd4,hf4⟩;have D4:=Hj hd4;have F4:=Hj hf4;clear hd4 hf4))
    | fail)
   have DN:=DW.behind HD.out.bel.size B2.out (DW.then F3.out ⟨D4.out,F4.out⟩)
   have HFS:=Hj DN
   have R4:=Hj ((HB.out.keep (Keeps.drewN w 0)).MK DN.2 HA.out)
   obtain⟨P,tv,rv,ws,hV,hPS,hU⟩:=DN.1.Aq
   have HV:=Hj hV
   have HU:=Hj hU
   obtain⟨AV,cV,eV,_,_⟩:=hV.recs.form
   subst eV
   have hwn:ws.length≤1000000:=by rw[hV.num];exact MI.out
   have cA:w4.cell? ⟨gl,4,none⟩=some (.slice AV ws.length cV):=hV.cell 4
   clear hV hPS hU DN
   have cE:w4.cell? ⟨gl,5,none⟩=some (.int .i64 (endOf L.recs:Int)):=HFS.out.1.at.2.2.2.1
   have he0:(0:Int)≤(endOf L.recs:Int)∧(endOf L.recs:Int)≤1048576:=by have:=HEN.out;omega
   obtain⟨he0,he1⟩:=he0
   have hq:((endOf L.recs+(20+text.length):Nat):Int)=(endOf L.recs:Int)+(20+(n:Int)):=by have:=MN.out;omega
   have HQ:=Hj hq
   clear hq
   go_region_law (first
    | (refine yF rfl (.tmp 57) (.tmp 60) (by rfl) (HV.out.recs.below B6.out) (by rfl) (Src.one w5 _ A5 text.length k5 1 (fun _ _ h=>h)) (by rfl) hwn ?_;intro v7 w7 aF bg o8;obtain⟨A7,c7,rfl,-,-⟩:=ah.form aF;have hp7:=xB HV.out B6.out bg o8;have m4:w7.cell? ⟨gl,4,none⟩=some (.slice AV ws.length cV):=Kq 4 hp7.1;have m5:w7.cell? ⟨gl,5,none⟩=some (.int .i64 (endOf L.recs:Int)):=Kq 5 hp7.1;have f4:w7.frozen? ⟨gl,4,none⟩=false:=Kj hp7.1;have f5:w7.frozen? ⟨gl,5,none⟩=false:=Kj hp7.1;have X7:=Hj (LZ HV.out B6.out bg o8 aF O6.out);clear hp7 aF bg o8)
    | (go_simp;go_at_call 94;((with_reducible refine(FV.out w4.drew (R4.out.keep (Keeps.drew w4))).mono ?_);rintro e w5 ⟨A5,k5,rfl,vF,hb5⟩;have B5:Hid (Below w4.heap.size w4 w5):=Hj (Below.cu hb5);have ck:=Kz B5.out _ _ cA;have D6:=(Below.refl w5.heap.size w5).alloc Kv (.cells #[.slice A5 text.length k5] 35);have ck2:=Kz D6 _ _ ck;have B6:=Hj (B5.out.trans (D6.mono B5.out.size));have O6:=Hj ((show OB w5 w4.heap.size _ _ from vF).below D6);clear vF hb5 D6)))
   all_goals
    go_wp2
    go_ret
    have Y:=HU.out _ _ X7.out.1 X7.out.2
    rw[HQ.out] at Y
    exact⟨rfl,DW.then HFS.out.2 Y⟩
 ·rw [if_neg he]
  have Xu:Hid (bK ea (MR e1)=.iface 368 (.pointer (some (ea 25)))):=Hj (by unfold MR;rw[if_neg he];rfl)
  have HLD:Hid (L.done e1={L with dead:=true}):=Hj (by unfold LM.done;rw[if_neg he])
  have HDn:Hid (∀W S',DW w0 W S' g m1 gl L→Calls Tryz.prog 138 #[.pointer (some ⟨gl,0,none⟩),bK ea e1] W fun e w'=>e=.returned (.iface 368 (.pointer (some (ea 25))))∧DW w0 w' (ext S' W w') g m1 gl {L with dead:=true}∧Fr S' W w'):=Hj fun W S' hd=>by
   have:=oC e1 hd HE.out
   rw[Xu.out,HLD.out] at this
   exact this
  rw[Xu.out]
  clear Xu HLD he
  generalize bK ea e1=E1 at*
  go_enter Tryz.func100,Tryz.ntmps100
  go_wp2_with (first
   | (go_at_call 137;(with_reducible refine HF.out.mono ?_);rintro e w1 ⟨rfl,rfl⟩)
   | fail)
  have Bd:Hid (Below w.heap.size w w.drew):=Hj (Below.drew (Below.refl _ _))
  go_region_held3 (fun w'=>w'.cell? ⟨gl,1,none⟩=some (.int .i64 (L.gen:Int))∧w'.cell? ⟨gl,4,none⟩=some (.slice AR L.recs.length cR)) (first | exact⟨by assumption,by assumption⟩ | go_keep)
   (first
    | (go_at_call 157;((with_reducible refine(HR.out w.drew Bd.out).mono ?_);rintro e w2 ⟨A2,k2,rfl,hr2,hb2⟩;have B2:Hid (Below w.heap.size w w2):=Hj (Below.cu hb2);obtain⟨x1,x4,x0,x5⟩:=HK.out w2 B2.out;have R2:=Hj hr2;clear hr2 hb2)))
  all_goals
   go_wp2_with (first
    | (go_at_call 158;((with_reducible refine(HWr.out w2 S (HD.out.below B2.out) A2 k2 R2.out).mono ?_);rintro e w3 ⟨rfl,hd3,hf3⟩;have D3:=Hj hd3;have F3:=Hj hf3;clear hd3 hf3))
    | (go_at_call 138;((with_reducible refine(HDn.out w3 _ D3.out).mono ?_);rintro e w4 ⟨rfl,hd4,hf4⟩;have D4:=Hj hd4;have F4:=Hj hf4;clear hd4 hf4))
    | fail)
   go_ret
   exact⟨rfl,DW.behind HD.out.bel.size B2.out (DW.then F3.out ⟨D4.out,F4.out⟩)⟩
theorem FH (A:Option Addr) (n c:Nat) (text:List UInt8) (h:DW w0 w S g m gl L) (hE:EW w0 ea) (hok:m.Ok) (hL:L.Ok) (hb:RB w A n text) (hA:0<n→Off S A) (hnc:n≤c) (hc:c≤maxLen) (hw:m.waits.length≤1000):
  Calls Tryz.prog 100 #[.pointer (some ⟨gl,0,none⟩),.slice A n c] w fun e w'=>e=.returned (bK ea (L.dQ m text))∧DW w0 w' (ext S w w') g (L.iE m text) gl (L.app m text)∧Fr S w w':=by
 unfold LM.dQ LM.iE LM.app
 by_cases hr:L.room m text=0
 ·rw [if_pos hr,if_pos hr,if_pos hr]
  exact EY A n c text h hE hok hL hb hA hnc hc hw hr
 ·rw [if_neg hr,if_neg hr,if_neg hr]
  refine(Ia A n c text h hE hok hb hr).mono ?_
  rintro e w' ⟨rfl,rfl⟩
  exact⟨rfl,h.same⟩
end
end Go.Proofs.YtdhbpajamlfacaaGreatDoor
