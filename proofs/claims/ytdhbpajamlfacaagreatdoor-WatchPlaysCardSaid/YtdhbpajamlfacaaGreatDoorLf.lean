/- The document's log (layer 18) by its lengths: numbers, sums, snapshots, records. -/
import Derived.Test.YtdhbpajamlfacaaGreatDoorRs
import Derived.Test.YtdhbpajamlfacaaGreatDoorWalK
set_option maxHeartbeats 4000000
set_option maxRecDepth 100000
namespace Go.Proofs.YtdhbpajamlfacaaGreatDoor
open Go.RowKit
theorem lX (n:Nat) (w:World) (hn:n<4294967296):
  Cl 181 #[.int .i64 (n:Int)] w fun e w'=>e=.returned (.slice (some ⟨w.heap.size,0,none⟩) 4 4)∧LB w' w.heap.size (.slice (some ⟨w.heap.size,0,none⟩) 4 4) 4∧Bw w w':=by
 have H:=Hj (OB.lit w w.heap.size Kv (dX n) 4 rfl (by simp[dX,maxLen]))
 have e:(ay (dX n)).toArray=#[.int .u8 ((n:Int) / 16777216),.int .u8 ((n:Int) / 65536 % 256),.int .u8 ((n:Int) / 256 % 256),.int .u8 ((n:Int) % 256)]:=by
  simp[ay,dX]
  omega
 rw[e] at H
 have n0:(0:Int)≤(n:Int):=by omega
 have n1:(n:Int)<4294967296:=by omega
 clear e
 go_enter Tryz.func181,Tryz.ntmps181
 go_wp2
 go_ret
 exact⟨rfl,⟨_,rfl,H.out⟩,(aj _ w).alloc Kv _⟩
theorem XF (gen n m:Nat) (A:Option Addr) (c:Nat) (w:World) (hb:LR w (.slice A m c) m) (hg:gen<4294967296) (hn:n<4294967296) (hm:m≤100000000):
  Cl 182 #[.int .i64 (gen:Int),.int .i64 (n:Int),.slice A m c] w fun e w'=>∃A' c',e=.returned (.slice A' 8 c')∧LB w' w.heap.size (.slice A' 8 c') 8∧Bw w w':=by
 have HB:=Hj hb
 have HM:=Hj hm
 have hm1:(m:Int)≤100000000:=by omega
 have H1:=Hj (fun(W:World)=>lX gen W hg)
 have H2:=Hj (fun(W:World)=>lX n W hn)
 clear hb hg hn hm
 go_enter Tryz.func182,Tryz.ntmps182
 go_wp2_with (first
  | (go_at_call 181;(with_reducible refine(H1.out w).mono ?_);rintro e w1 ⟨rfl,ho1,hb1⟩;have O1:=Hj ho1;have B1:=Hj hb1;clear ho1 hb1)
  | (go_at_call 181;(with_reducible refine(H2.out w1).mono ?_);rintro e w2 ⟨rfl,ho2,hb2⟩;have O2:=Hj ho2;have Rk:=Hj (O1.out.below hb2);have B2:=Hj (B1.out.trans (hb2.mono B1.out.size));clear ho2 hb2)
  | (at_builtin;refine lG rfl (.tmp 10) (.tmp 12) rfl 8 B2.out B2.out.size Rk.out rfl O2.out.lr rfl rfl (by decide) ?_;intro A3 c3 w3 ho3 hb3;have O3:=Hj ho3;have B3:=Hj hb3;clear ho3 hb3)
  | (at_builtin;refine lG rfl (.tmp 14) (.tmp 15) rfl (8+m) B3.out B3.out.size O3.out rfl (HB.out.below B3.out) rfl rfl (by have:=HM.out;omega) ?_;intro A4 c4 w4 Pv hb4;obtain⟨_,_,l4,e4,-,-,hr4⟩:=Pv.form;cases e4;have R4:=Hj hr4;have B4:=Hj hb4;clear Pv hb4 hr4)
  | (go_at_call 217;((refine(Rl A4 (8+m) c4 l4 w4 R4.out (by have:=HM.out;omega)).mono ?_);rintro e w5 ⟨mac,Ze,rfl,hb5⟩;have B5:=Hj (B4.out.trans (hb5.mono B4.out.size));obtain⟨cur,hcur⟩:∃cur,cur=(ay mac).toArray:=⟨_,rfl⟩;have HC2:Hid (cur.size=32):=Hj (by rw[hcur];simp[ay,Ze]);have HB2:Hid (cur.all (·.oneCell')=true):=Hj (by {rw[hcur,yg];intro y hy;exact fQ _ y (by simpa using hy)});have mF:=Hj hcur;have HMac:=Hj Ze;rw[←hcur];clear hb5 hcur Ze))
  | (refine wpList_store_row rfl 297 (.tmp 8) (.tmp 17) rfl w5.heap.size cur rfl rfl 297 _ (aA w5 _) (by rw[HC2.out];exact jK) (by rw[HC2.out];rfl) HB2.out ?_;obtain⟨w6,hw6⟩:∃W,W=(w5.alloc (.cells JB 297)).setRow w5.heap.size cur:=⟨_,rfl⟩;change wpList _ _ _ _ _ ((w5.alloc (.cells JB 297)).setRow w5.heap.size cur);rw[←hw6];have Hr6:Hid (w6.heap[w5.heap.size]?=some (.cells cur 297 (0,0))):=Hj (by rw[hw6];exact setRow_heap _ _ _ _ _ _ (aA w5 _));have B65:Hid (Bw w5 w6):=Hj (by rw[hw6];exact below_setRow ((aj _ w5).alloc Kv _) Kv cur);have B6:=Hj (B5.out.trans (B65.out.mono B5.out.size));have R6:Hid (LR w6 (.slice (some ⟨w5.heap.size,0,none⟩) 8 32) 8):=Hj (LR.of (RB.take (Gw (T:=297) (fr:=(0,0)) (by rw[←mF.out];exact Hr6.out) HMac.out) 8 (by decide)));clear hw6)
  | (at_builtin;refine lG (w0:=w6) rfl (.tmp 18) (.tmp 19) rfl 8 ((aj _ w6).alloc Kv _) (by simp) (LB.empty w6 Kv) rfl (R6.out.below ((aj _ w6).alloc Kv _)) rfl rfl (by decide) ?_;intro A7 c7 w7 Xx hb7;have O7:=Hj (Xx.mono B6.out.size);have B7:=Hj (B6.out.trans (hb7.mono B6.out.size));clear Xx hb7)
  | fail)
 go_ret
 exact⟨A7,c7,rfl,O7.out,B7.out⟩
theorem YU (gen m:Nat) (A:Option Addr) (c:Nat) (w:World) (hb:LR w (.slice A m c) m) (hg:gen<4294967296) (hm:m≤100000000):
  Cl 142 #[.int .i64 (gen:Int),.slice A m c] w fun e w'=>∃A' c',e=.returned (.slice A' (16+m) c')∧LB w' w.heap.size (.slice A' (16+m) c') (16+m)∧Bw w w':=by
 have HB:=Hj hb
 have HM:=Hj hm
 have H1:=Hj (fun(W:World)=>lX gen W hg)
 have H2:=Hj (fun(W:World)=>lX m W (by omega))
 have H3:=Hj (fun(W:World) h=>XF gen m m A c W h hg (by omega) hm)
 have hm1:(m:Int)≤100000000:=by omega
 clear hb hg hm
 go_enter Tryz.func142,Tryz.ntmps142
 go_wp2_with (first
  | (go_at_call 181;(with_reducible refine(H1.out w).mono ?_);rintro e w1 ⟨rfl,ho1,hb1⟩;have O1:=Hj ho1;have B1:=Hj hb1;clear ho1 hb1)
  | (go_at_call 181;(with_reducible refine(H2.out w1).mono ?_);rintro e w2 ⟨rfl,ho2,hb2⟩;have O2:=Hj ho2;have Rk:=Hj (O1.out.below hb2);have B2:=Hj (B1.out.trans (hb2.mono B1.out.size));clear ho2 hb2)
  | (at_builtin;refine lG rfl (.tmp 7) (.tmp 10) rfl 8 B2.out B2.out.size Rk.out rfl O2.out.lr rfl rfl (by decide) ?_;intro A3 c3 w3 ho3 hb3;have O3:=Hj ho3;have B3:=Hj hb3;clear ho3 hb3)
  | (go_at_call 182;((refine(H3.out w3 (HB.out.below B3.out)).mono ?_);rintro e w4 ⟨A4,c4,rfl,Pv,hb4⟩;have O4:=Hj Pv;have O34:=Hj (O3.out.below hb4);have B4:=Hj (B3.out.trans (hb4.mono B3.out.size));clear Pv hb4))
  | (at_builtin;refine lG rfl (.tmp 12) (.tmp 17) rfl 16 B4.out B4.out.size O34.out rfl O4.out.lr rfl rfl (by decide) ?_;intro A5 c5 w5 sZ hb5;have O5:=Hj sZ;have B5:=Hj hb5;clear sZ hb5)
  | (at_builtin;refine lG rfl (.tmp 19) (.tmp 20) rfl (16+m) B5.out B5.out.size O5.out rfl (HB.out.below B5.out) rfl rfl (by have:=HM.out;omega) ?_;intro A6 c6 w6 pW hb6;have O6:=Hj pW;have B6:=Hj hb6;clear pW hb6)
  | fail)
 go_ret
 exact⟨A6,c6,rfl,O6.out,B6.out⟩
theorem QK (gen n m:Nat) (A:Option Addr) (c:Nat) (w:World) (hb:LR w (.slice A m c) m) (hg:gen<4294967296) (hn:n<4294967296) (hm:m≤100000000):
  Cl 120 #[.int .i64 (gen:Int),.int .i64 (n:Int),.slice A m c] w fun e w'=>∃A' c',e=.returned (.slice A' (20+m) c')∧LB w' w.heap.size (.slice A' (20+m) c') (20+m)∧Bw w w':=by
 have HB:=Hj hb
 have HM:=Hj hm
 have H1:=Hj (fun(W:World)=>lX gen W hg)
 have H2:=Hj (fun(W:World)=>lX n W hn)
 have H2':=Hj (fun(W:World)=>lX m W (by omega))
 have H3:=Hj (fun(W:World) h=>XF gen n m A c W h hg hn hm)
 have hm1:(m:Int)≤100000000:=by omega
 clear hb hg hm hn
 go_enter Tryz.func120,Tryz.ntmps120
 go_wp2_with (first
  | (go_at_call 181;(with_reducible refine(H1.out w).mono ?_);rintro e w1 ⟨rfl,ho1,hb1⟩;have O1:=Hj ho1;have B1:=Hj hb1;clear ho1 hb1)
  | (go_at_call 181;(with_reducible refine(H2.out w1).mono ?_);rintro e w2 ⟨rfl,ho2,hb2⟩;have O2:=Hj ho2;have Rk:=Hj (O1.out.below hb2);have B2:=Hj (B1.out.trans (hb2.mono B1.out.size));clear ho2 hb2)
  | (at_builtin;refine lG rfl (.tmp 9) (.tmp 11) rfl 8 B2.out B2.out.size Rk.out rfl O2.out.lr rfl rfl (by decide) ?_;intro A3 c3 w3 ho3 hb3;have O3:=Hj ho3;have B3:=Hj hb3;clear ho3 hb3)
  | (go_at_call 181;(with_reducible refine(H2'.out w3).mono ?_);rintro e w4 ⟨rfl,Pv,hb4⟩;have O4:=Hj Pv;have O34:=Hj (O3.out.below hb4);have B4:=Hj (B3.out.trans (hb4.mono B3.out.size));clear Pv hb4)
  | (at_builtin;refine lG rfl (.tmp 13) (.tmp 16) rfl 12 B4.out B4.out.size O34.out rfl O4.out.lr rfl rfl (by decide) ?_;intro A5 c5 w5 sZ hb5;have O5:=Hj sZ;have B5:=Hj hb5;clear sZ hb5)
  | (go_at_call 182;((refine(H3.out w5 (HB.out.below B5.out)).mono ?_);rintro e w6 ⟨A6,c6,rfl,pW,hb6⟩;have O6:=Hj pW;have O56:=Hj (O5.out.below hb6);have B6:=Hj (B5.out.trans (hb6.mono B5.out.size));clear pW hb6))
  | (at_builtin;refine lG rfl (.tmp 18) (.tmp 22) rfl 20 B6.out B6.out.size O56.out rfl O6.out.lr rfl rfl (by decide) ?_;intro A7 c7 w7 Xx hb7;have O7:=Hj Xx;have B7:=Hj hb7;clear Xx hb7)
  | (at_builtin;refine lG rfl (.tmp 24) (.tmp 25) rfl (20+m) B7.out B7.out.size O7.out rfl (HB.out.below B7.out) rfl rfl (by have:=HM.out;omega) ?_;intro A8 c8 w8 xJ hb8;have O8:=Hj xJ;have B8:=Hj hb8;clear xJ hb8)
  | fail)
 go_ret
 exact⟨A8,c8,rfl,O8.out,B8.out⟩
/-- The disk's state: its room, the areas' lengths, what waits. -/
structure DT where
 room:Int
 s:Nat→Nat
 wt:Option (Nat×Nat×Bool)
def ER (w:World) (O:Nat→Prop) (g:Nat) (T:DT):Prop:=match T.wt with
 | none=>LD w O g T.room T.s
 | some (i,n,cuts)=>Ur w O g T.room T.s i n cuts
def sD (g:Nat) (G:LM) (tv rv:Value):Array Value:=#[pt g,.int .i64 (G.gen:Int),.int .i64 (G.slot:Int),tv,rv,.bool false]
/-- Block gl is a log of the disk g; P: the blocks that are its own. -/
structure iV (w:World) (P:Nat→Prop) (gl g:Nat) (G:LM) (tv rv:Value) (ws:List (Nat×Value)):Prop where
 cells:w.heap[gl]?=some (.cells (sD g G tv rv) 140 (0,0))
 text:∃n,LS w P tv n
 recs:ah w 0 35 1 rv ws.length (ws.map fun x=>x.2)
 eq:ws.map (fun x=>x.1)=G.ns
 each:∀x∈ws,LS w P x.2 x.1
 jv:P gl
 AL:∀k,rv.ownBlock=some k→P k
def DN (w:World) (P:Nat→Prop) (gl g:Nat) (G:LM):Prop:=∃tv rv ws,iV w P gl g G tv rv ws
section
variable {w w' w0:World} {O P S S':Nat→Prop} {gl g:Nat} {T T':DT} {G G':LM} {tv rv:Value} {ws:List (Nat×Value)}
theorem ER.mono (h:ER w O g T) (ho:∀q,q<w.heap.size→O q→S q):ER w S g T:=by
 unfold ER at h ⊢
 split at h
 ·exact h.mono ho
 ·exact h.mono ho
theorem ER.fr (h:ER w O g T) (hf:Fr S w w') (hn:∀q,O q→¬S q):ER w' O g T:=by
 unfold ER at h ⊢
 split at h
 ·exact h.fr hf hn
 ·obtain ⟨A,k,wv,v,p,h0,h1,h2,h3,h4⟩:=h
  exact⟨A,k,wv,v,p,h0,h1.fr hf hn,ah.kept h2 hf fun q hq=>hn q (h4 q hq),h3.fr hf hn,h4⟩
theorem ER.own (h:ER w O g T):O g:=by
 unfold ER at h
 split at h
 ·obtain ⟨A,k,h⟩:=h;exact h.own
 ·obtain ⟨A,k,wv,v,p,h0,h1,h2,h3,h4⟩:=h;exact h1.own
theorem iV.lt (h:iV w P gl g G tv rv ws):gl<w.heap.size:=(Cq h.cells)
theorem iV.cell (h:iV w P gl g G tv rv ws) (k:Nat):w.cell? ⟨gl,k,none⟩=(sD g G tv rv)[k]?:=bT _ _ _ _ _ _ h.cells
theorem iV.num (h:iV w P gl g G tv rv ws):ws.length=G.ns.length:=by have:=bJ List.length h.eq;simpa using this
theorem iV.mono (h:iV w P gl g G tv rv ws) (hp:∀k,k<w.heap.size→P k→S k):iV w S gl g G tv rv ws:=
 ⟨h.cells,let ⟨n,e⟩:=h.text;⟨n,e.mono hp⟩,h.recs,h.eq,fun x hx=>(h.each x hx).mono hp,hp _ h.lt h.jv,fun k hk=>hp _ (ah.lt h.recs k hk).2 (h.AL k hk)⟩
theorem iV.fr (h:iV w P gl g G tv rv ws) (hf:Fr S w w') (hn:∀k,P k→¬S k):iV w' P gl g G tv rv ws:=
 ⟨(hf.block _ h.lt (hn _ h.jv)).trans h.cells,let ⟨n,e⟩:=h.text;⟨n,e.fr hf hn⟩,ah.kept h.recs hf fun k hk=>hn k (h.AL k hk),h.eq,fun x hx=>(h.each x hx).fr hf hn,h.jv,h.AL⟩
/-- A disk and a log of it above a world that stands; S: the blocks that are theirs. -/
structure KW (w0 w:World) (S:Nat→Prop) (g:Nat) (T:DT) (gl:Nat) (G:LM):Prop where
 dl:∃O P,ER w O g T∧DN w P gl g G∧(∀k,O k→S k)∧(∀k,P k→S k)∧(∀k,O k→¬P k)
 up:∀k,S k→w0.heap.size≤k
 hi:∀k,S k→k<w.heap.size
 bel:Below w0.heap.size w0 w
/-- What the disk does. -/
theorem KW.yQ (h:KW w0 w S g T gl G):∃O,ER w O g T∧∀w' T',ER w' (ext O w w') g T'→Fr (fun q=>q=g) w w'→KW w0 w' (ext S w w') g T' gl G∧Fr S w w':=by
 obtain⟨⟨O,P,h1,⟨tv,rv,ws,h2⟩,h3,h4,h5⟩,hu,hh,hb⟩:=h
 refine⟨O,h1,fun w' T' k1 k2=> ?_⟩
 have k2:Fr O w w':=k2.mono fun q _ e=>by subst e;exact h1.own
 have hsz:=k2.size
 have hF:Fr S w w':=k2.mono fun k _ hk=>h3 k hk
 refine⟨⟨⟨ext O w w',P,k1,⟨tv,rv,ws,h2.fr k2 fun k hp ho=>h5 k ho hp⟩,fun k hk=>hk.imp (h3 k) id,fun k hk=>.inl (h4 k hk),fun k hk hp=> ?_⟩,mV hu hb.size,qy hh hsz,hb.trans (hF.below hb.size fun k _ hk=>hu k hk)⟩,hF⟩
 rcases hk with hk | hk
 ·exact h5 k hk hp
 ·have:=hh k (h4 k hp);omega
/-- What the log does. -/
theorem KW.yR (h:KW w0 w S g T gl G):∃P tv rv ws,iV w P gl g G tv rv ws∧∀w' G',DN w' (ext P w w') gl g G'→Fr P w w'→KW w0 w' (ext S w w') g T gl G'∧Fr S w w':=by
 obtain⟨⟨O,P,h1,⟨tv,rv,ws,h2⟩,h3,h4,h5⟩,hu,hh,hb⟩:=h
 refine⟨P,tv,rv,ws,h2,fun w' G' k1 k2=> ?_⟩
 have hsz:=k2.size
 have hF:Fr S w w':=k2.mono fun k _ hk=>h4 k hk
 refine⟨⟨⟨O,ext P w w',h1.fr k2 h5,k1,fun k hk=>.inl (h3 k hk),fun k hk=>hk.imp (h4 k) id,fun k hk hp=> ?_⟩,mV hu hb.size,qy hh hsz,hb.trans (hF.below hb.size fun k _ hk=>hu k hk)⟩,hF⟩
 rcases hp with hp | hp
 ·exact h5 k hk hp
 ·have:=hh k (h3 k hk);omega
theorem KW.mono (h:KW w0 w S g T gl G) (hs:∀k,S k→S' k) (hu:∀k,S' k→w0.heap.size≤k∧k<w.heap.size):KW w0 w S' g T gl G:=
 let ⟨⟨O,P,h1,h2,h3,h4,h5⟩,_,_,hb⟩:=h;⟨⟨O,P,h1,h2,fun k hk=>hs k (h3 k hk),fun k hk=>hs k (h4 k hk),h5⟩,fun k hk=>(hu k hk).1,fun k hk=>(hu k hk).2,hb⟩
theorem KW.then {w'':World} {T'':DT} {G'':LM} (h1:Fr S w w') (h2:KW w0 w'' (ext (ext S w w') w' w'') g T'' gl G''∧Fr (ext S w w') w' w''):KW w0 w'' (ext S w w'') g T'' gl G''∧Fr S w w'':=
 have hx:∀k,ext S w w'' k→ext (ext S w w') w' w'' k:=fun k hk=>hk.elim (fun h=>.inl (.inl h)) fun hk=>(Nat.lt_or_ge k w'.heap.size).elim (fun h=>.inl (.inr ⟨hk.1,h⟩)) fun h=>.inr ⟨h,hk.2⟩
 ⟨h2.1.mono (fun _ hk=>iE h1.size h2.2.size hk) fun k hk=>⟨h2.1.up k (hx k hk),h2.1.hi k (hx k hk)⟩,h1.ext h2.2⟩
/-- What turns nothing of theirs. -/
theorem KW.fr (h:KW w0 w S g T gl G) (hf:Fr S' w w') (hn:∀k,S k→¬S' k) (ht:∀k,S' k→w0.heap.size≤k):KW w0 w' S g T gl G:=by
 obtain⟨⟨O,P,h1,⟨tv,rv,ws,h2⟩,h3,h4,h5⟩,hu,hh,hb⟩:=h
 exact⟨⟨O,P,h1.fr hf fun q hq=>hn q (h3 q hq),⟨tv,rv,ws,h2.fr hf fun q hq=>hn q (h4 q hq)⟩,h3,h4,h5⟩,hu,fun q hq=>dP (hh q hq) hf.size,hb.trans (hf.below hb.size fun q _ hq=>ht q hq)⟩
theorem KW.below (h:KW w0 w S g T gl G) (hb:Below w.heap.size w w'):KW w0 w' S g T gl G:=h.fr (S':=fun _=>False) (Fr.of_below hb) (fun _ _ x=>x) fun _ x=>x.elim
theorem KW.made (h:KW w0 w S g T gl G) (hb:Below w.heap.size w w'):KW w0 w' (ext S w w') g T gl G∧Fr S w w':=
 ⟨(h.below hb).mono (fun _ hk=>.inl hk) fun k hk=>⟨mV h.up h.bel.size k hk,qy h.hi hb.size k hk⟩,Fr.of_below hb⟩
theorem KW.behind {w1 w2:World} {T':DT} {G':LM} (h0:KW w0 w S g T gl G) (hb:Below w.heap.size w w1) (h:KW w0 w2 (ext S w1 w2) g T' gl G'∧Fr S w1 w2):KW w0 w2 (ext S w w2) g T' gl G'∧Fr S w w2:=
 have hF:Fr S w w2:=(Fr.of_below (S:=S) hb).trans h.2 fun _ _ hk=>hk
 ⟨h.1.mono (fun _ hk=>hk.imp id fun hk=>⟨Cz hb.size hk.1,hk.2⟩) fun k hk=>⟨mV h0.up h0.bel.size k hk,qy h0.hi hF.size k hk⟩,hF⟩
theorem KW.kept (h:KW w0 w S g T gl G) (hf:Fr (fun q=>q=g) w w') (k:Nat):w'.cell? ⟨gl,k,none⟩=w.cell? ⟨gl,k,none⟩:=by
 obtain⟨⟨O,P,h1,⟨tv,rv,ws,h2⟩,h3,h4,h5⟩,hu,hh,hb⟩:=h
 exact(bT _ _ _ _ _ _ ((hf.block _ h2.lt fun e=>h5 _ h1.own (by rw[←e];exact h2.jv)).trans h2.cells)).trans (h2.cell k).symm
theorem KW.fz (h:KW w0 w S g T gl G) (k:Nat):w.frozen? ⟨gl,k,none⟩=false:=let ⟨_,_,_,_,h2,_⟩:=h.yR;Kj h2.cells
theorem KW.at (h:KW w0 w S g T gl G):w.cell? ⟨gl,0,none⟩=some (pt g)∧w.cell? ⟨gl,1,none⟩=some (.int .i64 (G.gen:Int))∧w.cell? ⟨gl,2,none⟩=some (.int .i64 (G.slot:Int))∧w.cell? ⟨gl,5,none⟩=some (.bool false):=by
 obtain⟨P,tv,rv,ws,h2,_⟩:=h.yR
 exact⟨h2.cell 0,h2.cell 1,h2.cell 2,h2.cell 5⟩
section
variable {room:Int} {s:Nat→Nat}
theorem DR (h:KW w0 w S g ⟨room,s,none⟩ gl G):Cl 140 #[pt g] w fun e w'=>e=.returned (.int .i64 (room-s 0-s 1-s 2))∧Below w.heap.size w w':=by
 obtain⟨O,h1,_⟩:=h.yQ
 exact QG h1
theorem QJ (h:KW w0 w S g ⟨room,s,none⟩ gl G):Cl 115 #[pt g] w fun e w'=>∃(B0 B1 B2:Option Addr) (d0 d1 d2:Nat),e=.returned (.agg #[.slice B0 (s 0) d0,.slice B1 (s 1) d1,.slice B2 (s 2) d2])∧Below w.heap.size w w':=by
 obtain⟨O,⟨A,k,h1⟩,_⟩:=h.yQ
 exact(yP h1).mono fun e w' ⟨h1,h2⟩=>⟨_,_,_,_,_,_,h1,h2⟩
theorem LG (i:Nat) (hi:i<3) (at_:Int) (n kb:Nat) (B:Option Addr) (h:KW w0 w S g ⟨room,s,none⟩ gl G) (hat:at_=(s i:Int)) (hb:LR w (.slice B n kb) n) (h0:0<n) (hn:(n:Int)≤room-s 0-s 1-s 2):
  Cl 141 #[pt g,.int .i64 (i:Int),.int .i64 at_,.slice B n kb] w fun e w'=>e=.returned (.int .i64 0)∧KW w0 w' (ext S w w') g ⟨room,s,some (i,n,false)⟩ gl G∧Fr S w w'∧∀k,w'.cell? ⟨gl,k,none⟩=w.cell? ⟨gl,k,none⟩:=by
 obtain⟨O,h1,hu⟩:=h.yQ
 obtain⟨_,_,bs,e,hb⟩:=hb
 cases e
 refine(U7 i hi at_ B n kb bs h1 hat hb h0 hn).mono ?_
 rintro e w' ⟨rfl,hd,hf⟩
 obtain⟨k1,k2⟩:=hu _ ⟨room,s,some (i,n,false)⟩ hd hf
 exact⟨rfl,k1,k2,h.kept hf⟩
theorem Xu (i:Nat) (hi:i<3) (h:KW w0 w S g ⟨room,s,none⟩ gl G):
  Cl 121 #[pt g,.int .i64 (i:Int),.int .i64 0] w fun e w'=>e=.returned (.int .i64 0)∧KW w0 w' (ext S w w') g ⟨room,s,some (i,0,true)⟩ gl G∧Fr S w w':=by
 obtain⟨O,h1,hu⟩:=h.yQ
 refine(Cut_L i hi h1).mono ?_
 rintro e w' ⟨rfl,hd,hf⟩
 exact⟨rfl,hu _ ⟨room,s,some (i,0,true)⟩ hd hf⟩
theorem DU (i n:Nat) (cuts:Bool) (hi:i<3) (h:KW w0 w S g ⟨room,s,some (i,n,cuts)⟩ gl G) (hn:cuts=true∨(n:Int)≤room-s 0-s 1-s 2):
  Cl 122 #[pt g] w fun e w'=>e=.returned (.int .i64 0)∧KW w0 w' (ext S w w') g ⟨room,upd s i (if cuts=true then 0 else s i+n),none⟩ gl G∧Fr S w w':=by
 obtain⟨O,h1,hu⟩:=h.yQ
 refine(YT i n cuts hi h1 hn).mono ?_
 rintro e w' ⟨rfl,hd,hf⟩
 exact⟨rfl,hu _ ⟨room,_,none⟩ hd hf⟩
end
/-- Where the first j records end. -/
theorem Nu (ls:List Nat) (j:Nat) (h:j<ls.length):dW (ls.take (j+1))=dW (ls.take j)+(20+ls.getD j 0):=by
 rw[mO h,vw]
 simp[List.getD_eq_getElem?_getD,h]
theorem U8 (ls:List Nat) (j:Nat):dW (ls.take j)≤dW ls:=by
 have h:=bJ dW (rE j ls)
 have e:∀a b:List Nat,dW (a++b)=dW a+dW b:=fun a b=>by simp[dW]
 rw[e] at h
 omega
theorem Xv (h:KW w0 w S g T gl G) (hL:dW G.ns≤1048576):Cl 117 #[pt gl] w fun e w'=>e=.returned (.int .i64 (dW G.ns:Int))∧w=w':=by
 obtain⟨P,tv,rv,ws,h,-⟩:=h.yR
 obtain⟨AR,cR,e4,h1,h2⟩:=h.recs.form
 have hn:=h.num
 have c4:w.cell? ⟨gl,4,none⟩=some (.slice AR ws.length cR):=by rw[←e4];exact h.cell 4
 have hmax:ws.length≤1000000:=by have:=DV G.ns;omega
 have HC:Hid (0<ws.length→∃b o,AR=some ⟨b,o,none⟩∧∀j,j<ws.length→∃A c,w.cell? ⟨b,o+j,none⟩=some (.slice A (G.ns.getD j 0) c)):=Hj fun h0=>by
  have hr:=h.recs
  rw[e4] at hr
  obtain⟨b,o,_,e,_,_,hc⟩:=hr.cells (by rw[aX];exact h0)
  injection e with e _ _
  refine⟨b,o,e,fun j hj=> ?_⟩
  obtain⟨A,c,_,e,-,-,-,-⟩:=(h.each ws[j] (List.getElem_mem _)).form
  refine⟨A,c,?_⟩
  rw[hc j ws[j].2 (by simp[hj]),e,←h.eq]
  simp[hj]
 have HE:=Hj (Nu G.ns)
 have Us:=Hj (U8 G.ns)
 have HF:Hid (dW G.ns=dW (G.ns.take ws.length)):=Hj (by rw[hn,List.take_length])
 have HM:=Hj hL
 have HN:=Hj hn
 clear h e4 hL h1 h2
 obtain⟨ej,hej⟩:∃ej:Nat→Nat,ej=fun j=>dW (G.ns.take j):=⟨_,rfl⟩
 have H0:Hid (ej 0=0):=Hj (by rw[hej];rfl)
 replace HE:Hid (∀j,j<G.ns.length→ej (j+1)=ej j+(20+G.ns.getD j 0)):=Hj (by rw[hej];exact HE.out)
 replace Us:Hid (∀j,ej j≤dW G.ns):=Hj (by rw[hej];exact Us.out)
 replace HF:Hid (dW G.ns=ej ws.length):=Hj (by rw[hej];exact HF.out)
 clear hej
 generalize dW G.ns=E at*
 generalize G.ns=ls at*
 generalize ws.length=n at*
 clear hn
 go_enter Tryz.func117,Tryz.ntmps117
 go_wp2
 go_loopg [3,11] n (fun gk s3 s11 wr=>∃j:Nat,j+gk=n∧s11=.int .i64 (j:Int)∧s3=.int .i64 (ej j:Int)∧wr=w)
 case atStart=>exact⟨0,by omega,rfl,by rw[H0.out];rfl,rfl⟩
 case round=>
  obtain⟨j,hj,rfl,rfl,rfl⟩:=hrel
  have HJ:=Hj hj
  by_cases hlt:j<n
  ·obtain ⟨b,o,rfl,hb⟩:=HC.out (by omega)
   obtain⟨A',c',c1⟩:=hb j hlt
   have hE:=HE.out j (by have:=HN.out;omega)
   have hle:=Us.out (j+1)
   have hm:=HM.out
   generalize ls.getD j 0=t at*
   have k0:(0:Int)≤(j:Int):=by omega
   have k1:(j:Int)<(n:Int):=by omega
   have k2:(0:Int)≤(ej j:Int):=by omega
   have k3:(ej j:Int)+(20+(t:Int))≤1048576:=by omega
   have HE2:=Hj hE
   have IX:=Hj hlt
   clear hb hE hle hm hj hlt
   go_wp2
   go_roundg (gk-1)
   case measure=>have:=HJ.out;have:=IX.out;omega
   case rel=>
    refine⟨j+1,by have:=HJ.out;have:=IX.out;omega,by go_num,?_,rfl⟩
    rw[HE2.out];go_num
  ·obtain rfl:j=n:=by omega
   have k1:decide ((j:Int)<(j:Int))=false:=aQ (by omega)
   clear hj hlt
   go_wp2
   go_ret
   refine⟨?_,rfl⟩
   show Ending.returned (.int .i64 (ej j:Int))=_
   rw[HF.out]
/-- One record more. -/
theorem iV.push {w7:World} {n:Nat} {xv rv':Value} (h:iV w P gl g G tv rv ws) (hb:Below w.heap.size w w7) (hv:ah w7 w.heap.size 35 1 rv' (ws.length+1) (ws.map (fun x=>x.2)++[xv])) (hx:LB w7 w.heap.size xv n):
  DN (w7.setCell ⟨gl,4,none⟩ rv') (ext P w (w7.setCell ⟨gl,4,none⟩ rv')) gl g ⟨G.gen,G.slot,G.ns++[n]⟩∧Fr P w (w7.setCell ⟨gl,4,none⟩ rv'):=by
 have hrow:=(hb.block _ h.lt).trans h.cells
 have hF:=(Fr.refl (fun q=>q=gl) w7).setCell (p:=⟨gl,4,none⟩) (fun _=>rfl) rv'
 have hc:=aI _ gl 4 _ _ rv' hrow
 have hsz:=hF.size
 have up:∀q,q<w7.heap.size→P q→ext P w (w7.setCell ⟨gl,4,none⟩ rv') q:=fun q _ hq=>.inl hq
 refine⟨⟨tv,rv',ws++[(n,xv)],hc,?_,?_,?_,fun y hy=> ?_,.inl h.jv,fun k hk=> ?_⟩,(Fr.of_below (S:=P) hb).trans (hF.mono fun q _ e=>by subst e;exact h.jv) fun _ _ h=>h⟩
 ·obtain ⟨m,e⟩:=h.text
  exact⟨m,(((e.below hb).mono up).stay hrow (by decide) hF)⟩
 ·rw [bP,dI]
  exact(ah.kept hv hF fun k hk e=>by subst e;obtain⟨cur,hcur⟩:=au hv hk;exact absurd (ak hcur hrow) (by decide)).mono fun _ _=>bU _
 ·rw [dI,h.eq];rfl
 ·rcases iO.1 hy with hy | hy
  ·exact (((h.each y hy).below hb).mono up).stay hrow (by decide) hF
  ·rw [iq.1 hy]
   exact(hx.ls.mono fun q hq h=>.inr ⟨h.1,by omega⟩).stay hrow (by decide) hF
 ·have:=ah.lt hv k hk
  exact .inr ⟨this.1,by omega⟩
theorem DY (A:Option Addr) (n c:Nat) {room:Int} {s:Nat→Nat} (h:KW w0 w S g ⟨room,s,none⟩ gl G) (hn:n≤16384) (hroom:room-s 0-s 1-s 2<20+(n:Int)):
  Cl 133 #[pt gl,.slice A n c] w fun e w'=>e=.returned (.int .i64 26)∧Below w.heap.size w w':=by
 obtain⟨c0,c1,-,c5⟩:=h.at
 have HF:=Hj (DR h)
 have q1':decide (16384<(n:Int))=false:=aQ (by omega)
 have q1n:decide (16384<n)=false:=aQ (by omega)
 have q2:decide (room-s 0-s 1-s 2<20+(n:Int))=true:=aZ hroom
 have n0:(n:Int)≤16384:=by omega
 clear hroom h hn
 generalize room-s 0-s 1-s 2=F at*
 go_enter Tryz.func133,Tryz.ntmps133
 go_wp2_with (first
  | (go_at_call 140;(refine HF.out.mono ?_);rintro e w1 ⟨rfl,hb⟩;have B:=Hj hb;clear hb)
  | fail)
 go_ret
 exact⟨rfl,B.out⟩
theorem DZ (A:Option Addr) (n c:Nat) {room:Int} {s:Nat→Nat} (h:KW w0 w S g ⟨room,s,none⟩ gl G) (hr1:room≤100000) (he:s 2=dW G.ns) (hg:G.gen≤2147483647) (hb:LR w (.slice A n c) n) (hA:0<n→Off S A) (hn:n≤16384) (hroom:¬room-s 0-s 1-s 2<20+(n:Int)):
  Cl 133 #[pt gl,.slice A n c] w fun e w'=>e=.returned (.int .i64 0)∧KW w0 w' (ext S w w') g ⟨room,upd s 2 (s 2+(20+n)),none⟩ gl ⟨G.gen,G.slot,G.ns++[n]⟩∧Fr S w w':=by
 have c0:=h.at.1
 have c1:=h.at.2.1
 have c5:=h.at.2.2.2
 have HF:=Hj (DR h)
 have q1':decide (16384<(n:Int))=false:=aQ (by omega)
 have q1n:decide (16384<n)=false:=aQ (by omega)
 have q2':decide (room-s 0-s 1-s 2<20+(n:Int))=false:=aQ hroom
 have n0:(n:Int)≤16384:=by omega
 have hE1:dW G.ns≤1048576:=by omega
 have hLN:G.ns.length≤1000000:=by have:=DV G.ns;omega
 obtain⟨P0,tv0,rv0,ws0,hV0,-⟩:=h.yR
 obtain⟨AR,cR,e4,_,_⟩:=hV0.recs.form
 have c4:w.cell? ⟨gl,4,none⟩=some (.slice AR G.ns.length cR):=by rw[←hV0.num,←e4];exact hV0.cell 4
 have HK:Hid (∀W,Below w.heap.size w W→W.cell? ⟨gl,1,none⟩=some (.int .i64 (G.gen:Int))∧W.cell? ⟨gl,4,none⟩=some (.slice AR G.ns.length cR)∧W.cell? ⟨gl,0,none⟩=some (pt g)):=Hj fun W hW=>
  ⟨Kz hW _ _ c1,Kz hW _ _ c4,Kz hW _ _ c0⟩
 have HR:Hid (∀W,Below w.heap.size w W→_):=Hj fun W hW=>QK G.gen G.ns.length n A c W (hb.below hW) (by omega) (by omega) (by omega)
 have HEn:Hid (∀W,Below w.heap.size w W→_):=Hj fun W hW=>Xv (h.below hW) hE1
 have HD:=Hj h
 have HWr:=Hj fun W (hW:Below w.heap.size w W) A' cap hr=>LG 2 (by decide) (dW G.ns:Int) (20+n) cap A' (h.below hW) (by show _=((s 2:Nat):Int);rw[he]) hr (by omega) (by omega)
 have HSy:=Hj fun W S' hW=>DU (w:=W) (w0:=w0) (S:=S') (g:=g) (gl:=gl) (G:=G) (room:=room) (s:=s) 2 (20+n) false (by decide) hW (.inr (by omega))
 rw[show (((2:Nat)):Int)=2 from rfl] at HWr
 rw[aG (by decide)] at HSy
 have HB:=Hj hb
 have HA:=Hj hA
 have HN:=Hj hn
 have Pj:=Hj hLN
 clear h hb hA hV0 e4 hE1 hLN he hg hr1 hroom hn
 generalize room-s 0-s 1-s 2=F at*
 generalize dW G.ns=E at*
 go_enter Tryz.func133,Tryz.ntmps133
 go_wp2_with (first
  | (go_at_call 140;(refine HF.out.mono ?_);rintro e w1 ⟨rfl,hb⟩;have BF:=Hj hb;obtain⟨g1,g4,g0⟩:=HK.out w1 BF.out;have BD:Hid (Below w.heap.size w w1.drew):=Hj (bV BF.out);clear hb)
  | fail)
 go_region_held3 (fun w'=>w'.cell? ⟨gl,1,none⟩=some (.int .i64 (G.gen:Int))∧w'.cell? ⟨gl,4,none⟩=some (.slice AR G.ns.length cR)∧w'.cell? ⟨gl,0,none⟩=some (pt g)) (first | exact⟨by assumption,by assumption,by assumption⟩ | go_keep)
  (first
   | (go_at_call 117;((refine(HEn.out w1.drew BD.out).mono ?_);rintro e w2 ⟨rfl,rfl⟩))
   | (go_at_call 120;((refine(HR.out w1.drew BD.out).mono ?_);rintro e w2 ⟨A2,k2,rfl,ho2,hb2⟩;have B2:Hid (Below w.heap.size w w2):=Hj (BD.out.trans (hb2.mono BD.out.size));obtain⟨x1,x4,x0⟩:=HK.out w2 B2.out;have R2:=Hj ho2.lr;clear ho2 hb2))
   | (go_at_call 141;((refine(HWr.out w2 B2.out A2 k2 R2.out).mono ?_);rintro e w3 ⟨rfl,hd3,hf3,hg3⟩;have y4:=(hg3 4).trans x4;have D3:=Hj (KW.behind HD.out B2.out ⟨hd3,hf3⟩);obtain⟨y0,y1,-,y5⟩:=hd3.at;have z5:=hd3.fz 5;clear hd3 hf3 hg3))
   | fail)
 all_goals
  go_wp2_with (first
   | (go_at_call 122;((refine(HSy.out w3 _ D3.out.1).mono ?_);rintro e w4 ⟨rfl,hd4,hf4⟩;have FS4:=KW.then D3.out.2 ⟨hd4,hf4⟩;have HFS:=Hj FS4;have R4:=Hj (HB.out.Pn FS4.2 HA.out);obtain⟨P,tv,rv,ws,hV,hU⟩:=FS4.1.yR;have HV:=Hj hV;have HU:=Hj hU;obtain⟨AV,cV,eV,-,-⟩:=hV.recs.form;subst eV;have hwn:ws.length≤1000000:=(by rw[hV.num];exact Pj.out);have cA:w4.cell? ⟨gl,4,none⟩=some (.slice AV ws.length cV):=hV.cell 4;have cAo:∀o,(w4.alloc o).cell? ⟨gl,4,none⟩=some (.slice AV ws.length cV):=(fun o=>Kz ((aj w4.heap.size w4).alloc Kv o) _ _ cA);have HSrc:=Hj (fun o=>yS (hV.recs.below ((aj w4.heap.size w4).alloc Kv o)) fun x hx=>by obtain⟨y,hy,rfl⟩:=bW.1 hx;obtain⟨A',c',_,e,_⟩:=(hV.each y hy).form;exact⟨_,_,_,e⟩);clear hV hU FS4 hd4 hf4))
   | (at_builtin;(refine nT rfl (.tmp 53) (.tmp 57) (by rfl) (Jo (bZ w4.heap.size)) (by rfl) (HSrc.out _) (by rfl) (by omega) (by simp) ?_;intro v5 w5 hown5 hgr5;rw[dV,fP] at hown5;obtain⟨A5,c5',e5,-,-⟩:=ah.form hown5;subst e5;have O5:=Hj hown5;have B5:Hid (Below w4.heap.size w4 w5):=Hj (dH ((aj _ w4).alloc Kv _) hgr5 Kv);clear hown5 hgr5))
   | (at_builtin;(refine lG (w0:=w5) rfl (.tmp 59) (.tmp 60) rfl n ((aj _ w5).alloc Kv _) (by simp) (LB.empty w5 Kv) rfl ((R4.out.below B5.out).below ((aj _ w5).alloc Kv _)) rfl (dV _) (by have:=HN.out;omega) ?_;intro A6 c6 w6 pW hb6;have O6:=Hj (pW.mono B5.out.size);have O56:=Hj (O5.out.below hb6);have B6:=Hj (B5.out.trans (hb6.mono B5.out.size));clear pW hb6))
   | (at_builtin;(refine nT rfl (.tmp 58) (.tmp 62) (by rfl) (O56.out.alloc _) (by rfl) (Src.one w6 (w6.alloc (.cells #[.slice A6 n c6] 35)) A6 n c6 1 (fun _ _ h=>h)) (by rfl) (by omega) (by have:=B6.out.size;simp;omega) ?_;intro v7 w7 aU cu;obtain⟨A7,c7,e7,-,-⟩:=ah.form aU;subst e7;have O7:=Hj aU;have B7:Hid (Below w4.heap.size w4 w7):=Hj ((B6.out.alloc B6.out.size _).grown cu (by have:=B6.out.size;simp;omega) fun k hk=>(ah.lt O56.out k hk).1);have O67:Hid (LB w7 w4.heap.size (.slice A6 n c6) n):=(by obtain⟨l6,hl6,o6⟩:=O6.out;exact⟨l6,hl6,ah.kept (OB.alloc o6 _) (Fr.bF cu) fun q hq e=>by obtain⟨cur,hcur⟩:=au o6 hq;obtain⟨cur',kE⟩:=au O56.out e.symm;exact absurd (ak hcur kE) (by decide)⟩);have k7:=Kz B7.out _ _ cA;have f7:w7.frozen? ⟨gl,4,none⟩=false:=Kj ((B7.out.block _ HV.out.lt).trans HV.out.cells);clear aU cu))
   | fail)
  go_ret
  obtain⟨D9,F9⟩:=HV.out.push B7.out O7.out O67.out
  obtain⟨D8,F8⟩:=HU.out _ _ D9 F9
  exact⟨rfl,KW.then HFS.out.2 ⟨D8,F8⟩⟩
theorem QL (A:Option Addr) (n c:Nat) {room:Int} {s:Nat→Nat} (h:KW w0 w S g ⟨room,s,none⟩ gl G) (hr1:room≤100000) (he:s 2=dW G.ns) (hg:G.gen≤2147483647) (hb:LR w (.slice A n c) n) (hA:0<n→Off S A) (hn:n≤16384):
  Cl 133 #[pt gl,.slice A n c] w fun e w'=>
   (room-s 0-s 1-s 2<20+(n:Int)∧e=.returned (.int .i64 26)∧Below w.heap.size w w')∨
   (20+(n:Int)≤room-s 0-s 1-s 2∧e=.returned (.int .i64 0)∧KW w0 w' (ext S w w') g ⟨room,upd s 2 (s 2+(20+n)),none⟩ gl ⟨G.gen,G.slot,G.ns++[n]⟩∧Fr S w w'):=by
 by_cases hroom:room-s 0-s 1-s 2<20+(n:Int)
 ·exact (DY A n c h hn hroom).mono fun e w' hh=>.inl ⟨hroom,hh⟩
 ·exact (DZ A n c h hr1 he hg hb hA hn hroom).mono fun e w' hh=>.inr ⟨by omega,hh⟩
end
end Go.Proofs.YtdhbpajamlfacaaGreatDoor
