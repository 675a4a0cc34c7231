/- WatchPlays: what holds behind each act. -/
import Derived.Test.YtdhbpajamlfacaaGreatDoorZo
import Derived.Test.YtdhbpajamlfacaaGreatDoorWl
set_option maxHeartbeats 16000000
set_option maxRecDepth 100000
namespace Go.Proofs.YtdhbpajamlfacaaGreatDoor
open Go.RowKit SO
structure PJ (D:Nat→Prop) (w0 w:World) (Qs Qd P:Nat→Prop) (g gs gd gx tx gy c i:Nat) (m:DM) (L:LM) (M:bQ) (K:Nat) (space:ByteArray) (all:Bool) (kv:Value) (R:List (OV×aC)):Prop where
 pl:Pl D w0 w Qs Qd P g gs gd gx tx c gy c m L M (K:Int) space all (kd ko (R.map Prod.snd)) kv R
 ki:eX M i
 ns:vN M.tab
 tH:aT aS (kd ko (R.map Prod.snd))
 cm:c≤M.rev
 len:R.length≤i+c
/-- The watcher's kind and namespace. -/
def WOk (K:Nat) (space:ByteArray) (all:Bool):Prop:=K≤7∧(all=false→sJ space)∧space.size≤100
theorem IC {kind:Int} {space:ByteArray} {all:Bool} (h:jR kind space all=true) (hz:space.size≤100):∃K:Nat,kind=(K:Int)∧WOk K space all:=by
 unfold jR at h
 cases all with
 | true=>
  rw[aF rfl,jA,lD,lD] at h
  refine⟨kind.toNat,by omega,?_⟩
  unfold WOk
  exact⟨by omega,fun e=>absurd e (by decide),hz⟩
 | false=>
  rw[aG (by decide)] at h
  obtain⟨h1,h2,-⟩:=oz h
  refine⟨kind.toNat,by omega,?_⟩
  unfold WOk
  exact⟨by omega,fun _=>oO h,hz⟩
section
variable {D:Nat→Prop} {w w' w2 w0 W:World} {Qs Qd P:Nat→Prop} {g gs gd gx tx gy c i K:Nat} {m:DM} {L:LM} {M:bQ} {space:ByteArray} {all:Bool} {kv:Value} {R:List (OV×aC)} {ea:Nat→Addr}
theorem PJ.below (h:PJ D w0 w Qs Qd P g gs gd gx tx gy c i m L M K space all kv R) (hb:Bw w w'):PJ D w0 w' Qs Qd P g gs gd gx tx gy c i m L M K space all kv R:=⟨h.pl.below hb,h.ki,h.ns,h.tH,h.cm,h.len⟩
theorem EM {l:List aC}:(kd ko l).length=l.length:=by unfold kd;rw[aX]
theorem ZX {l:List aC} (h:aT aS (kd ko l)) {a b:aC} (ha:a∈l) (hb:b∈l) (e:ko a=ko b):a=b:=by
 obtain⟨i,hi⟩:=jT.1 (bW.2 ⟨a,ha,rfl⟩:(ko a,a)∈kd ko l)
 obtain⟨j,hj⟩:=jT.1 (bW.2 ⟨b,hb,rfl⟩:(ko b,b)∈kd ko l)
 have h1:=fF dh h hi
 have h2:=fF dh h hj
 simp only at h1 h2
 rw[e,h2] at h1
 injection h1 with h1
 exact h1.symm
theorem Turn.rev {M':bQ} (h:Turn M M'):M.rev≤M'.rev:=by
 obtain⟨X,hX,hM⟩:=h
 have hx:X.rev=M.rev:=by rcases hX with rfl | rfl<;>rfl
 rcases hM with rfl | ⟨e,hc,-,rfl⟩
 ·omega
 ·rw [xI]
  have:=hc.ver
  omega
theorem PJ.bel (h:PJ D w0 w Qs Qd P g gs gd gx tx gy c i m L M K space all kv R):Bw w0 w:=h.pl.two.s.bel
theorem PJ.small (h:PJ D w0 w Qs Qd P g gs gd gx tx gy c i m L M K space all kv R) (hi:i≤60):R.length≤200∧M.rev≤i∧M.tab.length≤i∧M.evs.length≤i:=by
 obtain⟨f1,f2,f3,f4,f5⟩:=h.ki.facts (by omega)
 have:=h.len
 have:=h.cm
 have:=h.ki.tab
 omega
/-- A change. -/
theorem PJ.change (h:PJ D w0 w Qs Qd P g gs gd gx tx gy c i m L M K space all kv R) (he:Errs w0 ea) (hE:EW w0 ea) (hi:i≤50) (a:jo) (ha:zI w0 a) (hs:a.o.space.size≤100∧a.o.name.size≤100) (W:World) (hW:Bw w W):
  Cl 10 #[pt gs,pt gd,.agg #[.int .i64 a.kind,.int .i64 a.o.kind,.string a.o.space,.string a.o.name,.int .i64 a.o.ver,.slice a.o.A a.o.n a.o.c]] W fun e w'=>e=.returned (.bool true)∧(∃OC xZ m' L' M',PJ D w0 w' OC xZ P g gs gd gx tx gy c (i+1) m' L' M' K space all kv R)∧Fr (fun k=>k<w.heap.size) W w':=by
 refine(TK a.o a.bs a.kind (h.pl.two.below hW) he hE h.ki (by omega) ha.rb ha.kind (by omega) (by omega)).mono ?_
 rintro e w' ⟨rfl,m',L',M',h2,h3,h4⟩
 obtain⟨OC,xZ,h5⟩:=(h.pl.below hW).step h2
 refine⟨rfl,⟨OC,xZ,m',L',M',h5,h3,h4.ns h.ns,h.tH,Cz h.cm h4.rev,by have:=h.len;omega⟩,?_⟩
 obtain⟨_,_,_,hf,_⟩:=h2
 exact hf.mono fun k _ hk=>hk.1.elim (h.pl.two.s.hi k) (h.pl.two.d.hi k)
/-- Between both Syncs. -/
structure PM (D:Nat→Prop) (w0 w:World) (Qs Qd P:Nat→Prop) (g gs gd gx tx gy c i:Nat) (m:DM) (L:LM) (M:bQ) (K:Nat) (space:ByteArray) (all:Bool) (kv:Value) (R:List (OV×aC)) (an:Bool) (v1 v2:Value) (K':List (ByteArray×aC)) (lp ld:List aC):Prop where
 pl:Pl D w0 w Qs Qd P g gs gd gx tx M.rev gy c m L M (K:Int) space all K' kv R
 ki:eX M i
 ns:vN M.tab
 tH:aT aS (kd ko (R.map Prod.snd))
 cm:c≤M.rev
 len:R.length≤i+c
 sy:og M (K:Int) space all c (kd ko (R.map Prod.snd)) (jc M (K:Int) space all) an K' lp ld
 o1:OS w 0 v1 lp
 o2:OS w 0 v2 ld
theorem PM.below {an:Bool} {v1 v2:Value} {K':List (ByteArray×aC)} {lp ld:List aC} (h:PM D w0 w Qs Qd P g gs gd gx tx gy c i m L M K space all kv R an v1 v2 K' lp ld) (hb:Bw w w'):PM D w0 w' Qs Qd P g gs gd gx tx gy c i m L M K space all kv R an v1 v2 K' lp ld:=
 ⟨h.pl.below hb,h.ki,h.ns,h.tH,h.cm,h.len,h.sy,h.o1.below hb,h.o2.below hb⟩
theorem PJ.Ui (h:PJ D w0 w Qs Qd P g gs gd gx tx gy c i m L M K space all kv R) (hi:i≤60) (hk:WOk K space all):
  Cl 11 #[pt gx,pt gs] w fun e w'=>∃an A1 n1 c1 A2 n2 c2 P' ZT K' lp ld,e=.returned (.tuple #[.agg #[.bool an,.slice A1 n1 c1,.slice A2 n2 c2],.nilIface])∧n1=lp.length∧n2=ld.length∧PM D w0 w' Qs Qd P' g gs gd gx ZT gy c i m L M K space all kv R an (.slice A1 n1 c1) (.slice A2 n2 c2) K' lp ld∧Fr (fun k=>k=gx∨k=tx) w w':=by
 have hs:=h.small hi
 refine(h.pl.Ui h.ki hi h.ns h.cm (by rw[EM,aX];omega) hk.1 hk.2.1 hk.2.2).mono ?_
 rintro e w' ⟨an,A1,n1,c1,A2,n2,c2,P',ZT,K',lp,ld,rfl,h1,e1,h2,e2,h3,h4,h5⟩
 exact⟨an,A1,n1,c1,A2,n2,c2,P',ZT,K',lp,ld,rfl,e1,e2,⟨h3,h.ki,h.ns,h.tH,h.cm,h.len,h4,h1.mono (bU _),h2.mono (bU _)⟩,h5⟩
theorem OS.IB {b:Nat} {v:Value} {l:List aC} {cy:Array Value} (h:OS w b v l) (hf:Fr (fun k=>k=gy) w w') (hr:w.heap[gy]?=some (.cells cy 58 (0,0))):OS w' b v l:=by
 obtain⟨os,h1,h2,h3⟩:=h
 exact⟨os,ah.kept h1 hf fun k hk e=>fH (cs:=cy) (T:=58) h1 hk (by rw[e];exact hr) (by decide),h2,fun x hx=>(h3 x hx).fr hf fun k hk e=>by
  obtain⟨_,hc⟩:=au (h3 x hx).data hk
  exact absurd (ak hc (by rw[e];exact hr)) (by decide)⟩
theorem og.len {an:Bool} {K' Kx:List (ByteArray×aC)} {lp ld:List aC} {kind:Int} (h:og M kind space all c Kx (jc M kind space all) an K' lp ld) (h1:M.tab.length≤1000) (h2:M.evs.length≤1000) (h3:Kx.length≤1000):lp.length≤100000∧ld.length≤100000:=by
 rcases h with ⟨-,-,-,rfl,rfl⟩ | ⟨-,-,-,rfl,rfl⟩
 ·have k1:=Iz (M:=M) (kind:=kind) (S:=space) (all:=all)
  unfold vO
  rw[aX]
  have k2:=kZ (fun x:ByteArray×aC=>(look aS x.1 ((jc M kind space all).foldl gZ [])).isNone) Kx
  omega
 ·have k1:=nZ false kind space all (M.evs.drop (c-M.base)) []
  have k2:=nZ true kind space all (M.evs.drop (c-M.base)) []
  rw[lu,Xe] at k1 k2
  omega
theorem PM.Uj {an:Bool} {A1 A2:Option Addr} {n1 c1 n2 c2:Nat} {K':List (ByteArray×aC)} {lp ld:List aC} (h:PM D w0 w Qs Qd P g gs gd gx tx gy c i m L M K space all kv R an (.slice A1 n1 c1) (.slice A2 n2 c2) K' lp ld) (e1:n1=lp.length) (e2:n2=ld.length) (hi:i≤60):
  Cl 19 #[pt gy,pt gd] w fun e w'=>∃B1 d1 B2 d2 D' xZ kv' R',e=.returned (.tuple #[.agg #[.bool an,.slice B1 n1 d1,.slice B2 n2 d2],.int .i64 0])∧PJ D' w0 w' Qs xZ P g gs gd gx tx gy M.rev i m L M K space all kv' R'∧Fr (fun k=>k=gy) w w'∧
   (∀W,Bw w' W→Cl 16 #[.slice A1 n1 c1,.slice B1 n1 d1] W fun e w'=>e=.returned (.bool true)∧Bw W w')∧
   (∀W,Bw w' W→Cl 16 #[.slice A2 n2 c2,.slice B2 n2 d2] W fun e w'=>e=.returned (.bool true)∧Bw W w'):=by
 obtain⟨f1,f2,f3,f4,f5⟩:=h.ki.facts (by omega)
 have hlen:=h.len
 have hcm:=h.cm
 have htab:=h.ki.tab
 have WL:=h.pl.yr
 refine(h.pl.Uj h.ki hi h.cm (by omega) h.tH).mono ?_
 rintro e w' ⟨an',B1,m1,d1,B2,m2,d2,D',xZ,kv',R',lp',ld',rfl,k1,e3,k2,e4,k3,k4,k5,k6,k7⟩
 obtain⟨rfl,rfl,rfl,rfl⟩:=og.same h.sy k4
 obtain⟨l1,l2⟩:=h.sy.len (by omega) (by omega) (by rw[EM,aX];omega)
 subst e3
 subst e4
 subst e1
 subst e2
 refine⟨B1,d1,B2,d2,D',xZ,kv',R',rfl,⟨k3,h.ki,h.ns,k5,bZ _,by omega⟩,k6,fun W hW=> ?_,fun W hW=> ?_⟩
 ·exact vP ((h.o1.IB k6 WL).below hW) ((k1.mono (bU _)).below hW) rfl l1
 ·exact vP ((h.o2.IB k6 WL).below hW) ((k2.mono (bU _)).below hW) rfl l2
/-- The watcher goes on as a copy. -/
theorem PJ.copy (h:PJ D w0 w Qs Qd P g gs gd gx tx gy c i m L M K space all kv R) (hi:i≤60) (hk:WOk K space all):
  Cl 20 #[pt gx] w fun e w2=>∃Uf PL,e=.returned (pt Uf)∧Bw w w2∧Cl 11 #[pt gx,pt gs] w2 fun e w'=>∃an A1 n1 c1 A2 n2 c2,e=.returned (.tuple #[.agg #[.bool an,.slice A1 n1 c1,.slice A2 n2 c2],.nilIface])∧PJ D w0 w' Qs Qd P g gs gd Uf PL gy c i m L M K space all kv R∧Fr (fun k=>k=gx∨k=tx) w2 w':=by
 have hs:=h.small hi
 refine(copyW h.pl.xr h.pl.xt).mono ?_
 rintro e w' ⟨Uf,PL,rfl,h1,h2,h3,h4,h5⟩
 refine⟨Uf,PL,rfl,h5,(h.pl.old (h.pl.copy h1 h2 h3 h4 h5) h3 h4 h5 h.ki hi h.ns h.cm (by rw[EM,aX];omega) hk.1 hk.2.1 hk.2.2).mono ?_⟩
 rintro e w3 ⟨an,A1,n1,c1,A2,n2,c2,rfl,h6,h7⟩
 exact⟨an,A1,n1,c1,A2,n2,c2,rfl,⟨h6,h.ki,h.ns,h.tH,h.cm,h.len⟩,h7⟩
def MO (sp nm:ByteArray) (x:OV×aC):Bool:=(x.1.space.toList==sp.toList)&&(x.1.name.toList==nm.toList)
/-- Get finds what the document's loop finds. -/
theorem PJ.get (h:PJ D w0 w Qs Qd P g gs gd gx tx gy c i m L M K space all kv R) (sp nm:ByteArray) (hs:sp.size≤100) (hn:nm.size≤100):
  Cl 21 #[pt gx,.string sp,.string nm] w fun e w'=>Bw w w'∧∃(v:OV),e=.returned (.tuple #[.agg (ov v),.bool (R.any (MO sp nm))])∧∀x∈R,MO sp nm x=true→dD w' v x.2:=by
 refine(getW h.pl.xr h.pl.xt (fun x hx=> ?_) (fun x hx=> ?_) sp nm (by omega) (by omega)).mono ?_
 ·obtain ⟨o,-,rfl⟩:=bW.1 hx
  rfl
 ·obtain ⟨o,ho,rfl⟩:=bW.1 hx
  obtain⟨z,hz,rfl⟩:=bW.1 ho
  exact(h.pl.ok z hz).1.small.1
 ·rintro e w' ⟨hb,v,b,rfl,hc⟩
  have hm:∀x∈R,MO sp nm x=true↔x.2.space=sp∧x.2.name=nm:=fun x hx=>by
   unfold MO
   rw[jA,beq_iff_eq,beq_iff_eq,(h.pl.yi x hx).space,(h.pl.yi x hx).name]
   exact⟨fun⟨a,b⟩=>⟨lY a,lY b⟩,fun⟨a,b⟩=>⟨by rw[a],by rw[b]⟩⟩
  have hin:∀x∈R,(ko x.2,x.2)∈kd ko (R.map Prod.snd):=fun x hx=>bW.2 ⟨x.2,bW.2 ⟨x,hx,rfl⟩,rfl⟩
  rcases hc with ⟨rfl,hno⟩ | ⟨rfl,y,hy,y1,y2,y3⟩
  ·have hf:R.any (MO sp nm)=false:=List.any_eq_false.2 fun x hx e=>hno _ (hin x hx) ((hm x hx).1 e)
   exact⟨hb,v,by rw[hf],fun x hx e=>absurd ((hm x hx).1 e) (hno _ (hin x hx))⟩
  ·obtain ⟨o,ho,rfl⟩:=bW.1 hy
   obtain⟨z,hz,rfl⟩:=bW.1 ho
   have ht:R.any (MO sp nm)=true:=List.any_eq_true.2 ⟨z,hz,(hm z hz).2 ⟨y1,y2⟩⟩
   refine⟨hb,v,by rw[ht],fun x hx e=> ?_⟩
   obtain⟨x1,x2⟩:=(hm x hx).1 e
   have e:x.2=z.2:=ZX h.tH (bW.2 ⟨x,hx,rfl⟩) (bW.2 ⟨z,hz,rfl⟩) (by unfold ko;rw[x1,x2];dsimp only at y1 y2;rw[y1,y2])
   rw[e]
   exact y3
/-- Known, of both. -/
theorem PJ.known (h:PJ D w0 w Qs Qd P g gs gd gx tx gy c i m L M K space all kv R) (hi:i≤60):
  Cl 17 #[pt gx] w fun e w'=>∃A n c1,e=.returned (.slice A n c1)∧Bw w w'∧∀W,Bw w' W→Cl 16 #[.slice A n c1,kv] W fun e w'=>e=.returned (.bool true)∧Bw W w':=by
 have hs:=h.small hi
 refine(ZJ h.pl.xr h.pl.xt (by rw[EM,aX];omega) fun x hx=> ?_).mono ?_
 ·obtain ⟨o,ho,rfl⟩:=bW.1 hx
  obtain⟨z,hz,rfl⟩:=bW.1 ho
  exact(h.pl.ok z hz).1.small.1
 ·rintro e w' ⟨v,rfl,h1,hb⟩
  have e:(kd ko (R.map Prod.snd)).map (fun x=>x.2)=R.map Prod.snd:=Kr _
  rw[e] at h1
  obtain⟨A,c1,rfl,-,-⟩:=h1.form
  refine⟨A,_,c1,rfl,hb,fun W hW=> ?_⟩
  have h2:OS W 0 kv (R.map Prod.snd):=⟨R,(h.pl.yk.below hb).below hW,rfl,fun x hx=>((h.pl.yi x hx).below hb).below hW⟩
  obtain⟨B,d,rfl,-,-⟩:=h2.form
  exact vP (h1.below hW) h2 rfl (by rw[aX];omega)
end
section
variable {ea:Nat→Addr}
/-- What the walk starts from. -/
structure WPl (w w1:World) (B:Nat) (kind:Int) (space:ByteArray) (all:Bool):Prop where
 eq:w1=w.alloc (.cells #[.int .i64 kind,.string space,.bool all] 50)
 loc:B=w.heap.size
 bel:Bw w w1
 row:w1.heap[B]?=some (.cells #[.int .i64 kind,.string space,.bool all] 50 (0,0))
theorem WPl.of (w:World) (kind:Int) (space:ByteArray) (all:Bool):∃w1 B,WPl w w1 B kind space all:=⟨_,_,rfl,rfl,(aj _ w).alloc Kv _,aA w _⟩
theorem WPl.cells {w w1 W:World} {B:Nat} {kind:Int} {space:ByteArray} {all:Bool} (h:WPl w w1 B kind space all) (hW:Bw w1 W):W.cell? ⟨B,0,none⟩=some (.int .i64 kind)∧W.cell? ⟨B,1,none⟩=some (.string space)∧W.cell? ⟨B,2,none⟩=some (.bool all):=by
 have:=(hW.block B (Cq h.row)).trans h.row
 exact⟨Kq 0 this,Kq 1 this,Kq 2 this⟩
theorem longs {w:World} {l:List jo} {A:Option Addr} {n:Nat} (hl:lM w A n l) (h:ng l=false):n≤40∧∀a∈l,a.o.space.size≤100∧a.o.name.size≤100:=by
 unfold ng at h
 rw[Bool.or_eq_false_iff] at h
 refine⟨by have:=vX h.1;have:=hl.1;omega,fun a ha=> ?_⟩
 have h2:kX a=false:=by
  cases hq:kX a with
  | false=>rfl
  | true=>have:=List.any_eq_true.2 ⟨a,ha,hq⟩;rw[h.2] at this;cases this
 unfold kX at h2
 rw[Bool.or_eq_false_iff,Bool.or_eq_false_iff] at h2
 have:=vX h2.2.1
 have:=vX h2.2.2
 omega
theorem WatchPlays_no (kind:Int) (space:ByteArray) (all:Bool) (room:Int) (A:Option Addr) (n c:Nat) (l:List jo) (w:World) (hl:lM w A n l) (hn:n≤maxLen) (hE:EW w ea) (he:Errs w ea) (hno:ng l=true∨100<space.size∨jR kind space all=false):
  Cl 5 #[.agg #[.int .i64 kind,.string space,.bool all],.int .i64 room,.slice A n c] w fun e w'=>e=.returned (.bool true)∧Bw w w':=by
 obtain⟨w1,B,h1⟩:=WPl.of w kind space all
 have H1:=Hj h1
 have HAl:=Hj (wY w1 (hE.below h1.bel) (he.below h1.bel))
 have WV:Hid (∀W,Keeps w W→Cl 7 #[.slice A n c] W fun e w'=>e=.returned (.bool (ng l))∧Bw W w'):=Hj fun W hW=>zJ A n c l W (hl.keep hW) hn
 have Yf:Hid (∀W,Bw w W→_):=Hj fun W hW=>newG kind space all W (he.below hW)
 have HRt:=Hj fun W=>MK kind space all W
 have HE:=Hj he
 have ZB:Hid (∀W,Bw w W→Cl 13 #[.iface 368 (.pointer (some (ea 9)))] W fun e w'=>e=.returned (.int .i64 9)∧Bw W w'):=Hj fun W hW=>by
  have:=Lp (he.below hW) 9 (by decide)
  rwa [tY,dM ea (by decide)] at this
 clear hl hn hE he h1
 by_cases WW:ng l=true
 ·rw [WW] at WV
  clear WW hno
  go_enter Tryz.func5,Tryz.ntmps5
  go_wp2_with (first
   | (go_at_call 6;rw[←H1.out.eq];((refine HAl.out.mono ?_);rintro e w2 ⟨rfl,hb2⟩;have B2:=Hj (H1.out.bel.trans (hb2.mono H1.out.bel.size));clear hb2))
   | (go_at_call 7;((refine(WV.out w2 (Kz B2.out)).mono ?_);rintro e w3 ⟨rfl,hb3⟩;have B3:=Hj (B2.out.trans (hb3.mono B2.out.size));clear hb3))
   | fail)
  go_ret
  exact⟨rfl,B3.out⟩
 have hlg2:ng l=false:=by simpa using WW
 rw[hlg2] at WV
 have hno:=hno.resolve_left WW
 clear WW hlg2
 by_cases hsp:100<space.size
 ·have q1:(100:Int)<(space.size:Int):=by omega
  clear hsp hno
  go_enter Tryz.func5,Tryz.ntmps5
  go_wp2_with (first
   | (go_at_call 6;rw[←H1.out.eq];((refine HAl.out.mono ?_);rintro e w2 ⟨rfl,hb2⟩;have B2:=Hj (H1.out.bel.trans (hb2.mono H1.out.bel.size));have Bc:=Hj hb2;clear hb2))
   | (go_at_call 7;rw[←H1.out.loc];((refine(WV.out w2 (Kz B2.out)).mono ?_);rintro e w3 ⟨rfl,hb3⟩;have B3:=Hj (B2.out.trans (hb3.mono B2.out.size));obtain⟨x0,x1,x2⟩:=H1.out.cells (Bc.out.trans (hb3.mono Bc.out.size));clear hb3))
   | fail)
  go_ret
  exact⟨rfl,B3.out⟩
 have hr:=hno.resolve_left hsp
 have q1:¬(100:Int)<(space.size:Int):=by omega
 rw[hr] at Yf HRt
 simp only[Bool.false_eq_true,if_false] at Yf
 clear hsp hno hr
 go_enter Tryz.func5,Tryz.ntmps5
 go_wp2_with (first
  | (go_at_call 6;rw[←H1.out.eq];((refine HAl.out.mono ?_);rintro e w2 ⟨rfl,hb2⟩;have B2:=Hj (H1.out.bel.trans (hb2.mono H1.out.bel.size));have Bc:=Hj hb2;clear hb2))
  | (go_at_call 7;rw[←H1.out.loc];((refine(WV.out w2 (Kz B2.out)).mono ?_);rintro e w3 ⟨rfl,hb3⟩;have B3:=Hj (B2.out.trans (hb3.mono B2.out.size));have OM:=Hj (Bc.out.trans (hb3.mono Bc.out.size));obtain⟨x0,x1,x2⟩:=H1.out.cells OM.out;clear hb3))
  | (go_at_call 9;((refine(Yf.out w3 B3.out).mono ?_);rintro e w4 ⟨hb4,rfl⟩;have B4:=Hj (B3.out.trans (hb4.mono B3.out.size));have B14:=Hj (OM.out.trans (hb4.mono OM.out.size));obtain⟨x0,x1,x2⟩:=H1.out.cells B14.out;clear hb4))
  | (go_at_call 18;((refine(HRt.out w4).mono ?_);rintro e w5 ⟨rfl,hb5⟩;have B5:=Hj (B4.out.trans (hb5.mono B4.out.size));clear hb5))
  | (go_at_call 13;((refine(ZB.out w5 B5.out).mono ?_);rintro e w6 ⟨rfl,hb6⟩;have B6:=Hj (B5.out.trans (hb6.mono B5.out.size));clear hb6))
  | fail)
 go_ret
 exact⟨rfl,B6.out⟩
end
/-- The box of an act. -/
def EJ (W:World) (b:Nat) (a:jo):Prop:=W.heap[b]?=some (.cells #[.int .i64 a.kind,.int .i64 a.o.kind,.string a.o.space,.string a.o.name,.int .i64 a.o.ver,.slice a.o.A a.o.n a.o.c] 39 (0,0))
section
variable {w w':World} {X:Nat→Prop} {b:Nat} {a:jo} {ea:Nat→Addr}
theorem EJ.fr (h:EJ w b a) (hf:Fr X w w') (hb:¬X b):EJ w' b a:=(hf.block b (Cq h) hb).trans h
theorem EJ.below (h:EJ w b a) (hb:Bw w w'):EJ w' b a:=(hb.block b (Cq h)).trans h
theorem EJ.cells (h:EJ w b a):w.cell? ⟨b,0,none⟩=some (.int .i64 a.kind)∧w.cell? ⟨b,2,none⟩=some (.string a.o.space)∧w.cell? ⟨b,3,none⟩=some (.string a.o.name):=
 ⟨Kq 0 h,Kq 2 h,Kq 3 h⟩
/-- A report's box. -/
theorem WX {T:TypeId} {c0 c1 c2:Value} (h:w.heap[b]?=some (.cells #[c0,c1,c2] T (0,0))):w.cell? ⟨b,0,none⟩=some c0∧w.cell? ⟨b,1,none⟩=some c1∧w.cell? ⟨b,2,none⟩=some c2:=
 ⟨Kq 0 h,Kq 1 h,Kq 2 h⟩
theorem Uk {α:Type} {p:α→Bool} {l:List α} {i:Nat} {x:α} (hx:l[i]?=some x):(l.take (i+1)).any p=((l.take i).any p||p x):=by
 rw[jq hx,List.any_append]
 simp
theorem WatchPlays_yes (K:Nat) (space:ByteArray) (all:Bool) (room:Int) (A:Option Addr) (n c:Nat) (l:List jo) (w:World) (hl:lM w A n l) (hn:n≤maxLen) (hE:EW w ea) (he:Errs w ea) (WW:ng l=false) (hk:WOk K space all) (hr:jR (K:Int) space all=true):
  Cl 5 #[.agg #[.int .i64 (K:Int),.string space,.bool all],.int .i64 room,.slice A n c] w fun e w'=>e=.returned (.bool true)∧Bw w w':=by
 obtain⟨w1,B,h1⟩:=WPl.of w (K:Int) space all
 have H1:=Hj h1
 have HAl:=Hj (wY w1 (hE.below h1.bel) (he.below h1.bel))
 have WV:Hid (∀W,Keeps w W→Cl 7 #[.slice A n c] W fun e w'=>e=.returned (.bool (ng l))∧Bw W w'):=Hj fun W hW=>zJ A n c l W (hl.keep hW) hn
 have HMd:=Hj TG
 have Yf:Hid (∀W,Bw w W→_):=Hj fun W hW=>newG (K:Int) space all W (he.below hW)
 have HRt:=Hj fun W=>MK (K:Int) space all W
 rw[WW] at WV
 rw[hr] at Yf HRt
 simp only[if_true] at Yf
 have HRR:Hid (0≤wrap64 (500+wrap64 ((IntKind.u64.wrap room).tmod 20000))∧wrap64 (500+wrap64 ((IntKind.u64.wrap room).tmod 20000))≤100000):=Hj (by
  have hx:0≤IntKind.u64.wrap room:=by
   unfold IntKind.wrap
   simp[IntKind.signed,IntKind.bits]
   omega
  generalize IntKind.u64.wrap room=x at*
  rw[Int.tmod_eq_emod_of_nonneg hx]
  unfold wrap64
  omega)
 have HE:=Hj (aB hE he)
 have HR:=Hj hl
 have HN:=Hj (longs hl WW)
 have HK:=Hj hk
 have q1:¬(100:Int)<(space.size:Int):=by have:=hk.2.2;omega
 clear hl hn hE he h1 WW hk hr
 go_enter Tryz.func5,Tryz.ntmps5
 go_wp2_with (first
  | (go_at_call 6;rw[←H1.out.eq];((refine HAl.out.mono ?_);rintro e w2 ⟨rfl,hb2⟩;have B2:=Hj (H1.out.bel.trans (hb2.mono H1.out.bel.size));have Bc:=Hj hb2;clear hb2))
  | (go_at_call 7;rw[←H1.out.loc];((refine(WV.out w2 (Kz B2.out)).mono ?_);rintro e w3 ⟨rfl,hb3⟩;have B3:=Hj (B2.out.trans (hb3.mono B2.out.size));have OM:=Hj (Bc.out.trans (hb3.mono Bc.out.size));obtain⟨x0,x1,x2⟩:=H1.out.cells OM.out;clear hb3))
  | (go_at_call 9;((refine(Yf.out w3 B3.out).mono ?_);rintro e w4 ⟨hb4,gx,tx,rfl,h1,h2,h3,h4⟩;have X4:=Hj (aB h1 (aB h2 (aB h3 h4)));have B34:=Hj hb4;have B14:=Hj (OM.out.trans (hb4.mono OM.out.size));obtain⟨x0,x1,x2⟩:=H1.out.cells B14.out;clear hb4 h1 h2 h3 h4))
  | (go_at_call 18;((refine(HRt.out w4).mono ?_);rintro e w5 ⟨rfl,hb5⟩;have B45:=Hj hb5;have B15:=Hj (B14.out.trans (hb5.mono B14.out.size));clear hb5))
  | (go_at_call 8;((refine(HMd.out _ HRR.out.1 HRR.out.2 w5).mono ?_);rintro e w6 ⟨gs,gd,g,Qs,Qd,rfl,hs,hd,hdis,hb⟩;have T6:Hid (Two (fun _=>False) w5 w6 Qs Qd g gs gd _ _ _):=Hj ⟨hs,hd,fun k h1 h2=>h2.elim (hdis k h1) id⟩;have B56:=Hj hb;obtain⟨x0,x1,x2⟩:=H1.out.cells (B15.out.trans (hb.mono B15.out.size));clear hs hd hdis hb))
  | fail)
 obtain⟨w7,hw7⟩:∃W,W=w6.alloc (.cells #[.int .i64 (K:Int),.string space,.bool all,.slice none 0 0,.int .i64 0] 58):=⟨_,rfl⟩
 obtain⟨gy,hgy⟩:∃b,b=w6.heap.size:=⟨_,rfl⟩
 obtain⟨r0,hr0⟩:∃r,r=wrap64 (500+wrap64 ((IntKind.u64.wrap room).tmod 20000)):=⟨_,rfl⟩
 rw[←hr0] at T6 HRR
 have HP0:Hid (PJ (fun _=>False) w3 w7 Qs Qd (fun _=>False) g gs gd gx tx gy 0 0 ⟨r0,fun _=>0⟩ ⟨0,1,[]⟩ st0 K space all (.slice none 0 0) []):=Hj (by
  obtain⟨h1,h2,h3,h4⟩:=X4.out
  have b35:=B34.out.trans (B45.out.mono B34.out.size)
  have b46:=B45.out.trans (B56.out.mono B45.out.size)
  have b67:Bw w6 w7:=by rw[hw7];exact(aj _ w6).alloc Kv _
  have b47:=b46.trans (b67.mono b46.size)
  have s4:=B34.out.size
  have s5:=B45.out.size
  have s6:=B56.out.size
  have a1:=(Cq h1)
  have a2:=(Cq h2)
  refine⟨⟨Two.below ⟨T6.out.s.base b35,T6.out.d.base b35,T6.out.TJ⟩ b67,(b47.block gx a1).trans h1,KT.nil ((b47.block tx a2).trans h2),by rw[hw7,hgy];exact aA w6 _,OL.nil _ _,fun x hx=>(by cases hx),fun x hx=>(by cases hx),fun x hx=>(by cases hx),fun k hk=> ?_,fun k hk=>hk.elim,⟨h3,h4,by omega⟩,id⟩,eX.start,fun x hx=>(by cases hx),List.Pairwise.nil,bU _,bU _⟩
  have hk2:w5.heap.size≤k∧k<w6.heap.size:=by
   rcases hk with hk | hk | hk
   ·exact ⟨T6.out.s.up k hk,T6.out.s.hi k hk⟩
   ·exact ⟨T6.out.d.up k hk,T6.out.d.hi k hk⟩
   ·exact hk.elim
  exact⟨by omega,by omega,by omega,id,fun e=>by cases e⟩)
 obtain⟨m0,hm0⟩:∃m:DM,m=⟨r0,fun _=>0⟩:=⟨_,rfl⟩
 obtain⟨L0,hL0⟩:∃L:LM,L=⟨0,1,[]⟩:=⟨_,rfl⟩
 rw[←hm0,←hL0] at HP0
 try rw[←hw7]
 try rw[←hgy]
 clear hm0 hL0 hr0 T6 X4 B34 B45 B56 B14 B15 Bc B2 HMd Yf HRt HAl WV HRR x0 x1 x2 hw7 hgy
 go_loopg [7,88] n (fun gk s7 s88 wr=>∃(i:Nat) (D Qs Qd P:Nat→Prop) (gx tx c:Nat) (m:DM) (L:LM) (M:bQ) (kv:Value) (R:List (OV×aC)),s7=pt gx∧s88=.int .i64 (i:Int)∧i+gk=n∧PJ D w3 wr Qs Qd P g gs gd gx tx gy c i m L M K space all kv R)
 case atStart=>exact⟨0,_,Qs,Qd,_,gx,tx,0,m0,L0,st0,_,[],rfl,rfl,by omega,HP0.out⟩
 case round=>
  obtain⟨i,D,Qs,Qd,P,gx,tx,c,m,L,M,kv,R,rfl,rfl,hi,WY⟩:=hrel
  have HI:=Hj hi
  have HP:=Hj WY
  have TN:=HN.out.1
  by_cases hlt:i<n
  ·have hin:i<l.length:=by rw[HR.out.1];exact hlt
   obtain⟨a,ha⟩:∃a,l[i]?=some a:=⟨_,fJ hin⟩
   have hget:l.getD i default=a:=by rw[nG,ha];rfl
   have hmem:a∈l:=gJ ha
   have hok:=HR.out.2.1 a hmem
   have hsz:=HN.out.2 a hmem
   have Ux:=Hj hsz
   obtain⟨b,o,rfl,hb⟩:=HR.out.2.2 (by omega)
   have hbw:=B3.out.trans (WY.bel.mono B3.out.size)
   obtain⟨c0,c1,c2,c3,c4,c5⟩:=(hb i hlt).keep (Kz hbw)
   rw[hget] at c0 c1 c2 c3 c4 c5
   have i0:(0:Int)≤(i:Int):=Int.natCast_nonneg i
   have i1:(i:Int)<(n:Int):=Int.ofNat_lt.2 hlt
   have i2:(i:Int)≤100000:=by omega
   obtain⟨wa,oh⟩:∃W,W=wr.alloc (.cells #[.int .i64 a.kind,.int .i64 a.o.kind,.string a.o.space,.string a.o.name,.int .i64 a.o.ver,.slice a.o.A a.o.n a.o.c] 39):=⟨_,rfl⟩
   obtain⟨ba,hba⟩:∃b,b=wr.heap.size:=⟨_,rfl⟩
   have HBa:Hid (EJ wa ba a):=Hj (by rw[oh,hba];exact aA wr _)
   have PK:=Hj (aB oh hba)
   have XE:Hid _:=Hj (WY.change (HE.out.2.below B3.out) (HE.out.1.below B3.out) (by omega) a (hok.keep (Kz B3.out)) hsz wa (by rw[oh];exact(aj _ wr).alloc Kv _))
   have HG:Hid (gx<ba∧tx<ba∧gy<ba):=Hj (by
    rw[hba]
    exact⟨(Cq WY.pl.xr),let ⟨_,ht⟩:=WY.pl.xt.row;(Cq ht),(Cq WY.pl.yr)⟩)
   have yN:Hid (i<n∧i+1≤60):=Hj ⟨hlt,by omega⟩
   have hkind:(a.kind==4)=true∧(a.kind==5)=false∨(a.kind==4)=false∧(a.kind==5)=true∨(a.kind==4)=false∧(a.kind==5)=false:=by
    simp only[beq_iff_eq,beq_eq_false_iff_ne]
    omega
   clear hi WY hlt hin ha hget hmem hok hsz hb hbw TN oh hba
   go_wp2_with (first
    | (go_at_call 10;rw[←PK.out.1,←PK.out.2];((with_reducible refine XE.out.mono ?_);rintro e w7 ⟨rfl,⟨OC,xZ,m',L',M',h1⟩,h2⟩;have C7:=Hj h1;have Z8:=Hj (HBa.out.fr h2 (by have:=PK.out.2;omega));clear h1 h2;obtain⟨y0,y1,y2⟩:=Z8.out.cells;clear c0 c1 c2 c3 c4 c5;rcases hkind with ⟨k4,k5⟩ | ⟨k4,k5⟩ | ⟨k4,k5⟩))
    | fail)
   focus
    go_wp2_with (first
     | (go_at_call 11;((refine(C7.out.Ui yN.out.2 HK.out).mono ?_);rintro e w8 ⟨an,A1,n1,c1,A2,n2,c2,P',ZT,K',lp,ld,rfl,e1,e2,h1,h2⟩;have M8:=Hj (aB e1 (aB e2 h1));have HB8:=Hj (Z8.out.fr h2 (by have:=HG.out;omega));clear e1 e2 h1 h2))
     | (go_at_call 19;obtain⟨w9,Uu⟩:∃W,W=w8.alloc (.cells #[.bool an,.slice A1 n1 c1,.slice A2 n2 c2] 43):=⟨_,rfl⟩;obtain⟨z9,hz9⟩:∃z,z=w8.heap.size:=⟨_,rfl⟩;rw[←Uu,←hz9];have b9:Bw w8 w9:=(by rw[Uu];exact(aj _ w8).alloc Kv _);have Z9:w9.heap[z9]?=some (.cells #[.bool an,.slice A1 n1 c1,.slice A2 n2 c2] 43 (0,0)):=(by rw[Uu,hz9];exact aA w8 _);have HB9:=HB8.out.below b9;have hgz:z9≠gy:=(by have:=(Cq HB8.out);have:=HG.out;omega);((refine((M8.out.2.2.below b9).Uj M8.out.1 M8.out.2.1 yN.out.2).mono ?_);rintro e w10 ⟨B1,d1,B2,d2,D',Qd2,kv',R',rfl,h1,h2,h3,h4⟩;have P10:=Hj h1;have HB10:=Hj (HB9.fr h2 (by have:=HG.out;omega));have Z10:=Hj ((h2.block z9 (Cq Z9) hgz).trans Z9);have xO:=Hj h3;have HS2:=Hj h4;clear Uu hz9 b9 Z9 HB9 hgz h1 h2 h3 h4))
     | (go_at_call 13;obtain⟨Xr,WZ⟩:∃W,W=w10.alloc (.cells #[.bool an,.slice B1 n1 d1,.slice B2 n2 d2] 59):=⟨_,rfl⟩;obtain⟨z11,ZU⟩:∃z,z=w10.heap.size:=⟨_,rfl⟩;rw[←WZ,←ZU];have b11:Bw w10 Xr:=(by rw[WZ];exact(aj _ w10).alloc Kv _);have ZV:Hid (Xr.heap[z11]?=some (.cells #[.bool an,.slice B1 n1 d1,.slice B2 n2 d2] 59 (0,0))):=Hj (by rw[WZ,ZU];exact aA w10 _);have HZ9:=Hj ((b11.block z9 (Cq Z10.out)).trans Z10.out);have B11:=Hj b11;have han:(an !=an)=false:=bne_self_eq_false _;obtain⟨a0,a1,a2⟩:=WX HZ9.out;obtain⟨v0,v1,v2⟩:=WX ZV.out;clear WZ ZU b11;((refine(DF Xr).mono ?_);rintro e w12 ⟨rfl,rfl⟩))
     | (go_at_call 16;(first
       | ((with_reducible refine(xO.out Xr B11.out).mono ?_);rintro e w12 ⟨rfl,hb⟩;have Bc:=Hj (B11.out.trans (hb.mono B11.out.size));clear a0 a1 a2 v0 v1 v2;obtain⟨a0,a1,a2⟩:=WX ((hb.block z9 (Cq HZ9.out)).trans HZ9.out);obtain⟨v0,v1,v2⟩:=WX ((hb.block z11 (Cq ZV.out)).trans ZV.out);clear hb)
       | (((with_reducible refine(HS2.out w12 Bc.out).mono ?_);rintro e wG ⟨rfl,hb⟩;have BG:=Hj (Bc.out.trans (hb.mono Bc.out.size));have HBG:=Hj (HB10.out.below BG.out);have PG:Hid (∃(D Qs Qd P:Nat→Prop) (tx c:Nat) (m:DM) (L:LM) (M:bQ) (kv:Value) (R:List (OV×aC)),PJ D w3 wG Qs Qd P g gs gd gx tx gy c (i+1) m L M K space all kv R):=Hj ⟨_,_,_,_,_,_,_,_,_,_,_,P10.out.below BG.out⟩;obtain⟨gxg,rfl⟩:∃x,x=gx:=⟨_,rfl⟩;clear a0 a1 a2 v0 v1 v2 y0 y1 y2 hb;obtain⟨y0,y1,y2⟩:=HBG.out.cells))))
     | fail)
   rotate_left
   focus
    go_wp2_with (first
     | (go_at_call 20;((refine(C7.out.copy yN.out.2 HK.out).mono ?_);rintro e w8 ⟨gxg,PL,rfl,hb,hs⟩;have HS8:=Hj hs;have HB8:=Hj (Z8.out.below hb);clear hb hs))
     | (go_at_call 11;((refine HS8.out.mono ?_);rintro e wG ⟨an,A1,n1,c1,A2,n2,c2,rfl,h1,h2⟩;have HBG:=Hj (HB8.out.fr h2 (by have:=HG.out;omega));have PG:Hid (∃(D Qs Qd P:Nat→Prop) (tx c:Nat) (m:DM) (L:LM) (M:bQ) (kv:Value) (R:List (OV×aC)),PJ D w3 wG Qs Qd P g gs gd gxg tx gy c (i+1) m L M K space all kv R):=Hj ⟨_,_,_,_,_,_,_,_,_,_,_,h1⟩;clear y0 y1 y2 h1 h2;obtain⟨y0,y1,y2⟩:=HBG.out.cells))
     | fail)
   rotate_left
   focus
    obtain⟨wG,rfl⟩:∃W,W=w7:=⟨_,rfl⟩
    obtain⟨gxg,rfl⟩:∃x,x=gx:=⟨_,rfl⟩
    have HBG:=Z8
    have PG:Hid (∃(D Qs Qd P:Nat→Prop) (tx c:Nat) (m:DM) (L:LM) (M:bQ) (kv:Value) (R:List (OV×aC)),PJ D w3 wG Qs Qd P g gs gd gxg tx gy c (i+1) m L M K space all kv R):=Hj ⟨_,_,_,_,_,_,_,_,_,_,_,C7.out⟩
   rotate_left
   all_goals
    obtain⟨D9,Qs9,Qd9,P9,tx9,c9,m9,L9,M9,kv9,R9,Z7⟩:=PG.out
    obtain⟨Ak,ck,hkv,-,-⟩:=ah.form Z7.pl.yk
    rw[aX] at hkv
    subst hkv
    have HP9:=Hj Z7
    have hrl:=(Z7.small yN.out.2).1
    have HRl:=Hj hrl
    obtain⟨nr,hnr⟩:∃r,r=R9.length:=⟨_,rfl⟩
    have HNr:=Hj hnr
    rw[←hnr] at HP9 hrl
    clear Z7 hnr
    go_wp2_with (first
     | (go_at_call 21;((refine(HP9.out.get a.o.space a.o.name Ux.out.1 Ux.out.2).mono ?_);rintro e w14 ⟨hb,v,rfl,AY⟩;have P14:=Hj (HP9.out.below hb);have HB14:=Hj (HBG.out.below hb);have HIO:=Hj AY;have g3:=(fun o=>Kq 3 (P14.out.below ((aj _ w14).alloc Kv o)).pl.yr);clear y0 y1 y2 hb AY))
     | fail)
    obtain⟨w15,W9⟩:∃W,W=w14.alloc (.cells (ov v) 37):=⟨_,rfl⟩
    obtain⟨zo,hzo⟩:∃z,z=w14.heap.size:=⟨_,rfl⟩
    obtain⟨bb,hbb⟩:∃b,b=R9.any (MO a.o.space a.o.name):=⟨_,rfl⟩
    obtain⟨gO,rfl⟩:∃k,k=gk:=⟨_,rfl⟩
    rw[←W9,←hzo,←hbb]
    have b15:Bw w14 w15:=by rw[W9];exact(aj _ w14).alloc Kv _
    have HZo:Hid (w15.heap[zo]?=some (.cells (ov v) 37 (0,0))):=Hj (by rw[W9,hzo];exact aA w14 _)
    have P15:=Hj (P14.out.below b15)
    have HB15:=Hj (HB14.out.below b15)
    have HV:Hid (∀x∈R9,MO a.o.space a.o.name x=true→dD w15 v x.2):=Hj fun x hx e=>(HIO.out x hx e).below b15
    have Uy:=Hj hbb
    clear g3 W9 hzo hbb b15
    go_loopg [21,167] nr (fun gk s21 s167 W=>∃j:Nat,s21=.bool ((R9.take j).any (MO a.o.space a.o.name))∧s167=.int .i64 (j:Int)∧j+gk=nr∧Bw w15 W)
    case atStart=>exact⟨0,by simp,rfl,by omega,aj _ _⟩
    case round=>
     obtain⟨j,rfl,rfl,hj,hbW⟩:=hrel
     have HJ:=Hj hj
     have ZW:=Hj hbW
     by_cases hlt:j<nr
     ·obtain ⟨x,hx⟩:∃x,R9[j]?=some x:=⟨_,fJ (by rw[←HNr.out];exact hlt)⟩
      have hkn:OL wr 0 (.slice Ak (R9.map Prod.fst).length ck) (R9.map Prod.fst):=by
       have:=(P15.out.below hbW).pl.yk
       rw[HNr.out] at this
       rw[aX]
       exact this
      obtain⟨kb,kf,rfl,d0,d1,d2,d3,d4⟩:=MI (i:=j) (x:=x.1) hkn (by rw[dK,hx];rfl)
      have HX:=Hj (Uk (p:=MO a.o.space a.o.name) hx)
      have U5:Hid (x∈R9∧dD wr x.1 x.2):=Hj ⟨gJ hx,(P15.out.below hbW).pl.yi x (gJ hx)⟩
      have z1:=fun o=>(HB15.out.below (hbW.alloc hbW.size o)).cells.2.1
      have z2:=fun o=>(HB15.out.below (hbW.alloc hbW.size o)).cells.2.2
      have Ye:∀o,VB (wr.alloc o) zo v:=fun o=>VB.aK (((hbW.alloc hbW.size o).block zo (Cq HZo.out)).trans HZo.out)
      have e0:=fun o=>(Ye o).1
      have e1:=fun o=>(Ye o).2.1
      have e2:=fun o=>(Ye o).2.2.1
      have e3:=fun o=>(Ye o).2.2.2.1
      have e4:=fun o=>(Ye o).2.2.2.2
      have k0:(0:Int)≤(j:Int):=by omega
      have k1:(j:Int)<(nr:Int):=by omega
      have k2:(j:Int)≤1000:=by omega
      have HLj:=Hj hlt
      have hmt:(x.1.space.toList==a.o.space.toList)=false∧MO a.o.space a.o.name x=false∨(x.1.space.toList==a.o.space.toList)=true∧(x.1.name.toList==a.o.name.toList)=false∧MO a.o.space a.o.name x=false∨(x.1.space.toList==a.o.space.toList)=true∧(x.1.name.toList==a.o.name.toList)=true∧MO a.o.space a.o.name x=true:=by
       unfold MO
       cases (x.1.space.toList==a.o.space.toList)<;>cases (x.1.name.toList==a.o.name.toList)<;>simp
      obtain⟨u,ob⟩:=x
      dsimp only at d0 d1 d2 d3 d4 hmt
      clear hj hbW hlt hx hkn Ye
      rcases hmt with ⟨f1,hm⟩ | ⟨f1,f2,hm⟩ | ⟨f1,f2,hm⟩
      all_goals
       have HM:=Hj hm
       clear hm
       go_wp2_with (first
        | (go_at_call 22;obtain⟨w16,hw16⟩:∃W,W=wr.alloc (.cells (ov u) 37):=⟨_,rfl⟩;have b16:Bw wr w16:=(by rw[hw16];exact(aj _ wr).alloc Kv _);rw[←hw16];((refine(Ik u v ob w16 (U5.out.2.below b16) ((HV.out _ U5.out.1 HM.out).below (ZW.out.trans (b16.mono ZW.out.size)))).mono ?_);rintro e w17 ⟨rfl,hb⟩;have B17:=Hj (ZW.out.trans ((b16.trans (hb.mono b16.size)).mono ZW.out.size));clear hb b16 hw16))
        | fail)
       go_roundg (gk-1)
       case measure=>have:=HJ.out;have:=HLj.out;omega
       case rel=>exact⟨j+1,by rw[HX.out,HM.out];simp,by go_num,by have:=HJ.out;have:=HLj.out;omega,by first | exact B17.out | exact ZW.out.alloc ZW.out.size _⟩
     ·obtain rfl:j=nr:=by omega
      have k1:¬(j:Int)<(j:Int):=by omega
      have hfull:R9.take j=R9:=fO (by rw[←HNr.out];exact bZ _)
      rw[hfull,←Uy.out]
      clear hj hbW hlt hfull
      have hnb:(bb !=bb)=false:=bne_self_eq_false _
      have HPw:=Hj (P15.out.below ZW.out)
      have g3:wr.cell? ⟨gy,3,none⟩=some (.slice Ak j ck):=Kq 3 HPw.out.pl.yr
      have g4:wr.cell? ⟨gy,4,none⟩=some (.int .i64 (c9:Int)):=Kq 4 HPw.out.pl.yr
      go_wp2
      go_region_held3 (fun w'=>w'.cell? ⟨gy,3,none⟩=some (.slice Ak j ck)∧w'.cell? ⟨gy,4,none⟩=some (.int .i64 (c9:Int))) (first | exact⟨by assumption,by assumption⟩ | go_keep) (first
       | (go_at_call 14;((refine(MF (HPw.out.below (bV (aj _ wr))).pl.xr).mono ?_);rintro e w18 ⟨rfl,rfl⟩))
       | (go_at_call 17;((refine((HPw.out.below (bV (aj _ wr))).known yN.out.2).mono ?_);rintro e w18 ⟨A8,n8,c8,rfl,hb8,hs8⟩;have HS8:=Hj hs8;have B18:=Hj hb8;have hpz:=(HPw.out.below (bV (aj _ wr))).below hb8;have g3:w18.cell? ⟨gy,3,none⟩=some (.slice Ak j ck):=Kq 3 hpz.pl.yr;have g4:w18.cell? ⟨gy,4,none⟩=some (.int .i64 (c9:Int)):=Kq 4 hpz.pl.yr;have HP18:=Hj hpz;clear hb8 hs8 hpz))
       | (go_at_call 16;((refine(HS8.out w18 (aj _ _)).mono ?_);rintro e w19 ⟨rfl,hb⟩;have hpz:=HP18.out.below hb;have g3:w19.cell? ⟨gy,3,none⟩=some (.slice Ak j ck):=Kq 3 hpz.pl.yr;have g4:w19.cell? ⟨gy,4,none⟩=some (.int .i64 (c9:Int)):=Kq 4 hpz.pl.yr;have HP19:=Hj hpz;clear hb hpz))
       | fail)
      all_goals
       go_wp2
       go_roundg (gO-1)
       case measure=>have:=HI.out;have:=yN.out;omega
       case rel=>exact⟨i+1,D9,Qs9,Qd9,P9,gxg,tx9,c9,m9,L9,M9,_,R9,rfl,by go_num,by have:=HI.out;have:=yN.out;omega,HP19.out⟩
  ·obtain rfl:i=n:=by omega
   have hbw:=B3.out.trans (WY.bel.mono B3.out.size)
   have Jq:=Hj hbw
   clear hi WY hlt TN hbw
   go_wp2
   go_ret
   exact⟨rfl,Jq.out⟩
theorem WatchPlays_any (kind:Int) (space:ByteArray) (all:Bool) (room:Int) (A:Option Addr) (n c:Nat) (l:List jo) (w:World) (hl:lM w A n l) (hn:n≤maxLen) (hE:EW w ea) (he:Errs w ea):
  Cl 5 #[.agg #[.int .i64 kind,.string space,.bool all],.int .i64 room,.slice A n c] w fun e w'=>e=.returned (.bool true)∧Bw w w':=by
 by_cases h1:ng l=true
 ·exact WatchPlays_no kind space all room A n c l w hl hn hE he (.inl h1)
 by_cases h2:100<space.size
 ·exact WatchPlays_no kind space all room A n c l w hl hn hE he (.inr (.inl h2))
 cases h3:jR kind space all with
 | false=>exact WatchPlays_no kind space all room A n c l w hl hn hE he (.inr (.inr h3))
 | true=>
  obtain⟨K,rfl,hk⟩:=IC h3 (by omega)
  exact WatchPlays_yes K space all room A n c l w hl hn hE he (by simpa using h1) hk h3
end
end Go.Proofs.YtdhbpajamlfacaaGreatDoor
