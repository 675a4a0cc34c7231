/- WatchKnows, walked. -/
import Derived.Test.YtdhbpajamlfacaaGreatDoorWl
import Derived.Test.YtdhbpajamlfacaaGreatDoorYa
namespace Go.Proofs.YtdhbpajamlfacaaGreatDoor
open Go.RowKit SO
/-- Two stores and two watchers, the second of which knows nothing yet. -/
structure Cj (w0 w:World) (Qs Qd P:Nat→Prop) (g gs gd gx tx cx gy ty:Nat) (m:DM) (L:LM) (M:aY) (kind:Int) (space:ByteArray) (Kx:List (ByteArray×aH)):Prop where
 two:Two w0 w Qs Qd g gs gd m L M
 xr:fA w gx tx kind space false cx
 xt:KT w P tx Kx
 yr:fA w gy ty kind space false 0
 yt:w.heap[ty]?=some (.cells #[.pointer none] 146 (0,0))
 dq:∀k,Qs k∨Qd k→k≠gx∧k≠tx∧k≠gy∧k≠ty∧¬P k
 pl:∀k,P k→k<w.heap.size
 up:w0.heap.size≤gx∧w0.heap.size≤tx∧w0.heap.size≤gy∧w0.heap.size≤ty
 ne:gx≠gy∧tx≠ty
 np:¬P gy∧¬P ty
section
variable {w w' w0:World} {Qs Qd P:Nat→Prop} {g gs gd gx tx QU cx cx' gy ty gw gt:Nat} {m m':DM} {L L':LM} {M M':aY} {kind:Int} {space:ByteArray} {Kx K':List (ByteArray×aH)} {ea:Nat→Addr}
theorem Cj.below (h:Cj w0 w Qs Qd P g gs gd gx tx cx gy ty m L M kind space Kx) (hb:Below w.heap.size w w'):Cj w0 w' Qs Qd P g gs gd gx tx cx gy ty m L M kind space Kx:=
 ⟨h.two.below hb,(hb.block gx (Cq h.xr)).trans h.xr,h.xt.below hb,(hb.block gy (Cq h.yr)).trans h.yr,(hb.block ty (Cq h.yt)).trans h.yt,h.dq,fun k hk=>Nat.lt_of_lt_of_le (h.pl k hk) hb.size,h.up,h.ne,h.np⟩
theorem Cj.step (h:Cj w0 w Qs Qd P g gs gd gx tx cx gy ty m L M kind space Kx) (hs:Step w0 w w' Qs Qd g gs gd m' L' M'):∃qm qo,Cj w0 w' qm qo P g gs gd gx tx cx gy ty m' L' M' kind space Kx:=by
 obtain⟨qm,qo,h1,h2,h3,h4⟩:=hs
 have a1:=(Cq h.xr)
 have a2:=(Cq h.yr)
 have a3:=(Cq h.yt)
 have a4:tx<w.heap.size:=let ⟨_,ht⟩:=h.xt.row;(Cq ht)
 refine⟨qm,qo,h1,(h2.block gx a1 fun hx=>(h.dq gx hx.1).1 rfl).trans h.xr,h.xt.fr h2 fun k hk=>⟨hk.2,(h.dq k hk.1).2.1,(h.dq k hk.1).2.2.2.2⟩,(h2.block gy a2 fun hx=>(h.dq gy hx.1).2.2.1 rfl).trans h.yr,(h2.block ty a3 fun hx=>(h.dq ty hx.1).2.2.2.1 rfl).trans h.yt,fun k hk=> ?_,fun k hk=>Nat.lt_of_lt_of_le (h.pl k hk) h2.size,h.up,h.ne,h.np⟩
 have hk2:(Qs k∨Qd k)∨w.heap.size≤k:=hk.elim (fun hk=>(h3 k hk).imp .inl id) fun hk=>(h4 k hk).imp .inr id
 rcases hk2 with hk | hk
 ·exact h.dq k hk
 ·exact ⟨by omega,by omega,by omega,by omega,fun hp=>by have:=h.pl k hp;omega⟩
/-- A Sync leaves the stores. -/
theorem Two.sync (h:Two w0 w Qs Qd g gs gd m L M) (hf:Fr (fun k=>k=gw∨k=gt) w w') (hw:∀k,Qs k∨Qd k→k≠gw∧k≠gt) (hu:w0.heap.size≤gw∧w0.heap.size≤gt) {cw ct:Array Value} (hr:w.heap[gw]?=some (.cells cw 85 (0,0))) (ht:w.heap[gt]?=some (.cells ct 146 (0,0))):Two w0 w' Qs Qd g gs gd m L M:=by
 have hX:∀k,Qs k∨Qd k→¬(k=gw∨k=gt):=fun k hk e=>e.elim (hw k hk).1 (hw k hk).2
 have hU:∀k,k=gw∨k=gt→w0.heap.size≤k:=fun k e=>by rcases e with rfl | rfl;exact hu.1;exact hu.2
 exact⟨h.s.fr hf (fun k hk=>hX k (.inl hk)) hU fun k e=>by rcases e with rfl | rfl;exact ay.of hr (by decide);exact ay.of ht (by decide),h.d.fr hf (fun k hk=>hX k (.inr hk)) hU,h.Xz⟩
theorem Cj.sync (h:Cj w0 w Qs Qd P g gs gd gx tx cx gy ty m L M kind space Kx) (hf:Fr (fun k=>k=gx∨k=tx) w w') (hr:fA w' gx QU kind space false cx') (hk:KT w' (fun k=>P k∨w.heap.size≤k) QU K') (ht:QU=tx∨w.heap.size≤QU):Cj w0 w' Qs Qd (fun k=>(P k∨w.heap.size≤k)∧k<w'.heap.size) g gs gd gx QU cx' gy ty m L M kind space K':=by
 obtain⟨p,hx⟩:=h.xt.row
 have a1:=(Cq h.yr)
 have a2:=(Cq h.yt)
 have hlt:∀k,Qs k∨Qd k→k<w.heap.size:=fun k hk=>hk.elim (h.two.s.hi k) (h.two.d.hi k)
 have hbel:=h.two.s.bel.size
 refine⟨h.two.sync hf (fun k hk=>⟨(h.dq k hk).1,(h.dq k hk).2.1⟩) ⟨h.up.1,h.up.2.1⟩ h.xr hx,hr,hk.mono fun k hk hl=>⟨hk,hl⟩,(hf.block gy a1 fun e=> ?_).trans h.yr,(hf.block ty a2 fun e=> ?_).trans h.yt,fun k hk=> ?_,fun k hk=>hk.2,⟨h.up.1,?_,h.up.2.2⟩,⟨h.ne.1,?_⟩,⟨fun e=>e.1.elim h.np.1 fun e=>by omega,fun e=>e.1.elim h.np.2 fun e=>by omega⟩⟩
 ·rcases e with e | e
  ·exact h.ne.1 e.symm
  ·have:=h.yr;rw[e] at this;exact absurd (aj this hx) (by decide)
 ·rcases e with e | e
  ·have:=h.yt;rw[e] at this;exact absurd (aj this h.xr) (by decide)
  ·exact h.ne.2 e.symm
 ·have h1:=hlt k hk
  obtain⟨d1,d2,d3,d4,d5⟩:=h.dq k hk
  exact⟨d1,by rcases ht with rfl | ht;exact d2;omega,d3,d4,fun e=>e.1.elim d5 fun e=>by omega⟩
 ·have:=h.up.2.1;rcases ht with rfl | ht<;>omega
 ·have:=h.ne.2;rcases ht with rfl | ht<;>omega
theorem longs {l:List iV} {A:Option Addr} {n:Nat} (hl:kG w A n l) (h:kH l=false):n≤40∧∀a∈l,a.o.space.size≤100∧a.o.name.size≤100:=by
 unfold kH at h
 rw[Bool.or_eq_false_iff] at h
 refine⟨by have:=of_decide_eq_false h.1;have:=hl.1;omega,fun a ha=> ?_⟩
 have h2:iw a=false:=by
  cases hq:iw a with
  | false=>rfl
  | true=>have:=List.any_eq_true.2 ⟨a,ha,hq⟩;rw[h.2] at this;cases this
 unfold iw at h2
 rw[Bool.or_eq_false_iff,Bool.or_eq_false_iff] at h2
 have:=of_decide_eq_false h2.2.1
 have:=of_decide_eq_false h2.2.2
 omega
theorem UG {K:Nat} {S:ByteArray} (h:M.Ok) {x:ByteArray×aH} (hx:x∈lG K S M.tab):x.2.data.length≤1000000:=by
 obtain⟨y,hy,rfl⟩:=List.mem_map.1 hx
 have:=(h.tab.each y (List.mem_filter.1 hy).1).2.1.data
 show y.2.data.length≤_
 omega
theorem Cm {K:Nat} {S:ByteArray}:(lG K S M.tab).length≤M.tab.length:=by unfold lG;rw[List.length_map];exact List.length_filter_le _ _
/-- A Sync of one who goes on. -/
theorem Cj.goes {K:Nat} {i:Nat} (h:Cj w0 w Qs Qd P g gs gd gx tx cx gy ty m L M (K:Int) space Kx) (hi:dH m L M i) (hl:i≤60) (hx:xP K space M cx Kx) (hb:M.base≤cx) (hKx:Kx.length≤90) (hK:K≤7) (hS:oI space) (hz:space.size≤100):
  Calls Tryz.prog 11 #[.pointer (some ⟨gx,0,none⟩),.pointer (some ⟨gs,0,none⟩)] w fun e w'=>∃an A1 n1 c1 A2 n2 c2 P' QU,e=.returned (.tuple #[.agg #[.bool an,.slice A1 n1 c1,.slice A2 n2 c2],.nilIface])∧Cj w0 w' Qs Qd P' g gs gd gx QU M.rev gy ty m L M (K:Int) space (lG K space M.tab):=by
 obtain⟨f1,f2,f3,f4,f5,f6,f7,f8⟩:=hi.facts (by omega)
 refine(rD h.two.s h.xr h.xt hx.1 (fun e=>by omega) (by omega) (by omega) (by omega) (.inl rfl) (by omega) (by omega)).mono ?_
 rintro e w' ⟨an,pv,dv,eX,K',lp,ld,rfl,h1,h2,h3,h4,h5,h6,h7⟩
 obtain⟨A1,c1,rfl,-,-⟩:=h1.form
 obtain⟨A2,c2,rfl,-,-⟩:=h2.form
 obtain rfl:=hx.sync hi.ok h7 hK hS
 exact⟨an,A1,_,c1,A2,_,c2,_,eX,rfl,h.sync h5 h3 h4 h6⟩
/-- .. and behind the other's Sync. -/
structure UH (w0 w:World) (Q Px Py:Nat→Prop) (g gs gx tx gy ty:Nat) (m:DM) (L:LM) (M:aY) (kind:Int) (space:ByteArray) (kn:List (ByteArray×aH)):Prop where
 s:SW w0 w Q g m gs L M
 xr:fA w gx tx kind space false M.rev
 xt:KT w Px tx kn
 yr:fA w gy ty kind space false M.rev
 yt:KT w Py ty kn
theorem UH.below {Q Px Py:Nat→Prop} {kn:List (ByteArray×aH)} (h:UH w0 w Q Px Py g gs gx tx gy ty m L M kind space kn) (hb:Below w.heap.size w w'):UH w0 w' Q Px Py g gs gx tx gy ty m L M kind space kn:=
 ⟨h.s.below hb,(hb.block gx (Cq h.xr)).trans h.xr,h.xt.below hb,(hb.block gy (Cq h.yr)).trans h.yr,h.yt.below hb⟩
theorem Cj.last {K:Nat} {i:Nat} (h:Cj w0 w Qs Qd P g gs gd gx tx M.rev gy ty m L M (K:Int) space (lG K space M.tab)) (hi:dH m L M i) (hl:i≤60) (hy:xP K space M 0 []) (hK:K≤7) (hS:oI space) (hz:space.size≤100):
  Calls Tryz.prog 11 #[.pointer (some ⟨gy,0,none⟩),.pointer (some ⟨gs,0,none⟩)] w fun e w'=>∃an A1 n1 c1 A2 n2 c2 Py ty',e=.returned (.tuple #[.agg #[.bool an,.slice A1 n1 c1,.slice A2 n2 c2],.nilIface])∧UH w0 w' Qs P Py g gs gx tx gy ty' m L M (K:Int) space (lG K space M.tab):=by
 obtain⟨f1,f2,f3,f4,f5,f6,f7,f8⟩:=hi.facts (by omega)
 refine(rD (P:=fun _=>False) h.two.s h.yr (KT.nil h.yt) (Nat.zero_le _) (fun _=>rfl) (by omega) (by omega) (by omega) (.inl rfl) (by omega) (by simp only[List.length_nil];omega)).mono ?_
 rintro e w' ⟨an,pv,dv,eX,K',lp,ld,rfl,h1,h2,h3,h4,h5,h6,h7⟩
 obtain⟨A1,c1,rfl,-,-⟩:=h1.form
 obtain⟨A2,c2,rfl,-,-⟩:=h2.form
 obtain rfl:=hy.sync hi.ok h7 hK hS
 obtain⟨p,hx⟩:=h.xt.row
 refine⟨an,A1,_,c1,A2,_,c2,_,eX,rfl,(h.two.sync h5 (fun k hk=>⟨(h.dq k hk).2.2.1,(h.dq k hk).2.2.2.1⟩) h.up.2.2 h.yr h.yt).s,(h5.block gx (Cq h.xr) fun e=> ?_).trans h.xr,h.xt.fr h5 fun k hk=> ?_,h3,h4⟩
 ·rcases e with e | e
  ·exact h.ne.1 e
  ·have:=h.xr;rw[e] at this;exact absurd (aj this h.yt) (by decide)
 ·rcases hk with rfl | rfl
  ·exact ⟨ay.of h.yr (by decide),fun e=>by have:=h.yr;rw[e] at this;exact absurd (aj this hx) (by decide),h.np.1⟩
  ·exact ⟨ay.of h.yt (by decide),fun e=>h.ne.2 e.symm,h.np.2⟩
theorem UH.list {Q Px Py:Nat→Prop} {K i:Nat} {kn:List (ByteArray×aH)} (h:UH w0 w Q Px Py g gs gx tx gy ty m L M (K:Int) space kn) (hi:dH m L M i) (hl:i≤60) (hK:K≤7) (hz:space.size≤100):
  Calls Tryz.prog 15 #[.pointer (some ⟨gs,0,none⟩),.int .i64 (K:Int),.string space] w fun e w'=>∃A n c,e=.returned (.slice A n c)∧OS w' w.heap.size (.slice A n c) ((lG K space M.tab).map fun x=>x.2)∧n=((lG K space M.tab).map fun x=>x.2).length∧Below w.heap.size w w':=by
 have f5:=(hi.facts (by omega)).2.2.2.2.1
 refine(DY (K:Int) space h.s (by omega) (by omega) (by omega)).mono ?_
 rintro e w' ⟨v,os,rfl,h1,h2,h3,h4⟩
 have ho:=OS.BU h1 h2 h3
 have e2:(span aJ (bF (dZ (K:Int) space)) (bF (yP (K:Int) space)) M.tab).map (fun x=>x.2)=(lG K space M.tab).map fun x=>x.2:=QT (M:=M)
 rw[e2] at ho
 obtain⟨A,c,rfl,-,-⟩:=ho.form
 exact⟨A,_,c,rfl,ho,rfl,h4⟩
end
end Go.Proofs.YtdhbpajamlfacaaGreatDoor
