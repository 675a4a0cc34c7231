/- Changes, plainly: they are functions of what is there; what holds behind some of them. -/
import Derived.Test.YtdhbpajamlfacaaGreatDoorWc
set_option maxHeartbeats 8000000
set_option maxRecDepth 100000
namespace Go.Proofs.YtdhbpajamlfacaaGreatDoor
open Go.RowKit SO
section
variable {m m' m2:DM} {L L' L2:LM} {M M' M2:bQ} {e:Bool×aC} {n E n2 E2 p:Nat}
theorem Nb.same (h:Nb M L m e n E M' L' m') (k:Nb M L m e n2 E2 M2 L2 m2):n=n2∧E=E2∧M'=M2∧L'=L2∧m'=m2:=by
 rcases h with ⟨h0,rfl,rfl,rfl,rfl,rfl⟩ | ⟨h0,⟨h1,rfl,rfl,rfl,rfl,rfl⟩ | ⟨h1,⟨h2,rfl,rfl,rfl,rfl,rfl⟩ | ⟨h2,L1,m1,rfl,rfl,⟨h3,rfl,rfl,rfl,rfl,rfl⟩ | ⟨h3,rfl,rfl,rfl,rfl,rfl⟩⟩⟩⟩<;>
  rcases k with ⟨k0,rfl,rfl,rfl,rfl,rfl⟩ | ⟨k0,⟨k1,rfl,rfl,rfl,rfl,rfl⟩ | ⟨k1,⟨k2,rfl,rfl,rfl,rfl,rfl⟩ | ⟨k2,L1,m1,rfl,rfl,⟨k3,rfl,rfl,rfl,rfl,rfl⟩ | ⟨k3,rfl,rfl,rfl,rfl,rfl⟩⟩⟩⟩<;>
  first | (exfalso;omega) | (with_reducible exact⟨rfl,rfl,rfl,rfl,rfl⟩)
theorem Puts.same (h:Puts M L m p e n E M' L' m') (k:Puts M L m p e n2 E2 M2 L2 m2):n=n2∧E=E2∧M'=M2∧L'=L2∧m'=m2:=by
 rcases h with ⟨h0,rfl,rfl,rfl,rfl,rfl⟩ | ⟨h0,h⟩<;>rcases k with ⟨k0,rfl,rfl,rfl,rfl,rfl⟩ | ⟨k0,k⟩
 ·exact ⟨rfl,rfl,rfl,rfl,rfl⟩
 ·exact absurd k0 h0
 ·exact absurd h0 k0
 ·exact Nb.same h k
theorem TD (M:bQ) (e:Bool×aC):(M.app e).tab.length≤M.tab.length+1:=by
 unfold bQ.app
 split
 ·show (rem aS _ M.tab).length≤_
  rw[yX]
  split<;>omega
 ·show (ins aS _ _ M.tab).length≤_
  rw[kC]
  split<;>omega
/-- What holds behind i calls. -/
structure eX (M:bQ) (i:Nat):Prop where
 ok:M.Ok
 rev:M.rev≤i
 tab:M.tab.length≤i
theorem eX.mono {i j:Nat} (h:eX M i) (hi:i≤j):eX M j:=⟨h.ok,Cz h.rev hi,Cz h.tab hi⟩
theorem eX.fresh {i:Nat} (h:eX M i) (hi:i≤80):eX M.fresh i:=⟨bQ.Bo h.ok.tab (by have:=h.rev;omega),h.rev,h.tab⟩
theorem eX.start:eX st0 0:=⟨bQ.Bo (wu.nil 0) (by decide),bZ _,bZ _⟩
/-- What the calls ask for. -/
theorem eX.facts {i:Nat} (h:eX M i) (hi:i≤80):M.rev<1099511627776∧M.tab.length≤90∧M.evs.length≤100000∧M.rev≤i∧M.evs.length≤i:=by
 have h3:=h.rev
 have h4:=h.tab
 have h5:=h.ok.num
 omega
theorem eX.app {i:Nat} {e:Bool×aC} (h:eX M i) (hc:M.Can e):eX (M.app e) (i+1):=by
 have h1:=hc.ver
 have h2:=h.rev
 have h3:=TD M e
 have h4:=h.tab
 exact⟨h.ok.app hc,by rw[xI];omega,by omega⟩
theorem pq {a b:ByteArray} (h:aS a b=true):a≠b:=fun e=>by rw[e,dh.Ut] at h;cases h
theorem zG {α:Type} {k:ByteArray} {v:α}:∀{l:List (ByteArray×α)},aT aS l→∀y,y∈ins aS k v l↔y=(k,v)∨(y∈l∧y.1≠k)
 | [],_,y=>by simp[ins]
 | x::l,h,y=>by
  have hx:=(List.pairwise_cons.1 h).1
  unfold ins
  by_cases h1:aS k x.1=true
  ·rw [aF h1,fC]
   refine or_congr Iff.rfl ⟨fun hy=>⟨hy,?_⟩,fun hy=>hy.1⟩
   rcases fC.1 hy with rfl | hy
   ·exact (pq h1).symm
   ·exact (pq (dh.tr _ _ _ h1 (hx y hy))).symm
  ·rw [aG h1]
   by_cases h2:aS x.1 k=true
   ·rw [aF h2,fC,zG h.tail y,fC]
    refine⟨?_,?_⟩
    ·rintro (rfl | rfl | ⟨hy,hn⟩)
     ·exact .inr ⟨.inl rfl,pq h2⟩
     ·exact .inl rfl
     ·exact .inr ⟨.inr hy,hn⟩
    ·rintro (rfl | ⟨rfl | hy,hn⟩)
     ·exact .inr (.inl rfl)
     ·exact .inl rfl
     ·exact .inr (.inr ⟨hy,hn⟩)
   ·have e:=dh.tri _ _ (by simpa using h2) (by simpa using h1)
    rw[aG h2,fC,fC]
    refine or_congr Iff.rfl ⟨fun hy=>⟨.inr hy,?_⟩,fun⟨hy,hn⟩=>hy.resolve_left fun e'=>hn (by rw[e'];exact e)⟩
    rw[←e]
    exact(pq (hx y hy)).symm
theorem Ib {α:Type} {k:ByteArray} {y:ByteArray×α}:∀{l:List (ByteArray×α)},y∈l→y.1≠k→y∈rem aS k l
 | x::l,h,hn=>by
  unfold rem
  by_cases h1:aS k x.1=true
  ·rw [aF h1];exact h
  ·rw [aG h1]
   by_cases h2:aS x.1 k=true
   ·rw [aF h2]
    exact(fC.1 h).elim (fun e=>fC.2 (.inl e)) fun h=>gK _ (Ib h hn)
   ·rw [aG h2]
    exact(fC.1 h).resolve_left fun e=>hn (by rw[e];exact dh.tri _ _ (by simpa using h2) (by simpa using h1))
theorem Ic (o:aC):aS (aW o) (dG (gU (o.kind:Int) o.space))=false∧aS (aW o) (dG (IG (o.kind:Int) o.space))=true:=by
 unfold aS aW jr
 rw[aO,aO,aO]
 have h1:gU (o.kind:Int) o.space++o.name.data.toList=(jh (o.kind:Int)++[47]++o.space.data.toList)++47::o.name.data.toList:=by simp[gU]
 rw[h1]
 exact RF _ _
theorem zH {a b:aC} (ha:a.Ok) (hb:b.Ok) (h:aW a=aW b):a.kind=b.kind∧a.space=b.space∧a.name=b.name:=by
 obtain⟨s1,s2⟩:=Ic b
 rw[←h] at s1 s2
 obtain⟨k1,k2⟩:=Jr ha hb.parts.2.1 (oO hb.named) s1 s2
 refine⟨k1,k2,?_⟩
 have e:=bJ ByteArray.toList h
 unfold aW jr at e
 rw[aO,aO,k1,k2] at e
 exact kG (Array.toList_inj.1 (List.append_cancel_left e))
theorem Ie {kind:Int} {space name:ByteArray} {o:aC} (h:M.Ok) (hg:getM M kind space name=some o):(aW o,o)∈M.tab∧(o.kind:Int)=kind∧o.space=space∧o.name=name:=by
 unfold getM at hg
 split at hg
 ·rename_i o' ho
  split at hg
  ·rename_i hc
   injection hg with hg
   subst hg
   have hm:=nX dh ho
   have hk:=(h.tab.each _ hm).1
   dsimp only at hk
   refine⟨by rw[←hk];exact hm,hc.1,hc.2,?_⟩
   have e:=bJ ByteArray.toList hk
   unfold aW jr at e
   rw[aO,aO,hc.1,hc.2] at e
   exact(kG (Array.toList_inj.1 (List.append_cancel_left e))).symm
  ·cases hg
 ·cases hg
/-- What lies in a namespace: it is there. -/
def vN (T:List (ByteArray×aC)):Prop:=∀x∈T,fV (x.2.kind:Int)=true→∃y∈T,y.2.kind=1∧y.2.space=⟨#[]⟩∧y.2.name=x.2.space
theorem vN.app (h:M.Ok) (hc:M.Can e) (h1:e.1=false→fV (e.2.kind:Int)=true→vN M.tab→∃y∈M.tab,y.2.kind=1∧y.2.space=⟨#[]⟩∧y.2.name=e.2.space) (h2:e.1=true→e.2.kind=1→∀x∈M.tab,fV (x.2.kind:Int)=true→x.2.space≠e.2.name) (hn:vN M.tab):vN (M.app e).tab:=by
 unfold bQ.app
 cases he:e.1 with
 | false=>
  have hm:=zG (k:=aW e.2) (v:=e.2) h.tab.tH
  have hk:∀y∈M.tab,∃z∈ins aS (aW e.2) e.2 M.tab,z.2.kind=y.2.kind∧z.2.space=y.2.space∧z.2.name=y.2.name:=fun y hy=>by
   by_cases e1:y.1=aW e.2
   ·obtain ⟨i1,i2,i3⟩:=zH (h.tab.each y hy).2.1 hc.ok ((h.tab.each y hy).1.symm.trans e1)
    exact⟨(aW e.2,e.2),(hm _).2 (.inl rfl),i1.symm,i2.symm,i3.symm⟩
   ·exact ⟨y,(hm y).2 (.inr ⟨hy,e1⟩),rfl,rfl,rfl⟩
  intro x hx hi
  have ⟨y,hy,y1,y2,y3⟩:∃y∈M.tab,y.2.kind=1∧y.2.space=⟨#[]⟩∧y.2.name=x.2.space:=by
   rcases(hm x).1 hx with rfl | ⟨hx,-⟩
   ·exact h1 he hi hn
   ·exact hn x hx hi
  obtain⟨z,hz,z1,z2,z3⟩:=hk y hy
  exact⟨z,hz,z1.trans y1,z2.trans y2,z3.trans y3⟩
 | true=>
  intro x hx hi
  have hx:=mM.subset hx
  obtain⟨y,hy,y1,y2,y3⟩:=hn x hx hi
  refine⟨y,Ib hy fun e1=> ?_,y1,y2,y3⟩
  obtain⟨i1,i2,i3⟩:=zH (h.tab.each y hy).2.1 hc.ok ((h.tab.each y hy).1.symm.trans e1)
  exact h2 he (i1.symm.trans y1) x hx hi (y3.symm.trans i3)
/-- What one call makes of a store. -/
def Turn (M M':bQ):Prop:=∃X,(X=M∨X=M.fresh)∧(M'=X∨∃e,X.Can e∧(vN X.tab→vN (X.app e).tab)∧M'=X.app e)
theorem TF (h:vN M.tab→vN (M.app e).tab):vN M.fresh.tab→vN (M.fresh.app e).tab:=by
 unfold bQ.app at h ⊢
 split<;>(rename_i he;simp only[he] at h;exact h)
theorem Turn.ns (h:Turn M M') (hn:vN M.tab):vN M'.tab:=by
 obtain⟨X,hX,hM⟩:=h
 have hx:vN X.tab:=by
  rcases hX with rfl | rfl
  ·exact hn
  ·exact hn
 rcases hM with rfl | ⟨e,-,h,rfl⟩
 ·exact hx
 ·exact h hx
theorem Turn.refl (M:bQ):Turn M M:=⟨M,.inl rfl,.inl rfl⟩
theorem eX.call {i:Nat} (h:eX M i) (hi:i≤80) (hc:p=0→M.Can e∧(vN M.tab→vN (M.app e).tab)) (hp:p≤24) (hP:Puts M L m p e n E M' L' m'):(eX M' (i+1)∧Turn M M')∧E≤28:=by
 have fr:=h.fresh hi
 have hm:eX M (i+1):=h.mono (by omega)
 rcases hP with ⟨-,-,h2,h3,-,-⟩ | ⟨h1,hC⟩
 ·rw [h2,h3]
  exact⟨⟨hm,Turn.refl _⟩,by omega⟩
 ·obtain ⟨c1,c2⟩:=hc h1
  rcases hC with ⟨hr,rfl,rfl,rfl,rfl,rfl⟩ | ⟨_,⟨h0,rfl,rfl,rfl,rfl,rfl⟩ | ⟨_,⟨_,rfl,rfl,rfl,rfl,rfl⟩ | ⟨_,L1,m1,rfl,rfl,⟨_,rfl,rfl,rfl,rfl,rfl⟩ | ⟨_,rfl,rfl,rfl,rfl,rfl⟩⟩⟩⟩
  ·exact ⟨⟨hm,Turn.refl _⟩,by decide⟩
  ·exact ⟨⟨h.app c1,M,.inl rfl,.inr ⟨e,c1,c2,rfl⟩⟩,by decide⟩
  ·exact ⟨⟨hm,Turn.refl _⟩,by decide⟩
  ·exact ⟨⟨fr.app (qL c1),M.fresh,.inr rfl,.inr ⟨e,qL c1,TF c2,rfl⟩⟩,by decide⟩
  ·exact ⟨⟨fr.mono (by omega),M.fresh,.inr rfl,.inl rfl⟩,by decide⟩
theorem eX.cre {i:Nat} {v:OV} {data:List UInt8} (h:eX M i) (hi:i≤80) (hd:v.n=data.length) (hP:Puts M L m (jS M v) (false,fU M v data) n E M' L' m'):(eX M' (i+1)∧Turn M M')∧E≤28:=
 h.call hi (fun h0=>by
  obtain⟨hc,hk⟩:=kK (M:=M) (CP h0) hd (h.facts hi).1
  refine⟨hc,vN.app h.ok hc (fun _ h5 _=> ?_) fun e=>by cases e⟩
  rw[←hk] at h5
  unfold jS at h0
  rw[aF (CP h0),h5] at h0
  cases hg:getM M 1 ⟨#[]⟩ v.space with
  | none=>rw[hg,aF ⟨rfl,rfl⟩] at h0;cases h0
  | some o=>
   obtain⟨g1,g2,g3,g4⟩:=Ie h.ok hg
   exact⟨_,g1,by dsimp only;omega,g3,g4⟩) (Wl M v) hP
theorem eX.upd {i:Nat} {v:OV} {data:List UInt8} (h:eX M i) (hi:i≤80) (hd:v.n=data.length) (hP:Puts M L m (oC M v) (false,fU M v data) n E M' L' m'):(eX M' (i+1)∧Turn M M')∧E≤28:=
 h.call hi (fun h0=>by
  obtain⟨hc,hk⟩:=kK (M:=M) (CQ h0) hd (h.facts hi).1
  refine⟨hc,vN.app h.ok hc (fun _ h5 hn=> ?_) fun e=>by cases e⟩
  unfold oC at h0
  rw[aF (CQ h0)] at h0
  unfold gV at h0
  cases hg:getM M v.kind v.space v.name with
  | none=>rw[hg] at h0;cases h0
  | some o=>
   obtain⟨g1,g2,g3,g4⟩:=Ie h.ok hg
   rw[←hk,←g2] at h5
   obtain⟨y,y0,y1,y2,y3⟩:=hn _ g1 h5
   exact⟨y,y0,y1,y2,y3.trans g3⟩) (Wn M v) hP
theorem eX.del {i:Nat} {v:OV} (h:eX M i) (hi:i≤80) (hP:Puts M L m (mG M v) (true,fU M v []) n E M' L' m'):(eX M' (i+1)∧Turn M M')∧E≤28:=
 h.call hi (fun h0=>by
  obtain⟨hc,hk⟩:=yB (M:=M) (vK h0).1 (vK h0).2 (h.facts hi).1
  refine⟨hc,vN.app h.ok hc (fun e=>by cases e) fun _ h1 x hx h5 he=> ?_⟩
  have hv:v.kind=1:=by rw[hk,h1];rfl
  obtain⟨z1,z2⟩:=vK h0
  unfold mG at h0
  rw[aF z1,aF z2] at h0
  have hu:tZ M v=true:=by
   have hx1:∀K:Int,(x.2.kind:Int)=K→0<jW M K v.name:=fun K e=>by
    obtain⟨s1,s2⟩:=Ic x.2
    have e2:x.2.space=v.name:=he
    rw[e,e2] at s1 s2
    rw[Gn,Int.natCast_pos]
    refine List.length_pos_of_mem (a:=x) (jB.2 ⟨hx,?_⟩)
    rw[(h.ok.tab.each x hx).1,s1,s2]
    rfl
   unfold tZ
   unfold fV at h5
   rw[Bool.or_eq_true,lD,lD] at h5 ⊢
   exact h5.imp (hx1 5) (hx1 6)
  rw[aF ⟨hv,hu⟩] at h0
  cases h0) (Wp M v) hP
end
theorem All0 (A:Option Addr) (c:Nat) (w:World):Cl 105 #[.slice A 0 c] w fun e w'=>e=.returned (.tuple #[.slice none 0 0,.nilIface])∧w=w':=by
 go_enter Tryz.func105,Tryz.ntmps105
 go_wp2
 go_loopg [0,4] 0 (fun _ s0 s4 wr=>s0=.slice A 0 c∧s4=.slice none 0 0∧wr=w)
 case atStart=>exact⟨rfl,rfl,rfl⟩
 case round=>
  obtain⟨rfl,rfl,rfl⟩:=hrel
  go_wp2
  exact bg (eG rfl _ _ _) rfl ⟨rfl,rfl⟩
theorem Zy (a:Addr) (A:Option Addr) (c:Nat) (w:World):Cl 62 #[.pointer (some a),.slice A 0 c] w fun e w'=>e=.returned .nilIface∧w=w':=by
 go_enter Tryz.func62,Tryz.ntmps62
 go_wp2_with (first
  | (go_at_call 105;refine(All0 _ _ _).mono ?_;rintro e w' ⟨rfl,rfl⟩)
  | fail)
 go_ret
 exact⟨rfl,rfl⟩
theorem snap0 (gl:Nat) (A:Option Addr) (c:Nat) (w:World) (h:w.cell? ⟨gl,3,none⟩=some (.slice A 0 c)):Cl 63 #[pt gl] w fun e w'=>∃A2 c2,e=.returned (.slice A2 0 c2)∧Bw w w':=by
 go_enter Tryz.func63,Tryz.ntmps63
 go_wp2_with (first
  | (go_at_call 94;refine(dU _ _ _ [] _ ⟨rfl,fun h=>absurd h (by decide)⟩ (by decide)).mono ?_;rintro e w' ⟨A2,c2,rfl,hv,hbv⟩)
  | fail)
 go_ret
 exact⟨A2,c2,rfl,hbv⟩
theorem recs0 (gl:Nat) (A:Option Addr) (c:Nat) (w:World) (h:w.cell? ⟨gl,4,none⟩=some (.slice A 0 c)):Cl 64 #[pt gl] w fun e w'=>e=.returned (.slice none 0 0)∧w=w':=by
 go_enter Tryz.func64,Tryz.ntmps64
 go_wp2
 go_loopg [3,11] 0 (fun _ s3 s11 wr=>s3=.slice none 0 0∧s11=.int .i64 0∧wr=w)
 case atStart=>exact⟨rfl,rfl,rfl⟩
 case round=>
  obtain⟨rfl,rfl,rfl⟩:=hrel
  go_wp2
  go_ret
  exact⟨rfl,rfl⟩
section
variable {w w0:World} {S:Nat→Prop} {g gl:Nat} {d:DK} {m:DM} {room:Int}
theorem DS.dd (h:DS w0 w g d) (hq:Quiet d m):DD w0 w (fun k=>w0.heap.size≤k∧k<w.heap.size) g m:=by
 obtain⟨O,⟨bv,wv,ws,hd⟩,ho,hb⟩:=h
 exact⟨⟨fun k=>O k∧k<w.heap.size,d,⟨bv,wv,ws,hd.mono fun k hk h=>⟨h,hk⟩⟩,hq,fun k hk=>⟨ho k hk.1,hk.2⟩⟩,fun k hk=>hk.1,fun k hk=>hk.2,hb⟩
theorem Zz (h:DD w0 w S g ⟨room,fun _=>0⟩) (hF:Fit ⟨room,fun _=>0⟩ ⟨0,1,[]⟩):
  Cl 25 #[pt g] w fun e w'=>∃gs,e=.returned (.tuple #[pt gs,.nilIface])∧SW w0 w' (ext S w w') g ⟨room,fun _=>0⟩ gs ⟨0,1,[]⟩ st0∧Bw w w':=by
 have HO:=Hj (Zx h)
 have HF:=Hj hF
 have HU:Hid ((∀k,S k→w0.heap.size≤k∧k<w.heap.size)∧w0.heap.size≤w.heap.size):=Hj ⟨fun k hk=>⟨h.up k hk,h.hi k hk⟩,h.bel.size⟩
 clear h hF
 go_enter Tryz.func25,Tryz.ntmps25
 go_wp2_with (first
  | (go_at_call 61;((refine HO.out.mono ?_);rintro e w1 ⟨gl,rfl,hd,hr,hb1⟩;have D1:=Hj (DW.mk hd HF.out);have R1:=Hj hr;have HK:Hid (∀W,Bw w1 W→W.cell? ⟨gl,3,none⟩=some (.slice none 0 0)∧W.cell? ⟨gl,4,none⟩=some (.slice none 0 0)):=Hj fun W hW=>⟨Kz hW _ _ (Kq 3 R1.out),Kz hW _ _ (Kq 4 R1.out)⟩;have B1:=Hj hb1;clear hd hr hb1))
  | (go_at_call 28;((refine(Md w1).mono ?_);rintro e w2 ⟨rfl,ht,hb2⟩;have T2:=Hj ht;have B2:=Hj hb2;clear ht hb2))
  | (go_at_call 63;obtain⟨w3,hw3⟩:∃W,W=w2.alloc (.cells #[pt gl,pt w1.heap.size,.int .i64 0,.int .i64 0,.slice none 0 0] 104):=⟨_,rfl⟩;rw[←hw3];have B3:Hid (Bw w1 w3):=Hj (by rw[hw3];exact B2.out.alloc B2.out.size _);have HW3:=Hj hw3;clear hw3;((refine(snap0 gl none 0 w3 (HK.out w3 B3.out).1).mono ?_);rintro e w4 ⟨A4,c4,rfl,hb4⟩;have B4:=Hj hb4;clear hb4))
  | (go_at_call 62;((refine(Zy _ _ _ _).mono ?_);rintro e w' ⟨rfl,rfl⟩))
  | (go_at_call 64;((refine(recs0 gl none 0 w4 (HK.out w4 (B3.out.trans (B4.out.mono B3.out.size))).2).mono ?_);rintro e w' ⟨rfl,rfl⟩))
  | fail)
 go_loopg [32] 0 (fun _ s32 wr=>s32=.int .i64 0∧wr=w4)
 case atStart=>exact⟨rfl,rfl⟩
 case round=>
  obtain⟨rfl,rfl⟩:=hrel
  go_wp2
  have hs:=(SW.born D1.out B2.out T2.out Kv HW3.out).below B4.out
  have hb3:=B1.out.trans (B3.out.mono B1.out.size)
  have hb4:=hb3.trans (B4.out.mono hb3.size)
  have hs4:=B4.out.size
  refine bg (eG rfl _ _ _) rfl ⟨_,rfl,hs.mono (fun k hk=> ?_) (fun k hk=> ?_),hb4⟩
  ·rcases hk with (hk | hk) | hk
   ·exact .inl hk
   ·exact .inr ⟨hk.1,by have:=B3.out.size;omega⟩
   ·exact .inr ⟨by have:=B1.out.size;omega,by omega⟩
  ·have:=hb4.size
   have hu:=HU.out.2
   rcases hk with hk | hk
   ·have:=HU.out.1 k hk;omega
   ·omega
theorem ZA (h0:0≤room) (h1:room≤1048576):Quiet ⟨room,fun _=>[],[]⟩ ⟨room,fun _=>0⟩:=⟨⟨h0,h1,fun _ _=>by simp,fun c hc=>(by cases hc)⟩,rfl,rfl,fun _ _=>rfl⟩
theorem TG (room:Int) (h0:0≤room) (h1:room≤100000) (w:World):Cl 8 #[.int .i64 room] w fun e w'=>∃gs gd g Qs Qd,e=.returned (.tuple #[pt gs,pt gd])∧SW w w' Qs g ⟨room,fun _=>0⟩ gs ⟨0,1,[]⟩ st0∧fG (fun _=>False) w w' Qd gd ⟨room,fun _=>0⟩ ⟨0,1,[]⟩ st0∧(∀k,Qs k→¬Qd k)∧Bw w w':=by
 have HN:=Hj (New_S (w0:=w) room (aj _ w) h0 (by omega))
 have HL:=Hj (fit0 h0 h1)
 have HQ:=Hj (ZA (room:=room) h0 (by omega))
 have HR:=Hj (aB h0 h1)
 clear h0 h1
 go_enter Tryz.func8,Tryz.ntmps8
 go_wp2_with (first
  | (go_at_call 24;((refine HN.out.mono ?_);rintro e w1 ⟨rfl,hs⟩;have D1:=Hj (hs.dd HQ.out);clear hs))
  | (go_at_call 25;((refine(Zz D1.out HL.out).mono ?_);rintro e w2 ⟨gs,rfl,hs,hb⟩;have S2:=Hj hs;have B2:=Hj (D1.out.bel.trans (hb.mono D1.out.bel.size));clear hs hb))
  | (go_at_call 26;obtain⟨w3,hw3⟩:∃W,W=w2.alloc (.cells #[.int .i64 room,.slice none 0 0,.slice none 0 0,.slice none 0 0,.slice none 0 0,.bool false,.int .i64 0,.bool false] 80):=⟨_,rfl⟩;rw[←hw3];have b3:Bw w2 w3:=(by rw[hw3];exact(aj _ w2).alloc Kv _);have h3:BP w2 w3 w2.heap.size room:=⟨by rw[hw3];exact aA w2 _,HR.out.1,HR.out.2,b3,bZ _⟩;((refine(OpenR h3 HL.out).mono ?_);rintro e w4 ⟨gd,rfl,hr⟩;have S4:=Hj hr;clear hr h3 b3 hw3))
  | fail)
 have b4:=S4.out.bel
 refine bg (eG rfl _ _ _) rfl ⟨gs,gd,_,_,_,rfl,S2.out.below b4,S4.out.base B2.out,fun k h1 h2=> ?_,B2.out.trans (b4.mono B2.out.size)⟩
 have:=S2.out.hi k h1
 omega
end
/-- A store and the document's, apart. -/
structure Two (D:Nat→Prop) (w0 w:World) (Qs Qd:Nat→Prop) (g gs gd:Nat) (m:DM) (L:LM) (M:bQ):Prop where
 s:SW w0 w Qs g m gs L M
 d:fG D w0 w Qd gd m L M
 TJ:∀k,Qs k→¬(Qd k∨D k)
section
variable {w w' w0 w3 w4 w5:World} {D Qs Qd Q:Nat→Prop} {g gs gd:Nat} {m m':DM} {L L':LM} {M M':bQ} {ea:Nat→Addr}
theorem aH.below {k:Nat} (h:aH w k) (hb:Bw w w') (hk:k<w.heap.size):aH w' k:=h.same (hb.block k hk)
theorem Two.below (h:Two D w0 w Qs Qd g gs gd m L M) (hb:Bw w w'):Two D w0 w' Qs Qd g gs gd m L M:=⟨h.s.below hb,h.d.below hb,h.TJ⟩
theorem Two.first (h:Two D w0 w Qs Qd g gs gd m L M) (hb:Bw w w3):SW w0 w3 (fun k=>Qs k∧aH w k) g m gs L M:=h.s.narrow.below hb
theorem Two.second (h:Two D w0 w Qs Qd g gs gd m L M) (hb:Bw w w3) (hf:Fr (fun k=>Qs k∧aH w k) w3 w4):fG D w0 w4 (fun k=>Qd k∧aH w k) gd m L M:=
 (h.d.narrow.below hb).fr hf (fun k h1 h2=>h.TJ k h2.1 (h1.imp (fun h=>h.1) id)) fun k hk=>h.s.up k hk.1
theorem Two.third (h:Two D w0 w Qs Qd g gs gd m L M) (hb:Bw w w3) (h4:SW w0 w4 (ext (fun k=>Qs k∧aH w k) w3 w4) g m' gs L' M') (hf:Fr (fun k=>Qs k∧aH w k) w3 w4) (h5:fG D w0 w5 (ext (fun k=>Qd k∧aH w k) w4 w5) gd m' L' M') (hf5:Fr (fun k=>Qd k∧aH w k) w4 w5):
  Two D w0 w5 (ext (fun k=>Qs k∧aH w k) w3 w4) (ext (fun k=>Qd k∧aH w k) w4 w5) g gs gd m' L' M'∧Fr (fun k=>(Qs k∨Qd k)∧aH w k) w w5:=by
 have s1:=hb.size
 have s2:=hf.size
 refine⟨⟨h4.fr hf5 (fun k h1 h2=> ?_) (fun k hk=>h.d.up k hk.1) (fun k hk=> ?_),h5,fun k h1 h2=> ?_⟩,?_⟩
 ·have hd:=h.d.hi k h2.1
  rcases h1 with h1 | h1
  ·exact h.TJ k h1.1 (.inl h2.1)
  ·omega
 ·have hd:=h.d.hi k hk.1
  exact(hk.2.below hb hd).same (hf.block k (by omega) fun h1=>h.TJ k h1.1 (.inl hk.1))
 ·rcases h1 with h1 | h1<;>rcases h2 with (h2 | h2) | h2
  ·exact h.TJ k h1.1 (.inl h2.1)
  ·have:=h.s.hi k h1.1;omega
  ·exact h.TJ k h1.1 (.inr h2)
  ·have:=h.d.hi k h2.1;omega
  ·omega
  ·have:=(h.d.dd k h2).2;omega
 ·refine ((Fr.of_below (S:=fun k=>(Qs k∨Qd k)∧aH w k) hb).trans (hf.mono fun k _ hk=>⟨.inl hk.1,hk.2⟩) fun _ _ hk=>hk).trans (hf5.mono fun k _ hk=>⟨.inr hk.1,hk.2⟩) fun _ _ hk=>hk
/-- Where it is found, with what version. -/
theorem fG.findV (h:fG D w0 w Q gs m L M) (hl:M.tab.length≤100000) (v:OV):
  Cl 29 #[pt gs,.agg (ov v)] w fun e w'=>∃r,e=.returned (.int .i64 r)∧Bw w w'∧
   ((getM M v.kind v.space v.name=none∧r= -1)∨((getM M v.kind v.space v.name).isSome=true∧∃(k n c b o:Nat) (V:Int),r=(k:Int)∧k<n∧w'.cell? ⟨gs,1,none⟩=some (.slice (some ⟨b,o,none⟩) n c)∧w'.cell? ⟨b,o+k*5+3,none⟩=some (.int .i64 V))):=by
 obtain⟨Z,gl,av,ev,xs,ys,hv,-,-⟩:=h.use
 refine(Gt hv (by rw[hv.len.1];exact hl) v).mono ?_
 rintro e w' ⟨r,rfl,hf,hb⟩
 refine⟨r,rfl,hb,?_⟩
 rcases oP h.ok hf with ⟨h1,h2⟩ | ⟨i,o,h1,h3,h2,-⟩
 ·exact .inl ⟨h2,h1⟩
 ·obtain ⟨A,c,-,c1,hc⟩:=hv.row
  have hi:i<xs.length:=by
   have:=(fA.1 h3).1
   have:=hv.len.1
   omega
  obtain⟨b,q,rfl,hd⟩:=hc (by omega)
  have hk:=(hd i _ (fJ hi)).2.2.2.1
  exact .inr ⟨by rw[h2];rfl,i,xs.length,c,b,q,_,h1,hi,Kz hb _ _ c1,Kz hb _ _ hk⟩
end
section
variable {w w' w0 W w4 w5:World} {D Qs Qd Q:Nat→Prop} {g gs gd:Nat} {m m':DM} {L L':LM} {M M':bQ} {ea:Nat→Addr}
/-- Both sides have gone on alike. -/
def Step (D:Nat→Prop) (w0 w w':World) (Qs Qd:Nat→Prop) (g gs gd:Nat) (m:DM) (L:LM) (M:bQ):Prop:=∃OC xZ,Two D w0 w' OC xZ g gs gd m L M∧Fr (fun k=>(Qs k∨Qd k)∧aH w k) w w'∧(∀k,OC k→Qs k∨w.heap.size≤k)∧∀k,xZ k→Qd k∨w.heap.size≤k
theorem Step.below (h:Step D w0 w w4 Qs Qd g gs gd m L M) (hb:Bw w4 w5):Step D w0 w w5 Qs Qd g gs gd m L M:=by
 obtain⟨OC,xZ,h1,h2,h3⟩:=h
 exact⟨OC,xZ,h1.below hb,h2.trans (Fr.of_below (S:=fun _=>False) hb) fun _ _ x=>x.elim,h3⟩
theorem Two.still (h:Two D w0 w Qs Qd g gs gd m L M) (hb:Bw w W):Step D w0 w W Qs Qd g gs gd m L M:=⟨Qs,Qd,h.below hb,Fr.of_below hb,fun _=>.inl,fun _=>.inl⟩
theorem Two.both (h:Two D w0 w Qs Qd g gs gd m L M) (hb:Bw w W) (h4:SW w0 w4 (ext (fun k=>Qs k∧aH w k) W w4) g m' gs L' M') (hf:Fr (fun k=>Qs k∧aH w k) W w4) (h5:fG D w0 w5 (ext (fun k=>Qd k∧aH w k) w4 w5) gd m' L' M') (hf5:Fr (fun k=>Qd k∧aH w k) w4 w5):Step D w0 w w5 Qs Qd g gs gd m' L' M':=by
 obtain⟨h1,h2⟩:=h.third hb h4 hf h5 hf5
 have s1:=hb.size
 have s2:=hf.size
 exact⟨_,_,h1,h2,fun k hk=>hk.imp (fun h=>h.1) fun h=>by omega,fun k hk=>hk.imp (fun h=>h.1) fun h=>by omega⟩
theorem Step.bel (h:Step D w0 w w4 Qs Qd g gs gd m L M):Bw w0 w4:=let ⟨_,_,h1,_⟩:=h;h1.s.bel
theorem r4set {w2 w3:World} {B:Nat} {v:OV} {V:Int} {x:Value} (h:Bw w2 w3) (x1:w3.heap[B+1]?=some (.cells #[.int .i64 v.kind,.string v.space,.string v.name,x,.slice v.A v.n v.c] 37 (0,0))):w2.heap.size≤(w3.setCell ⟨B+1,3,none⟩ (.int .i64 V)).heap.size∧VB (w3.setCell ⟨B+1,3,none⟩ (.int .i64 V)) (B+1) (⟨v.kind,v.space,v.name,V,v.A,v.n,v.c⟩:OV):=
 ⟨by simpa [World.setCell] using h.size,VB.aK (by simpa using aI _ _ 3 _ _ (.int .i64 V) x1)⟩
theorem TK {i:Nat} (v:OV) (bs:List UInt8) (kd:Int) (h:Two D w0 w Qs Qd g gs gd m L M) (he:Errs w0 ea) (hE:EW w0 ea) (hI:eX M i) (hi:i≤60) (hv:RB w0 v.A v.n bs) (hk:v.kind≤9223372036854775807) (hs:v.space.size≤1000) (hn:v.name.size≤1000):
  Cl 10 #[pt gs,pt gd,.agg #[.int .i64 kd,.int .i64 v.kind,.string v.space,.string v.name,.int .i64 v.ver,.slice v.A v.n v.c]] w fun e w'=>e=.returned (.bool true)∧∃m' L' M',Step D w0 w w' Qs Qd g gs gd m' L' M'∧eX M' (i+1)∧Turn M M':=by
 obtain⟨w2,hw2⟩:∃W,W=(w.alloc (.cells #[.int .i64 kd,.int .i64 v.kind,.string v.space,.string v.name,.int .i64 v.ver,.slice v.A v.n v.c] 39)).alloc (.cells (ov v) 37):=⟨_,rfl⟩
 obtain⟨k1,k2,k3⟩:=aP w (.cells #[.int .i64 kd,.int .i64 v.kind,.string v.space,.string v.name,.int .i64 v.ver,.slice v.A v.n v.c] 39) (.cells (ov v) 37)
 have hsz:w2.heap.size=w.heap.size+2:=by rw[hw2];simp
 rw[←hw2] at k1 k2 k3
 obtain⟨B,hB⟩:∃B,B=w.heap.size:=⟨_,rfl⟩
 obtain⟨f4,f5,f6,-⟩:=hI.facts (by omega)
 have HF:=Hj ((h.d.below k3).findV (by omega) v)
 have HK:Hid (∀W,Bw w2 W→W.heap[B]?=some (.cells #[.int .i64 kd,.int .i64 v.kind,.string v.space,.string v.name,.int .i64 v.ver,.slice v.A v.n v.c] 39 (0,0))∧W.heap[B+1]?=some (.cells (ov v) 37 (0,0))):=Hj fun W hW=>by
  rw[hB]
  exact⟨(hW.block _ (by omega)).trans k1,(hW.block _ (by omega)).trans k2⟩
 have HB:Hid (∀W,Bw w2 W→Bw w W):=Hj fun W hW=>k3.trans (hW.mono k3.size)
 have HV:Hid (∀W W' V,w2.heap.size≤W.heap.size→Fr (fun k=>Qs k∧aH w k) W W'→VB W (B+1) (⟨v.kind,v.space,v.name,V,v.A,v.n,v.c⟩:OV)→VB W' (B+1) (⟨v.kind,v.space,v.name,V,v.A,v.n,v.c⟩:OV)):=Hj fun W W' V hW hf hv=>by
  have hn:¬(Qs (B+1)∧aH w (B+1)):=fun x=>by have:=h.s.hi _ x.1;omega
  have e:∀j x,W.cell? ⟨B+1,j,none⟩=some x→W'.cell? ⟨B+1,j,none⟩=some x:=fun j x hx=>(hf.cell (p:=⟨B+1,j,none⟩) (by dsimp only;omega) hn).trans hx
  exact⟨e _ _ hv.1,e _ _ hv.2.1,e _ _ hv.2.2.1,e _ _ hv.2.2.2.1,e _ _ hv.2.2.2.2⟩
 have HCre:Hid (∀W V,Bw w W→Cl 23 #[pt gs,.agg #[.int .i64 v.kind,.string v.space,.string v.name,.int .i64 V,.slice v.A v.n v.c]] W fun e w'=>∃n E M' L' m',e=.returned (.tuple #[.int .i64 ((n:Nat):Int),jC ea E])∧Puts M L m (jS M (⟨v.kind,v.space,v.name,V,v.A,v.n,v.c⟩:OV)) (false,fU M (⟨v.kind,v.space,v.name,V,v.A,v.n,v.c⟩:OV) bs) n E M' L' m'∧SW w0 w' (ext (fun k=>Qs k∧aH w k) W w') g m' gs L' M'∧Fr (fun k=>Qs k∧aH w k) W w'):=Hj fun W V hW=>rZ ⟨v.kind,v.space,v.name,V,v.A,v.n,v.c⟩ bs (h.first hW) he hE (hv.keep (Kz (h.s.bel.trans (hW.mono h.s.bel.size)))) hk hs hn f4 f5 f6
 have HCreR:Hid (∀W W5 V n E M' L' m',Bw w W→Puts M L m (jS M (⟨v.kind,v.space,v.name,V,v.A,v.n,v.c⟩:OV)) (false,fU M (⟨v.kind,v.space,v.name,V,v.A,v.n,v.c⟩:OV) bs) n E M' L' m'→SW w0 W5 (ext (fun k=>Qs k∧aH w k) W W5) g m' gs L' M'→Fr (fun k=>Qs k∧aH w k) W W5→Cl 30 #[pt gd,.agg #[.int .i64 v.kind,.string v.space,.string v.name,.int .i64 V,.slice v.A v.n v.c]] W5 fun e w'=>e=.returned (.tuple #[.int .i64 ((n:Nat):Int),.int .i64 ((E:Nat):Int)])∧Step D w0 w w' Qs Qd g gs gd m' L' M'∧(eX M' (i+1)∧Turn M M')∧E≤28):=Hj fun W W5 V n E M' L' m' hW hp h4 hf=>(VA (h.second hW hf) ⟨v.kind,v.space,v.name,V,v.A,v.n,v.c⟩ bs (hv.keep (Kz h4.bel)) f4 f5 f6).mono fun e w' ⟨n2,E2,M2,L2,m2,h1,h2,h3,h4'⟩=>by
  obtain⟨rfl,rfl,rfl,rfl,rfl⟩:=Puts.same hp h2
  exact⟨h1,h.both hW h4 hf h3 h4',hI.cre (v:=⟨v.kind,v.space,v.name,V,v.A,v.n,v.c⟩) (by omega) hv.1.symm hp⟩
 have HUpd:Hid (∀W V,Bw w W→Cl 31 #[pt gs,.agg #[.int .i64 v.kind,.string v.space,.string v.name,.int .i64 V,.slice v.A v.n v.c]] W fun e w'=>∃n E M' L' m',e=.returned (.tuple #[.int .i64 ((n:Nat):Int),jC ea E])∧Puts M L m (oC M (⟨v.kind,v.space,v.name,V,v.A,v.n,v.c⟩:OV)) (false,fU M (⟨v.kind,v.space,v.name,V,v.A,v.n,v.c⟩:OV) bs) n E M' L' m'∧SW w0 w' (ext (fun k=>Qs k∧aH w k) W w') g m' gs L' M'∧Fr (fun k=>Qs k∧aH w k) W w'):=Hj fun W V hW=>I4 ⟨v.kind,v.space,v.name,V,v.A,v.n,v.c⟩ bs (h.first hW) he hE (hv.keep (Kz (h.s.bel.trans (hW.mono h.s.bel.size)))) hk hs hn f4 f5 f6
 have HUpdR:Hid (∀W W5 V n E M' L' m',Bw w W→Puts M L m (oC M (⟨v.kind,v.space,v.name,V,v.A,v.n,v.c⟩:OV)) (false,fU M (⟨v.kind,v.space,v.name,V,v.A,v.n,v.c⟩:OV) bs) n E M' L' m'→SW w0 W5 (ext (fun k=>Qs k∧aH w k) W W5) g m' gs L' M'→Fr (fun k=>Qs k∧aH w k) W W5→Cl 32 #[pt gd,.agg #[.int .i64 v.kind,.string v.space,.string v.name,.int .i64 V,.slice v.A v.n v.c]] W5 fun e w'=>e=.returned (.tuple #[.int .i64 ((n:Nat):Int),.int .i64 ((E:Nat):Int)])∧Step D w0 w w' Qs Qd g gs gd m' L' M'∧(eX M' (i+1)∧Turn M M')∧E≤28):=Hj fun W W5 V n E M' L' m' hW hp h4 hf=>(Vy (h.second hW hf) ⟨v.kind,v.space,v.name,V,v.A,v.n,v.c⟩ bs (hv.keep (Kz h4.bel)) f4 f5 f6).mono fun e w' ⟨n2,E2,M2,L2,m2,h1,h2,h3,h4'⟩=>by
  obtain⟨rfl,rfl,rfl,rfl,rfl⟩:=Puts.same hp h2
  exact⟨h1,h.both hW h4 hf h3 h4',hI.upd (v:=⟨v.kind,v.space,v.name,V,v.A,v.n,v.c⟩) (by omega) hv.1.symm hp⟩
 have EU:Hid (∀W V,Bw w W→Cl 33 #[pt gs,.agg #[.int .i64 v.kind,.string v.space,.string v.name,.int .i64 V,.slice v.A v.n v.c]] W fun e w'=>∃n E M' L' m',e=.returned (.tuple #[.int .i64 ((n:Nat):Int),jC ea E])∧Puts M L m (mG M (⟨v.kind,v.space,v.name,V,v.A,v.n,v.c⟩:OV)) (true,fU M (⟨v.kind,v.space,v.name,V,v.A,v.n,v.c⟩:OV) []) n E M' L' m'∧SW w0 w' (ext (fun k=>Qs k∧aH w k) W w') g m' gs L' M'∧Fr (fun k=>Qs k∧aH w k) W w'):=Hj fun W V hW=>I8 ⟨v.kind,v.space,v.name,V,v.A,v.n,v.c⟩ (h.first hW) he hE hk hs hn f4 f5 f6
 have HDelR:Hid (∀W W5 V n E M' L' m',Bw w W→Puts M L m (mG M (⟨v.kind,v.space,v.name,V,v.A,v.n,v.c⟩:OV)) (true,fU M (⟨v.kind,v.space,v.name,V,v.A,v.n,v.c⟩:OV) []) n E M' L' m'→SW w0 W5 (ext (fun k=>Qs k∧aH w k) W W5) g m' gs L' M'→Fr (fun k=>Qs k∧aH w k) W W5→Cl 34 #[pt gd,.agg #[.int .i64 v.kind,.string v.space,.string v.name,.int .i64 V,.slice v.A v.n v.c]] W5 fun e w'=>e=.returned (.tuple #[.int .i64 ((n:Nat):Int),.int .i64 ((E:Nat):Int)])∧Step D w0 w w' Qs Qd g gs gd m' L' M'∧(eX M' (i+1)∧Turn M M')∧E≤28):=Hj fun W W5 V n E M' L' m' hW hp h4 hf=>(Vz (h.second hW hf) ⟨v.kind,v.space,v.name,V,v.A,v.n,v.c⟩ f4 f5 f6).mono fun e w' ⟨n2,E2,M2,L2,m2,h1,h2,h3,h4'⟩=>by
  obtain⟨rfl,rfl,rfl,rfl,rfl⟩:=Puts.same hp h2
  exact⟨h1,h.both hW h4 hf h3 h4',hI.del (v:=⟨v.kind,v.space,v.name,V,v.A,v.n,v.c⟩) (by omega) hp⟩
 have OW:Hid (∀W,Bw w W→Cl 35 #[pt gs] W fun e w'=>∃M' L' m',M'=(if L.zW m (bY M.rev M.tab)=0 then M.fresh else M)∧L'=L.cp m (bY M.rev M.tab)∧m'=L.zV m (bY M.rev M.tab)∧e=.returned (jC ea (L.zW m (bY M.rev M.tab)))∧SW w0 w' (ext (fun k=>Qs k∧aH w k) W w') g m' gs L' M'∧Fr (fun k=>Qs k∧aH w k) W w'):=Hj fun W hW=>(yt (h.first hW) hE f5).mono fun e w' ⟨h1,h2,h3⟩=>⟨_,_,_,rfl,rfl,rfl,h1,h2,h3⟩
 have HCpR:Hid (∀W W5 M' L' m',Bw w W→M'=(if L.zW m (bY M.rev M.tab)=0 then M.fresh else M)→L'=L.cp m (bY M.rev M.tab)→m'=L.zV m (bY M.rev M.tab)→SW w0 W5 (ext (fun k=>Qs k∧aH w k) W W5) g m' gs L' M'→Fr (fun k=>Qs k∧aH w k) W W5→Cl 36 #[pt gd] W5 fun e w'=>e=.returned (.int .i64 (L.zW m (bY M.rev M.tab):Int))∧Step D w0 w w' Qs Qd g gs gd m' L' M'∧(eX M' (i+1)∧Turn M M')∧L.zW m (bY M.rev M.tab)≤28):=Hj fun W W5 M' L' m' hW e1 e2 e3 h4 hf=>(Gs (h.second hW hf) f5).mono fun e w' ⟨h1,h2,h3⟩=>by
  subst e1
  subst e2
  subst e3
  refine⟨h1,h.both hW h4 hf h2 h3,?_⟩
  rcases lT L m (bY M.rev M.tab) with ⟨-,z,-⟩ | ⟨-,z,-⟩<;>rw[z]
  ·exact ⟨⟨hI.mono (by omega),Turn.refl _⟩,by decide⟩
  ·exact ⟨⟨(hI.fresh (by omega)).mono (by omega),M.fresh,.inr rfl,.inl rfl⟩,by decide⟩
 have ZB:Hid (∀W E,Bw w0 W→E≤28→Cl 13 #[jC ea E] W fun e w'=>e=.returned (.int .i64 (E:Int))∧Bw W w'):=Hj fun W E hW hE=>by
  have:=Lp (he.below hW) E hE
  rwa [tY] at this
 have IY:Hid (∀W,Bw w W→Step D w0 w W Qs Qd g gs gd m L M∧eX M (i+1)∧Turn M M):=Hj fun W hW=>⟨h.still hW,hI.mono (by omega),Turn.refl _⟩
 have HW:=Hj (aB hw2 hB)
 have HS2:Hid (w2.heap.size=B+2):=Hj (by omega)
 have hcase:kd=0∨kd=1∨kd=2∨kd=3∨((kd==0)=false∧(kd==1)=false∧(kd==2)=false∧(kd==3)=false):=by
  simp only[beq_eq_false_iff_ne]
  omega
 have hg:(getM M v.kind v.space v.name).isSome=false∨(getM M v.kind v.space v.name).isSome=true:=by cases getM M v.kind v.space v.name<;>simp
 clear h he hE hI hi hv hk hs hn hw2 k1 k2 k3 hsz hB f4 f5 f6
 rcases hcase with rfl | rfl | rfl | rfl | ⟨q0,q1,q2,q3⟩<;>rcases hg with hg | hg
 all_goals
  have HG:=Hj hg
  clear hg
  go_enter Tryz.func10,Tryz.ntmps10
  go_wp2_with (first
   | (go_at_call 29;rw[←HW.out.1];((with_reducible refine HF.out.mono ?_);rintro e w3 ⟨r,rfl,hb3,hr⟩;have B3:=Hj hb3;rw[←HW.out.2];obtain⟨x0,x1⟩:=HK.out w3 hb3;obtain⟨b0,b1,b2,b3,b4⟩:VB w3 (B+1) v:=VB.aK x1;have c0:w3.cell? ⟨B,0,none⟩=some (.int .i64 _):=Kq 0 x0;have fz:w3.frozen? ⟨B+1,3,none⟩=false:=Kj x1;have hG:=HG.out;rcases hr with ⟨hn,rfl⟩ | ⟨hs,k,n,c,b,o,V,rfl,hkn,d1,d2⟩<;>(first | (rw[hn] at hG;cases hG;done) | (rw[hs] at hG;cases hG;done) | skip);(first | (have i0:(0:Int)≤(k:Int):=Int.natCast_nonneg k;have i1:(k:Int)<(n:Int):=Int.ofNat_lt.2 hkn;clear hkn) | skip);clear hb3 x0 x1))
   | fail)
  first
  | (obtain⟨w4,hw4⟩:∃W,W=w3.setCell ⟨B+1,3,none⟩ (.int .i64 V):=⟨_,rfl⟩
     rw[←hw4]
     have R4:Hid (Bw w w4∧w2.heap.size≤w4.heap.size∧VB w4 (B+1) (⟨v.kind,v.space,v.name,V,v.A,v.n,v.c⟩:OV)):=Hj (by
      rw[hw4]
      exact⟨(HB.out w3 B3.out).setCell (p:=⟨B+1,3,none⟩) (by have:=HW.out.2;dsimp only;omega) _,r4set B3.out (HK.out w3 B3.out).2⟩)
     clear hw4 b0 b1 b2 b3 b4 c0 fz d1 d2
     obtain⟨b0,b1,b2,b3,b4⟩:=R4.out.2.2)
  | (obtain⟨V,hV⟩:∃V,V=v.ver:=⟨_,rfl⟩
     obtain⟨w4,rfl⟩:∃W,W=w3:=⟨_,rfl⟩
     rw[←hV]
     rw[←hV] at b3
     have R4:Hid (Bw w w4∧w2.heap.size≤w4.heap.size∧VB w4 (B+1) (⟨v.kind,v.space,v.name,V,v.A,v.n,v.c⟩:OV)):=Hj ⟨HB.out w4 B3.out,B3.out.size,b0,b1,b2,b3,b4⟩
     clear hV c0 fz)
  go_wp2_with (first
   | (go_at_call 23;((refine(HCre.out w4 V R4.out.1).mono ?_);rintro e w5 ⟨n,E,M',L',m',rfl,hp,hs5,hf5⟩;have P5:=Hj hp;have S5:=Hj hs5;have F5:=Hj hf5;obtain⟨b0,b1,b2,b3,b4⟩:=HV.out w4 w5 V R4.out.2.1 hf5 R4.out.2.2;clear hp hs5 hf5))
   | (go_at_call 30;((refine(HCreR.out w4 w5 V n E M' L' m' R4.out.1 P5.out S5.out F5.out).mono ?_);rintro e w6 ⟨rfl,h1,h2,h3⟩;have ST:=Hj (aB h1 (aB h2 h3));clear h1 h2 h3))
   | (go_at_call 31;((refine(HUpd.out w4 V R4.out.1).mono ?_);rintro e w5 ⟨n,E,M',L',m',rfl,hp,hs5,hf5⟩;have P5:=Hj hp;have S5:=Hj hs5;have F5:=Hj hf5;obtain⟨b0,b1,b2,b3,b4⟩:=HV.out w4 w5 V R4.out.2.1 hf5 R4.out.2.2;clear hp hs5 hf5))
   | (go_at_call 32;((refine(HUpdR.out w4 w5 V n E M' L' m' R4.out.1 P5.out S5.out F5.out).mono ?_);rintro e w6 ⟨rfl,h1,h2,h3⟩;have ST:=Hj (aB h1 (aB h2 h3));clear h1 h2 h3))
   | (go_at_call 33;((refine(EU.out w4 V R4.out.1).mono ?_);rintro e w5 ⟨n,E,M',L',m',rfl,hp,hs5,hf5⟩;have P5:=Hj hp;have S5:=Hj hs5;have F5:=Hj hf5;obtain⟨b0,b1,b2,b3,b4⟩:=HV.out w4 w5 V R4.out.2.1 hf5 R4.out.2.2;clear hp hs5 hf5))
   | (go_at_call 34;((refine(HDelR.out w4 w5 V n E M' L' m' R4.out.1 P5.out S5.out F5.out).mono ?_);rintro e w6 ⟨rfl,h1,h2,h3⟩;have ST:=Hj (aB h1 (aB h2 h3));clear h1 h2 h3))
   | (go_at_call 35;((refine(OW.out w4 R4.out.1).mono ?_);rintro e w5 ⟨M',L',m',e1,e2,e3,rfl,hs5,hf5⟩;have P5:=Hj (aB e1 (aB e2 e3));have S5:=Hj hs5;have F5:=Hj hf5;clear e1 e2 e3 hs5 hf5))
   | (go_at_call 36;((refine(HCpR.out w4 w5 M' L' m' R4.out.1 P5.out.1 P5.out.2.1 P5.out.2.2 S5.out F5.out).mono ?_);rintro e w6 ⟨rfl,h1,h2,h3⟩;have ST:=Hj (aB h1 (aB h2 h3));clear h1 h2 h3))
   | (go_at_call 13;(first
     | ((with_reducible refine(ZB.out w6 _ ST.out.1.bel ST.out.2.2).mono ?_);rintro e w7 ⟨rfl,hb7⟩;have ST7:=Hj (aB (ST.out.1.below hb7) ST.out.2.1);clear hb7)
     | ((with_reducible refine(DF w4).mono ?_);rintro e w7 ⟨rfl,rfl⟩;have ST7:=Hj (IY.out _ R4.out.1))))
   | fail)
  go_ret
  exact⟨rfl,_,_,_,ST7.out⟩
end
end Go.Proofs.YtdhbpajamlfacaaGreatDoor
