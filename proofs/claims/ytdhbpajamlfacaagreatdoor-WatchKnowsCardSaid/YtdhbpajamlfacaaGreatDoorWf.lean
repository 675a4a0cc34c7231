/- Both sides' stores: of the blocks that are theirs none is a node; a lower base. -/
import Derived.Test.YtdhbpajamlfacaaGreatDoorWb
set_option maxRecDepth 100000
namespace Go.Proofs.YtdhbpajamlfacaaGreatDoor
open Go.RowKit SO
section
variable {w w' w0 v0:World} {O P Q S X Z:Nat→Prop} {g gl gs gt k n:Nat} {m:DM} {L:LM} {M:aY} {T:DT} {G:LG} {tv rv av ev v:Value}
theorem ay.own {base e size:Nat} {xs:List Value} (h:ah w base e size v n xs) (hT:e≠164) (hk:v.ownBlock=some k):ay w k:=let ⟨_,hc⟩:=ak h hk;ay.of hc hT
theorem LS.narrow (h:LS w O v n):LS w (fun k=>O k∧ay w k) v n:=⟨h.1,fun q hq=>⟨h.2 q hq,let ⟨⟨_,_,h1⟩,_⟩:=h;ay.own h1 (by decide) hq⟩⟩
theorem tY.narrow {room:Int} {A:Nat→Option Addr} {kk s:Nat→Nat} (h:tY w O g room A kk s v):tY w (fun k=>O k∧ay w k) g room A kk s v:=⟨h.cells,fun i hi=>(h.dJ i hi).narrow,h.fits,h.room,h.own,ay.of h.cells (by decide)⟩
theorem CQ.narrow (h:CQ w O g T):CQ w (fun k=>O k∧ay w k) g T:=by
 unfold CQ at h ⊢
 split at h
 ·obtain ⟨A,k,h⟩:=h;exact⟨A,k,h.narrow⟩
 ·obtain ⟨A,k,wv,v,p,h0,h1,h2,h3,h4⟩:=h
  exact⟨A,k,wv,v,p,h0,h1.narrow,h2,h3.narrow,fun q hq=>⟨h4 q hq,ay.own h2 (by decide) hq⟩⟩
theorem gV.narrow {ws:List (Nat×Value)} (h:gV w P gl g G tv rv ws):gV w (fun k=>P k∧ay w k) gl g G tv rv ws:=
 ⟨h.cells,let ⟨n,e⟩:=h.text;⟨n,e.narrow⟩,h.recs,h.eq,fun x hx=>(h.each x hx).narrow,⟨h.fE,ay.of h.cells (by decide)⟩,fun k hk=>⟨h.uT k hk,ay.own h.recs (by decide) hk⟩⟩
theorem KW.narrow (h:KW w0 w S g T gl G):KW w0 w (fun k=>S k∧ay w k) g T gl G:=by
 obtain⟨⟨O,P,h1,⟨tv,rv,ws,h2⟩,h3,h4,h5⟩,up,hi,bel⟩:=h
 exact⟨⟨_,_,h1.narrow,⟨tv,rv,ws,h2.narrow⟩,fun k hk=>⟨h3 k hk.1,hk.2⟩,fun k hk=>⟨h4 k hk.1,hk.2⟩,fun k a b=>h5 k a.1 b.1⟩,fun k hk=>up k hk.1,fun k hk=>hi k hk.1,bel⟩
theorem dI.nn {v:OV} {o:aH} (h:dI w v o) (hk:(sl v).ownBlock=some k):ay w k:=ay.own h.data (by decide) hk
theorem RV.narrow {xs:List (OV×aH)} {ys:List (Bool×(OV×aH))} (h:RV w Z gs gl av ev xs ys M):RV w (fun k=>Z k∧ay w k) gs gl av ev xs ys M:=
 ⟨h.cells,h.all,h.allM,h.each,h.evs,h.Jr,h.mG,⟨h.zs,ay.of h.cells (by decide)⟩,fun k hk=>⟨h.za k hk,ay.own h.all (by decide) hk⟩,fun k hk=>⟨h.ze k hk,ay.own h.evs (by decide) hk⟩,fun x hx k hk=>⟨h.zx x hx k hk,(h.each x hx).nn hk⟩,fun y hy k hk=>⟨h.zy y hy k hk,(h.mG y hy).nn hk⟩⟩
theorem SV.narrow {sh:Code} {xs:List (ByteArray×(OV×aH))} {ys:List (Bool×(OV×aH))} (h:SV w Z gl gs gt sh ev xs ys M):SV w (fun k=>Z k∧ay w k) gl gs gt sh ev xs ys M:=by
 obtain⟨p,ht,_⟩:=h.tab
 exact⟨h.cells,h.tab,h.kK,h.each,h.evs,h.Jr,h.mG,h.ok,⟨h.zs,ay.of h.cells (by decide)⟩,⟨h.zt,ay.of ht (by decide)⟩,fun k hk=>⟨h.ze k hk,ay.own h.evs (by decide) hk⟩,fun x hx k hk=>⟨h.zx x hx k hk,(h.each x hx).nn hk⟩,fun y hy k hk=>⟨h.zy y hy k hk,(h.mG y hy).nn hk⟩⟩
theorem SW.narrow (h:SW w0 w Q g m gs L M):SW w0 w (fun k=>Q k∧ay w k) g m gs L M:=by
 obtain⟨⟨S,Z,gl,gt,sh,ev,xs,ys,h1,h2,h3,h4,h5,h6⟩,up,hi⟩:=h
 exact⟨⟨S,_,gl,gt,sh,ev,xs,ys,h1,h2.narrow,fun k hk=>⟨h3 k hk,h6 k hk⟩,fun k hk=>⟨h4 k hk.1,hk.2⟩,fun k hk=>h5 k hk.1,h6⟩,fun k hk=>up k hk.1,fun k hk=>hi k hk.1⟩
theorem dO.narrow (h:dO w0 w Q gs m L M):dO w0 w (fun k=>Q k∧ay w k) gs m L M:=by
 obtain⟨⟨S,Z,g,gl,av,ev,xs,ys,s,G,h1,h2,h3,h4,h5,h6⟩,ok,up,hi⟩:=h
 exact⟨⟨_,_,g,gl,av,ev,xs,ys,s,G,h1.narrow,h2.narrow,h3,fun k hk=>⟨h4 k hk.1,hk.2⟩,fun k hk=>⟨h5 k hk.1,hk.2⟩,fun k a b=>h6 k a.1 b.1⟩,ok,fun k hk=>up k hk.1,fun k hk=>hi k hk.1⟩
theorem SW.base (h:SW w0 w Q g m gs L M) (hb:Below v0.heap.size v0 w0):SW v0 w Q g m gs L M:=by
 obtain⟨⟨S,Z,gl,gt,sh,ev,xs,ys,h1,h2⟩,up,hi⟩:=h
 exact⟨⟨S,Z,gl,gt,sh,ev,xs,ys,⟨h1.dl,fun k hk=>Cz hb.size (h1.up k hk),h1.hi,hb.trans (h1.bel.mono hb.size)⟩,h2⟩,fun k hk=>Cz hb.size (up k hk),hi⟩
theorem dO.base (h:dO w0 w Q gs m L M) (hb:Below v0.heap.size v0 w0):dO v0 w Q gs m L M:=by
 obtain⟨⟨S,Z,g,gl,av,ev,xs,ys,s,G,h1,h2⟩,ok,up,hi⟩:=h
 exact⟨⟨S,Z,g,gl,av,ev,xs,ys,s,G,⟨h1.dl,fun k hk=>Cz hb.size (h1.up k hk),h1.hi,hb.trans (h1.bel.mono hb.size)⟩,h2⟩,ok,fun k hk=>Cz hb.size (up k hk),hi⟩
end
theorem on0:LM.On ⟨0,1,[],[],false⟩ (fun _=>[]):=⟨by decide,.inr rfl,by decide,rfl,fun x hx=>(by cases hx)⟩
section
variable {m m' m2:DM} {L L' L2:LM} {M M' M2:aY} {e:Bool×aH} {n E n2 E2 p:Nat}
theorem Ir.same (h:Ir M L m e n E M' L' m') (k:Ir M L m e n2 E2 M2 L2 m2):n=n2∧E=E2∧M'=M2∧L'=L2∧m'=m2:=by
 unfold Ir at h k
 rcases h with ⟨h0,rfl,rfl,rfl,rfl,rfl⟩ | ⟨h0,⟨h1,rfl,rfl,rfl,rfl,rfl⟩ | ⟨h1,h2,rfl,rfl,rfl,rfl,rfl⟩ | ⟨h1,⟨h2,rfl,rfl,rfl,rfl,rfl⟩ | ⟨h2,L1,m1,rfl,rfl,⟨h3,rfl,rfl,rfl,rfl,rfl⟩ | ⟨h3,rfl,rfl,rfl,rfl,rfl⟩⟩⟩⟩<;>
  rcases k with ⟨k0,rfl,rfl,rfl,rfl,rfl⟩ | ⟨k0,⟨k1,rfl,rfl,rfl,rfl,rfl⟩ | ⟨k1,k2,rfl,rfl,rfl,rfl,rfl⟩ | ⟨k1,⟨k2,rfl,rfl,rfl,rfl,rfl⟩ | ⟨k2,L1,m1,rfl,rfl,⟨k3,rfl,rfl,rfl,rfl,rfl⟩ | ⟨k3,rfl,rfl,rfl,rfl,rfl⟩⟩⟩⟩<;>
  first | (exfalso;omega) | (exfalso;contradiction) | (with_reducible exact⟨rfl,rfl,rfl,rfl,rfl⟩)
theorem Puts.same (h:Puts M L m p e n E M' L' m') (k:Puts M L m p e n2 E2 M2 L2 m2):n=n2∧E=E2∧M'=M2∧L'=L2∧m'=m2:=by
 rcases h with ⟨h0,rfl,rfl,rfl,rfl,rfl⟩ | ⟨h0,h⟩<;>rcases k with ⟨k0,rfl,rfl,rfl,rfl,rfl⟩ | ⟨k0,k⟩
 ·exact ⟨rfl,rfl,rfl,rfl,rfl⟩
 ·exact absurd k0 h0
 ·exact absurd h0 k0
 ·exact Ir.same h k
theorem QM (M:aY) (e:Bool×aH):(M.app e).tab.length≤M.tab.length+1:=by
 unfold aY.app
 split
 ·show (rem aJ _ M.tab).length≤_
  rw[wO]
  split<;>omega
 ·show (ins aJ _ _ M.tab).length≤_
  rw[je]
  split<;>omega
/-- What holds behind i calls. -/
structure dH (m:DM) (L:LM) (M:aY) (i:Nat):Prop where
 Ut:∃A,m.Is A∧L.On A
 dead:L.dead=false
 arm:m.armed=false
 ok:M.Ok
 rev:M.rev≤i
 tab:M.tab.length≤i
theorem dH.mono {i j:Nat} (h:dH m L M i) (hi:i≤j):dH m L M j:=⟨h.Ut,h.dead,h.arm,h.ok,Cz h.rev hi,Cz h.tab hi⟩
theorem dH.start (room:Int) (h0:0≤room) (h1:room≤1048576):dH ⟨room,fun _=>[],[],false,0,false⟩ ⟨0,1,[],[],false⟩ st0 0:=
 ⟨⟨fun _=>[],ZY room h0 h1,on0⟩,rfl,rfl,aY.vW (qE.nil 0) (by decide),Nat.le_refl _,Nat.le_refl _⟩
/-- What the calls ask for. -/
theorem dH.facts {i:Nat} (h:dH m L M i) (hi:i≤80):m.Ok∧L.Ok∧m.waits.length≤900∧M.rev<1099511627776∧M.tab.length≤90∧M.evs.length≤100000∧M.rev≤i∧M.evs.length≤i:=by
 obtain⟨A,h1,h2⟩:=h.Ut
 have h3:=h.rev
 have h4:=h.tab
 have h5:=h.ok.num
 exact⟨h1.ok,h1.logOk h2,by rw[h1.waits];exact Nat.zero_le _,by omega,by omega,by omega,by omega,by omega⟩
theorem dH.app {i:Nat} {e:Bool×aH} (h:dH m L M i) (hc:M.Can e):dH (L.iE m (fQ e)) (L.app m (fQ e)) (if L.dQ m (fQ e)=0 then M.app e else M) (i+1)∧(L.dQ m (fQ e)=0∨L.dQ m (fQ e)=26):=by
 obtain⟨A,i1,i2⟩:=h.Ut
 have hr:=h.rev
 have ht:=h.tab
 rcases OC i1 h.arm i2 h.dead (fQ e) (Cz (lI hc.ok hc.most) (by omega)) with ⟨h1,h2,h3⟩ | ⟨h1,B,b1,b2,b3,b4⟩
 ·rw [h2,h3,h1]
  exact⟨h.mono (by omega),.inr rfl⟩
 ·rw [b2,h1]
  refine⟨⟨⟨B,b1,b3⟩,h.dead,b4,h.ok.app hc,?_,?_⟩,.inl rfl⟩
  ·have:=hc.ver
   show (M.app e).rev≤i+1
   rw[vg];omega
  ·have:=QM M e
   show (M.app e).tab.length≤i+1
   omega
theorem dH.comp {i:Nat} (h:dH m L M i) (hi:i≤1000):dH (L.lD m (aP M.rev M.tab)) (L.cp m (aP M.rev M.tab)) (if L.mM m (aP M.rev M.tab)=0 then M.fresh else M) i∧(L.mM m (aP M.rev M.tab)=0∨L.mM m (aP M.rev M.tab)=26):=by
 obtain⟨A,i1,i2⟩:=h.Ut
 rcases Sr i1 h.arm i2 h.dead (aP M.rev M.tab) with ⟨h1,h2,h3⟩ | ⟨h1,B,b1,b2,b3,b4⟩
 ·rw [h2,h3,h1]
  exact⟨h,.inr rfl⟩
 ·rw [b2,h1]
  have:=h.rev
  exact⟨⟨⟨B,b1,b3⟩,h.dead,b4,aY.vW h.ok.tab (by omega),h.rev,h.tab⟩,.inl rfl⟩
/-- What one call makes of a store. -/
def Turn (M M':aY):Prop:=∃X,(X=M∨X=M.fresh)∧(M'=X∨∃e,X.Can e∧M'=X.app e)
theorem Turn.refl (M:aY):Turn M M:=⟨M,.inl rfl,.inl rfl⟩
theorem dH.call {i:Nat} (h:dH m L M i) (hi:i≤80) (hc:p=0→M.Can e) (hp:p≤24) (hP:Puts M L m p e n E M' L' m'):(dH m' L' M' (i+1)∧Turn M M')∧E≤28:=by
 rcases hP with ⟨h1,h2,h3,h4,h5,h6⟩ | ⟨h1,hC⟩
 ·rw [h4,h5,h6,h3]
  exact⟨⟨h.mono (by omega),Turn.refl _⟩,by omega⟩
 ·have c1:=hc h1
  obtain⟨a1,a2⟩:=h.app c1
  rcases hC with ⟨hr,rfl,rfl,rfl,rfl,rfl⟩ | ⟨_,⟨h0,rfl,rfl,rfl,rfl,rfl⟩ | ⟨h0,xJ,rfl,rfl,rfl,rfl,rfl⟩ | ⟨xJ,hC⟩⟩
  ·exact ⟨⟨h.mono (by omega),Turn.refl _⟩,by decide⟩
  ·rw [if_pos h0] at a1
   exact⟨⟨a1,M,.inl rfl,.inr ⟨e,c1,rfl⟩⟩,by decide⟩
  ·omega
  ·obtain ⟨k1,k2⟩:=h.comp (by omega)
   rcases hC with ⟨hne,rfl,rfl,rfl,rfl,rfl⟩ | ⟨h0,L1,m1,rfl,rfl,hC⟩
   ·rw [if_neg hne] at k1
    exact⟨⟨k1.mono (by omega),Turn.refl _⟩,by omega⟩
   ·rw [if_pos h0] at k1
    obtain⟨q1,q2⟩:=k1.app (rW c1)
    rcases hC with ⟨k0,rfl,rfl,rfl,rfl,rfl⟩ | ⟨k0,rfl,rfl,rfl,rfl,rfl⟩
    ·rw [if_pos k0] at q1
     exact⟨⟨q1,M.fresh,.inr rfl,.inr ⟨e,rW c1,rfl⟩⟩,by decide⟩
    ·rw [if_neg k0] at q1
     exact⟨⟨q1,M.fresh,.inr rfl,.inl rfl⟩,by omega⟩
theorem dH.cre {i:Nat} {v:OV} {data:List UInt8} (h:dH m L M i) (hi:i≤80) (hd:v.n=data.length) (hP:Puts M L m (dD M v) (false,dW M v data) n E M' L' m'):(dH m' L' M' (i+1)∧Turn M M')∧E≤28:=
 h.call hi (fun h0=>(jl (LK h0) hd (h.facts hi).2.2.2.1).1) (Uj M v) hP
theorem dH.upd {i:Nat} {v:OV} {data:List UInt8} (h:dH m L M i) (hi:i≤80) (hd:v.n=data.length) (hP:Puts M L m (mV M v) (false,dW M v data) n E M' L' m'):(dH m' L' M' (i+1)∧Turn M M')∧E≤28:=
 h.call hi (fun h0=>(jl (LP h0) hd (h.facts hi).2.2.2.1).1) (Uk M v) hP
theorem dH.del {i:Nat} {v:OV} (h:dH m L M i) (hi:i≤80) (hP:Puts M L m (kL M v) (true,dW M v []) n E M' L' m'):(dH m' L' M' (i+1)∧Turn M M')∧E≤28:=
 h.call hi (fun h0=>(vY (zJ h0).1 (zJ h0).2 (h.facts hi).2.2.2.1).1) (Ul M v) hP
end
theorem All0 (A:Option Addr) (c:Nat) (w:World):Calls Tryz.prog 105 #[.slice A 0 c] w fun e w'=>e=.returned (.tuple #[.slice none 0 0,.nilIface])∧w=w':=by
 go_enter Tryz.func105,Tryz.ntmps105
 go_wp2
 go_loopg [0,4] 0 (fun _ s0 s4 wr=>s0=.slice A 0 c∧s4=.slice none 0 0∧wr=w)
 case atStart=>exact⟨rfl,rfl,rfl⟩
 case round=>
  obtain⟨rfl,rfl,rfl⟩:=hrel
  go_wp2
  exact bodyPost_ret (results_tmp2 rfl _ _ _) rfl ⟨rfl,rfl⟩
theorem Xx (a:Addr) (A:Option Addr) (c:Nat) (w:World):Calls Tryz.prog 62 #[.pointer (some a),.slice A 0 c] w fun e w'=>e=.returned .nilIface∧w=w':=by
 go_enter Tryz.func62,Tryz.ntmps62
 go_wp2_with (first
  | (go_at_call 105;refine(All0 _ _ _).mono ?_;rintro e w' ⟨rfl,rfl⟩)
  | fail)
 go_ret
 exact⟨rfl,rfl⟩
theorem snap0 (gl:Nat) (A:Option Addr) (c:Nat) (w:World) (h:w.cell? ⟨gl,3,none⟩=some (.slice A 0 c)):Calls Tryz.prog 63 #[.pointer (some ⟨gl,0,none⟩)] w fun e w'=>∃A2 c2,e=.returned (.slice A2 0 c2)∧Below w.heap.size w w':=by
 go_enter Tryz.func63,Tryz.ntmps63
 go_wp2_with (first
  | (go_at_call 94;refine(bT _ _ _ [] _ ⟨rfl,fun h=>absurd h (by decide)⟩ (by decide)).mono ?_;rintro e w' ⟨A2,c2,rfl,hv,hbv⟩)
  | fail)
 go_ret
 exact⟨A2,c2,rfl,hbv⟩
theorem recs0 (gl:Nat) (A:Option Addr) (c:Nat) (w:World) (h:w.cell? ⟨gl,4,none⟩=some (.slice A 0 c)):Calls Tryz.prog 64 #[.pointer (some ⟨gl,0,none⟩)] w fun e w'=>e=.returned (.slice none 0 0)∧w=w':=by
 go_enter Tryz.func64,Tryz.ntmps64
 go_wp2
 go_loopg [3,11] 0 (fun _ s3 s11 wr=>s3=.slice none 0 0∧s11=.int .i64 0∧wr=w)
 case atStart=>exact⟨rfl,rfl,rfl⟩
 case round=>
  obtain⟨rfl,rfl,rfl⟩:=hrel
  go_wp2
  go_ret
  exact⟨rfl,rfl⟩
section
variable {w w0:World} {S:Nat→Prop} {g gl:Nat} {m:DM} {a b:Nat}
theorem DW.nil2 (h:DW w0 w S g m gl ⟨a,b,[],[],false⟩):∃A c A2 c2,∀W,Below w.heap.size w W→W.cell? ⟨gl,3,none⟩=some (.slice A 0 c)∧W.cell? ⟨gl,4,none⟩=some (.slice A2 0 c2):=by
 obtain⟨⟨O,P,d,⟨tv,rv,xs,l⟩,_⟩,_⟩:=h
 obtain⟨A,c,rfl,_⟩:=OB.form l.text
 have hx:xs=[]:=List.map_eq_nil_iff.1 l.eq
 subst hx
 obtain⟨A2,c2,rfl,_⟩:=ah.form l.recs
 exact⟨A,c,A2,c2,fun W hW=>⟨Kq 3 ((hW.block gl (Cq l.cells)).trans l.cells),Kq 4 ((hW.block gl (Cq l.cells)).trans l.cells)⟩⟩
theorem DS.dd (h:DS w0 w g m):DD w0 w (fun k=>w0.heap.size≤k∧k<w.heap.size) g m:=by
 obtain⟨O,⟨bv,wv,ws,hd⟩,ho,hb⟩:=h
 exact⟨⟨fun k=>O k∧k<w.heap.size,⟨bv,wv,ws,hd.mono fun k hk h=>⟨h,hk⟩⟩,fun k hk=>⟨ho k hk.1,hk.2⟩⟩,fun k hk=>hk.1,fun k hk=>hk.2,hb⟩
set_option maxHeartbeats 4000000 in
theorem Xy (h:DD w0 w S g m) (hg:m.gone=false) (hb:∀i,i<3→m.b (3+i)=[]):
  Calls Tryz.prog 25 #[.pointer (some ⟨g,0,none⟩)] w fun e w'=>∃gs,e=.returned (.tuple #[.pointer (some ⟨gs,0,none⟩),.nilIface])∧SW w0 w' (ext S w w') g m gs ⟨0,1,[],[],false⟩ st0∧Below w.heap.size w w':=by
 have HO:=Hj (Xw h hg hb)
 have HU:Hid ((∀k,S k→w0.heap.size≤k∧k<w.heap.size)∧w0.heap.size≤w.heap.size):=Hj ⟨fun k hk=>⟨h.up k hk,h.hi k hk⟩,h.bel.size⟩
 clear h hg hb
 go_enter Tryz.func25,Tryz.ntmps25
 go_wp2_with (first
  | (go_at_call 61;((with_reducible refine HO.out.mono ?_);rintro e w1 ⟨gl,rfl,hd,hb1⟩;have D1:=Hj hd;have B1:=Hj hb1;clear hd hb1))
  | (go_at_call 28;((with_reducible refine(Jm w1).mono ?_);rintro e w2 ⟨rfl,ht,hb2⟩;have T2:=Hj ht;have B2:=Hj hb2;clear ht hb2))
  | (go_at_call 63;obtain⟨w3,hw3⟩:∃W,W=w2.alloc (.cells #[.pointer (some ⟨gl,0,none⟩),.pointer (some ⟨w1.heap.size,0,none⟩),.int .i64 0,.int .i64 0,.slice none 0 0] 104):=⟨_,rfl⟩;rw[←hw3];have B3:Hid (Below w1.heap.size w1 w3):=Hj (by rw[hw3];exact B2.out.alloc B2.out.size _);have HW3:=Hj hw3;clear hw3;obtain⟨A1,c1,A2,c2,hk⟩:=D1.out.nil2;have HK:=Hj hk;clear hk;((with_reducible refine(snap0 gl A1 c1 w3 (HK.out w3 B3.out).1).mono ?_);rintro e w4 ⟨A4,c4,rfl,hb4⟩;have B4:=Hj hb4;clear hb4))
  | (go_at_call 62;((with_reducible refine(Xx _ _ _ _).mono ?_);rintro e w' ⟨rfl,rfl⟩))
  | (go_at_call 64;((with_reducible refine(recs0 gl A2 c2 w4 (HK.out w4 (B3.out.trans (B4.out.mono B3.out.size))).2).mono ?_);rintro e w' ⟨rfl,rfl⟩))
  | fail)
 go_loopg [32] 0 (fun _ s32 wr=>s32=.int .i64 0∧wr=w4)
 case atStart=>exact⟨rfl,rfl⟩
 case round=>
  obtain⟨rfl,rfl⟩:=hrel
  go_wp2
  have hs:=(SW.born D1.out B2.out T2.out Kv HW3.out).below B4.out
  have hb3:=B1.out.trans (B3.out.mono B1.out.size)
  have hb4:=hb3.trans (B4.out.mono hb3.size)
  have hs4:=B4.out.size
  refine bodyPost_ret (results_tmp2 rfl _ _ _) rfl ⟨_,rfl,hs.mono (fun k hk=> ?_) (fun k hk=> ?_),hb4⟩
  ·rcases hk with (hk | hk) | hk
   ·exact .inl hk
   ·exact .inr ⟨hk.1,by have:=B3.out.size;omega⟩
   ·exact .inr ⟨by have:=B1.out.size;omega,by omega⟩
  ·have:=hb4.size
   have hu:=HU.out.2
   rcases hk with hk | hk
   ·have:=HU.out.1 k hk;omega
   ·omega
theorem lnk0 (room:Int) (h0:0≤room) (h1:room≤100000):uh ⟨room,fun _=>[],[],false,0,false⟩ ⟨0,1,[],[],false⟩ (fun _=>0) ⟨0,1,[]⟩:=
 ⟨⟨fun _=>[],ZY room h0 (by omega),on0,fun _ _=>rfl⟩,rfl,rfl,rfl,h0,h1⟩
set_option maxHeartbeats 4000000 in
theorem Ie (room:Int) (h0:0≤room) (h1:room≤100000) (w:World):Calls Tryz.prog 8 #[.int .i64 room] w fun e w'=>∃gs gd g Qs Qd,e=.returned (.tuple #[.pointer (some ⟨gs,0,none⟩),.pointer (some ⟨gd,0,none⟩)])∧SW w w' Qs g ⟨room,fun _=>[],[],false,0,false⟩ gs ⟨0,1,[],[],false⟩ st0∧dO w w' Qd gd ⟨room,fun _=>[],[],false,0,false⟩ ⟨0,1,[],[],false⟩ st0∧(∀k,Qs k→¬Qd k)∧Below w.heap.size w w':=by
 have HN:=Hj (YN (w0:=w) room (Below.refl _ w) h0 (by omega))
 have HL:=Hj (lnk0 room h0 h1)
 have HR:=Hj (And.intro h0 h1)
 clear h0 h1
 go_enter Tryz.func8,Tryz.ntmps8
 go_wp2_with (first
  | (go_at_call 24;((with_reducible refine HN.out.mono ?_);rintro e w1 ⟨rfl,hs⟩;have D1:=Hj hs.dd;clear hs))
  | (go_at_call 25;((with_reducible refine(Xy D1.out rfl (fun _ _=>rfl)).mono ?_);rintro e w2 ⟨gs,rfl,hs,hb⟩;have S2:=Hj hs;have B2:=Hj (D1.out.bel.trans (hb.mono D1.out.bel.size));clear hs hb))
  | (go_at_call 26;obtain⟨w3,hw3⟩:∃W,W=w2.alloc (.cells #[.int .i64 room,.slice none 0 0,.slice none 0 0,.slice none 0 0,.slice none 0 0,.bool false,.int .i64 0,.bool false] 80):=⟨_,rfl⟩;rw[←hw3];have b3:Below w2.heap.size w2 w3:=(by rw[hw3];exact(Below.refl _ w2).alloc Kv _);have h3:y9 w2 w3 w2.heap.size room:=⟨by rw[hw3];exact heap_alloc_new w2 _,HR.out.1,HR.out.2,b3,Nat.le_refl _⟩;((with_reducible refine(Zw (m:=⟨room,fun _=>[],[],false,0,false⟩) h3 HL.out).mono ?_);rintro e w4 ⟨gd,rfl,hr⟩;have S4:=Hj hr;clear hr h3 b3 hw3))
  | fail)
 have b4:=S4.out.bel
 refine bodyPost_ret (results_tmp2 rfl _ _ _) rfl ⟨gs,gd,_,_,_,rfl,S2.out.below b4,S4.out.base B2.out,fun k h1 h2=> ?_,B2.out.trans (b4.mono B2.out.size)⟩
 have:=S2.out.hi k h1
 omega
end
/-- A store and the document's, apart. -/
structure Two (w0 w:World) (Qs Qd:Nat→Prop) (g gs gd:Nat) (m:DM) (L:LM) (M:aY):Prop where
 s:SW w0 w Qs g m gs L M
 d:dO w0 w Qd gd m L M
 Xz:∀k,Qs k→¬Qd k
section
variable {w w' w0 w3 w4 w5:World} {Qs Qd Q:Nat→Prop} {g gs gd:Nat} {m m':DM} {L L':LM} {M M':aY} {ea:Nat→Addr}
theorem ay.below {k:Nat} (h:ay w k) (hb:Below w.heap.size w w') (hk:k<w.heap.size):ay w' k:=h.same (hb.block k hk)
theorem Two.below (h:Two w0 w Qs Qd g gs gd m L M) (hb:Below w.heap.size w w'):Two w0 w' Qs Qd g gs gd m L M:=⟨h.s.below hb,h.d.below hb,h.Xz⟩
theorem Two.first (h:Two w0 w Qs Qd g gs gd m L M) (hb:Below w.heap.size w w3):SW w0 w3 (fun k=>Qs k∧ay w k) g m gs L M:=h.s.narrow.below hb
theorem Two.second (h:Two w0 w Qs Qd g gs gd m L M) (hb:Below w.heap.size w w3) (hf:Fr (fun k=>Qs k∧ay w k) w3 w4):dO w0 w4 (fun k=>Qd k∧ay w k) gd m L M:=
 (h.d.narrow.below hb).fr hf (fun k h1 h2=>h.Xz k h2.1 h1.1) fun k hk=>h.s.up k hk.1
theorem Two.third (h:Two w0 w Qs Qd g gs gd m L M) (hb:Below w.heap.size w w3) (h4:SW w0 w4 (ext (fun k=>Qs k∧ay w k) w3 w4) g m' gs L' M') (hf:Fr (fun k=>Qs k∧ay w k) w3 w4) (h5:dO w0 w5 (ext (fun k=>Qd k∧ay w k) w4 w5) gd m' L' M') (hf5:Fr (fun k=>Qd k∧ay w k) w4 w5):
  Two w0 w5 (ext (fun k=>Qs k∧ay w k) w3 w4) (ext (fun k=>Qd k∧ay w k) w4 w5) g gs gd m' L' M'∧Fr (fun k=>(Qs k∨Qd k)∧ay w k) w w5:=by
 have s1:=hb.size
 have s2:=hf.size
 refine⟨⟨h4.fr hf5 (fun k h1 h2=> ?_) (fun k hk=>h.d.up k hk.1) (fun k hk=> ?_),h5,fun k h1 h2=> ?_⟩,?_⟩
 ·have hd:=h.d.hi k h2.1
  rcases h1 with h1 | h1
  ·exact h.Xz k h1.1 h2.1
  ·omega
 ·have hd:=h.d.hi k hk.1
  exact(hk.2.below hb hd).same (hf.block k (by omega) fun h1=>h.Xz k h1.1 hk.1)
 ·rcases h1 with h1 | h1<;>rcases h2 with h2 | h2
  ·exact h.Xz k h1.1 h2.1
  ·have:=h.s.hi k h1.1;omega
  ·have:=h.d.hi k h2.1;omega
  ·omega
 ·refine ((Fr.of_below (S:=fun k=>(Qs k∨Qd k)∧ay w k) hb).trans (hf.mono fun k _ hk=>⟨.inl hk.1,hk.2⟩) fun _ _ hk=>hk).trans (hf5.mono fun k _ hk=>⟨.inr hk.1,hk.2⟩) fun _ _ hk=>hk
/-- Where it is found, with what version. -/
theorem dO.findV (h:dO w0 w Q gs m L M) (hl:M.tab.length≤100000) (v:OV):
  Calls Tryz.prog 29 #[.pointer (some ⟨gs,0,none⟩),.agg #[.int .i64 v.kind,.string v.space,.string v.name,.int .i64 v.ver,.slice v.A v.n v.c]] w fun e w'=>∃r,e=.returned (.int .i64 r)∧Below w.heap.size w w'∧
   ((getM M v.kind v.space v.name=none∧r= -1)∨((getM M v.kind v.space v.name).isSome=true∧∃(k n c b o:Nat) (V:Int),r=(k:Int)∧k<n∧w'.cell? ⟨gs,1,none⟩=some (.slice (some ⟨b,o,none⟩) n c)∧w'.cell? ⟨b,o+k*5+3,none⟩=some (.int .i64 V))):=by
 obtain⟨Z,gl,av,ev,xs,ys,hv,-,-⟩:=h.use
 refine(Jb hv (by rw[hv.len.1];exact hl) v).mono ?_
 rintro e w' ⟨r,rfl,hf,hb⟩
 refine⟨r,rfl,hb,?_⟩
 rcases qV h.ok hf with ⟨h1,h2⟩ | ⟨i,o,h1,h3,h2,-⟩
 ·exact .inl ⟨h2,h1⟩
 ·obtain ⟨A,c,-,c1,hc⟩:=hv.row
  have hi:i<xs.length:=by
   have:=(List.getElem?_eq_some_iff.1 h3).1
   have:=hv.len.1
   omega
  obtain⟨b,q,rfl,hd⟩:=hc (by omega)
  have hk:=(hd i _ (List.getElem?_eq_getElem hi)).2.2.2.1
  exact .inr ⟨by rw[h2];rfl,i,xs.length,c,b,q,_,h1,hi,Kz hb _ _ c1,Kz hb _ _ hk⟩
end
end Go.Proofs.YtdhbpajamlfacaaGreatDoor
