/- Layer 21 (watch): what a watcher knows, in memory; New. -/
import Derived.Test.YtdhbpajamlfacaaGreatDoorWg
set_option maxHeartbeats 4000000
set_option maxRecDepth 100000
namespace Go.Proofs.YtdhbpajamlfacaaGreatDoor
open Go.RowKit SO
/-- The table g holds the objects K, their bytes lie in P. -/
def KT (w:World) (P:Nat→Prop) (g:Nat) (K:List (ByteArray×aC)):Prop:=∃(sh:Code) (xs:List (ByteArray×(OV×aC))),TabAt w g sh (xs.map fun x=>(x.1,x.2.1))∧K=xs.map (fun x=>(x.1,x.2.2))∧(∀x∈xs,dD w x.2.1 x.2.2∧∀k,(sl x.2.1).ownBlock=some k→P k)∧aT aS K
/-- v is a slice of the objects l. -/
def OS (w:World) (base:Nat) (v:Value) (l:List aC):Prop:=∃os:List (OV×aC),OL w base v (os.map fun x=>x.1)∧os.map (fun x=>x.2)=l∧∀x∈os,dD w x.1 x.2
/-- Only tables, reports, rows of objects turned. -/
def Sf (w w':World):Prop:=∃X:Nat→Prop,Fr X w w'∧∀k cs T,X k→w.heap[k]?=some (.cells cs T (0,0))→T=146∨T=43∨T=37∨T=85
section
variable {w w' w0:World} {X P P':Nat→Prop} {g base:Nat} {K:List (ByteArray×aC)} {v:Value} {l:List aC} {u:OV} {o:aC}
theorem Sf.own (h:Sf w w') {b e size n:Nat} {xs:List Value} (ho:ah w b e size v n xs) (h1:e≠146) (h2:e≠43) (h3:e≠37) (h4:e≠85):ah w' b e size v n xs:=by
 obtain⟨X,hf,hX⟩:=h
 refine ho.kept hf fun k hk hx=> ?_
 obtain⟨cur,hc⟩:=au ho hk
 rcases hX k _ _ hx hc with e | e | e | e
 ·exact h1 e
 ·exact h2 e
 ·exact h3 e
 ·exact h4 e
theorem Sf.Ig (h:Sf w w') (hv:dD w u o):dD w' u o:=⟨hv.kind,hv.space,hv.name,hv.ver,hv.num,h.own hv.data (by decide) (by decide) (by decide) (by decide)⟩
theorem Sf.of_below (h:Bw w w'):Sf w w':=⟨fun _=>False,Fr.of_below h,fun _ _ _ x=>x.elim⟩
theorem Sf.aK {cs:Array Value} {T:TypeId} {f:Nat×Nat} (hf:Fr (fun k=>k=g) w w') (hr:w.heap[g]?=some (.cells cs T f)) (hT:T=146∨T=43∨T=37∨T=85):Sf w w':=
 ⟨_,hf,fun k cs' T' hx hc=>by subst hx;rw[ak hc hr];exact hT⟩
theorem Sf.rW {b size n:Nat} {xs:List Value} (hf:Fr (fun k=>v.ownBlock=some k) w w') (ho:ah w b 37 size v n xs):Sf w w':=
 ⟨_,hf,fun k cs' T' hx hc=>by obtain⟨cur,hc2⟩:=au ho hx;exact .inr (.inr (.inl (ak hc hc2)))⟩
/-- A table stays, if its own block does. -/
theorem Sf.tab (h:Sf w w') (hk:KT w P g K) (hg:w'.heap[g]?=w.heap[g]?):KT w' P g K:=by
 obtain⟨X,hf,hX⟩:=h
 obtain⟨sh,xs,h1,h2,h3,h4⟩:=hk
 have hf2:Fr (fun k=>X k∧k≠g) w w':=⟨hf.os,hf.tape,hf.output,hf.size,fun i hi hn=>by
  by_cases e:i=g
  ·rw [e];exact hg
  ·exact hf.block i hi fun hx=>hn ⟨hx,e⟩⟩
 refine⟨sh,xs,h1.fr hf2 (fun hx=>hx.2 rfl) (fun b cs hb hx=> ?_),h2,fun x hx=>⟨Sf.Ig ⟨X,hf,hX⟩ (h3 x hx).1,(h3 x hx).2⟩,h4⟩
 rcases hX b _ _ hx.1 hb with e | e | e | e<;>exact absurd e (by decide)
theorem OS.nil (w:World) (base:Nat):OS w base (.slice none 0 0) []:=⟨[],OL.nil _ _,rfl,fun x hx=>by cases hx⟩
theorem OS.form (h:OS w base v l):∃A c,v=.slice A l.length c∧l.length≤c∧c≤maxLen:=by
 obtain⟨os,h1,rfl,-⟩:=h
 obtain⟨A,c,e,h2⟩:=ah.form h1
 exact⟨A,c,by rw[e,aX,aX],by simpa using h2⟩
theorem Sf.os (h:Sf w w') (hv:OS w base v l) (hs:∀k,v.ownBlock=some k→w'.heap[k]?=w.heap[k]?):OS w' base v l:=by
 obtain⟨os,h1,h2,h3⟩:=hv
 exact⟨os,ah.eY h1 hs,h2,fun x hx=>h.Ig (h3 x hx)⟩
theorem OS.below (h:OS w base v l) (hb:Bw w w'):OS w' base v l:=(Sf.of_below hb).os h fun k hk=>by
 obtain⟨os,h1,-⟩:=h
 exact hb.block k (ah.lt h1 k hk).2
theorem KT.below (h:KT w P g K) (hb:Bw w w'):KT w' P g K:=(Sf.of_below hb).tab h (by
 obtain⟨sh,xs,⟨p,h1,_⟩,-⟩:=h
 exact hb.block g (Cq h1))
theorem KT.mono (h:KT w P g K) (hp:∀k,P k→k<w.heap.size→P' k):KT w P' g K:=let ⟨sh,xs,h1,h2,h3,h4⟩:=h;⟨sh,xs,h1,h2,fun x hx=>⟨(h3 x hx).1,fun k hk=>hp k ((h3 x hx).2 k hk) ((h3 x hx).1.data.lt k hk).2⟩,h4⟩
theorem KT.fr (h:KT w P g K) (hf:Fr X w w') (hn:∀k,X k→aH w k∧k≠g∧¬P k):KT w' P g K:=by
 obtain⟨sh,xs,h1,h2,h3,h4⟩:=h
 exact⟨sh,xs,h1.fr hf (fun hx=>(hn g hx).2.1 rfl) fun b cs hb hx=>(hn b hx).1 cs hb,h2,fun x hx=>⟨(h3 x hx).1.fr hf fun k hk e=>(hn k e).2.2 ((h3 x hx).2 k hk),(h3 x hx).2⟩,h4⟩
theorem KT.row (h:KT w P g K):∃p,w.heap[g]?=some (.cells #[.pointer p] 146 (0,0)):=let ⟨_,_,⟨p,h1,_⟩,_⟩:=h;⟨p,h1⟩
theorem KT.xs {xs:List (ByteArray×(OV×aC))} (h:K=xs.map fun x=>(x.1,x.2.2)) (hr:aT aS K):aT aS xs∧aT aS (xs.map fun x=>(x.1,x.2.1)):=by
 rw[h] at hr
 have:=wO (fun y:OV×aC=>y.2) hr
 exact⟨this,CS (fun y:OV×aC=>y.1) this⟩
theorem KT.put (h:KT w P g K) (hv:dD w u o) (hp:∀k,(sl u).ownBlock=some k→P k) (k:ByteArray) (hl:K.length≤1000000):
  Cl 84 #[pt g,(.string k),(.agg (ov u))] w fun e w'=>(∃b,e=.returned (.bool b))∧KT w' P g (ins aS k o K)∧Fr (fun i=>i=g) w w':=by
 obtain⟨p,hr⟩:=h.row
 obtain⟨sh,xs,h1,h2,h3,h4⟩:=h
 obtain⟨r1,r2⟩:=KT.xs h2 h4
 refine(Xa g k u sh _ w h1 r2 (by have:=bJ List.length h2;simp only[List.length_map] at this ⊢;omega)).mono ?_
 rintro e w' ⟨rfl,ht,hf⟩
 refine⟨⟨_,rfl⟩,⟨lN aS k sh (xs.map fun x=>(x.1,x.2.1)),ins aS k (u,o) xs,?_,?_,fun x hx=> ?_,nU dh h4⟩,hf⟩
 ·have e:=qJ (lt:=aS) (fun y:OV×aC=>y.1) k (u,o) xs
  simp only at e
  rw[←e]
  exact ht
 ·rw [h2]
  exact qJ (lt:=aS) (fun y:OV×aC=>y.2) k (u,o) xs
 ·rcases tu hx with rfl | hx
  ·exact ⟨(Sf.aK hf hr (.inl rfl)).Ig hv,hp⟩
  ·exact ⟨(Sf.aK hf hr (.inl rfl)).Ig (h3 x hx).1,(h3 x hx).2⟩
theorem KT.del (h:KT w P g K) (k:ByteArray) (hl:K.length≤1000000):
  Cl 86 #[pt g,(.string k)] w fun e w'=>(∃b,e=.returned (.bool b))∧KT w' P g (rem aS k K)∧Fr (fun i=>i=g) w w':=by
 obtain⟨p,hr⟩:=h.row
 obtain⟨sh,xs,h1,h2,h3,h4⟩:=h
 obtain⟨r1,r2⟩:=KT.xs h2 h4
 refine(Xb g k sh _ w h1 r2 (by have:=bJ List.length h2;simp only[List.length_map] at this ⊢;omega)).mono ?_
 rintro e w' ⟨rfl,ht,hf⟩
 refine⟨⟨_,rfl⟩,⟨delS aS k sh (xs.map fun x=>(x.1,x.2.1)),rem aS k xs,?_,?_,fun x hx=>let h:=h3 x (mM.subset hx);⟨(Sf.aK hf hr (.inl rfl)).Ig h.1,h.2⟩,vF h4⟩,hf⟩
 ·have e:=tC (lt:=aS) (fun y:OV×aC=>y.1) k xs
  rw[←e]
  exact ht
 ·rw [h2]
  exact tC (lt:=aS) (fun y:OV×aC=>y.2) k xs
end
theorem KT.nil {w:World} {P:Nat→Prop} {g:Nat} (h:w.heap[g]?=some (.cells #[.pointer none] 146 (0,0))):KT w P g []:=⟨.skip,[],⟨none,h,rfl,rfl⟩,rfl,fun x hx=>(by cases hx),List.Pairwise.nil⟩
/-- New, of namespaces. -/
theorem newB (all:Bool) (w:World):Cl 9 #[.int .i64 1,.string ⟨#[]⟩,.bool all] w fun e w'=>∃gw gt,e=.returned (.tuple #[pt gw,.nilIface])∧iY w' gw gt 1 ⟨#[]⟩ all 0∧w'.heap[gt]?=some (.cells #[.pointer none] 146 (0,0))∧w.heap.size≤gw∧w.heap.size≤gt∧Bw w w':=by
 have HR:Hid (∀W,Cl 27 #[.agg #[.int .i64 1,.string ⟨#[]⟩,.string ⟨#[97]⟩,.int .i64 0,.slice none 0 0]] W fun e w'=>e=.returned (.bool true)∧Bw W w'):=Hj fun W=>(BR ⟨1,⟨#[]⟩,⟨#[97]⟩,0,none,0,0⟩ W).mono fun e w' h=>⟨h.1.trans (by kernel_rfl),h.2⟩
 cases all
 all_goals
  go_enter Tryz.func9,Tryz.ntmps9
  go_wp2_with (first
   | (go_at_call 27;obtain⟨w1,hw1⟩:∃W,W=w.alloc (.cells #[.int .i64 1,.string ⟨#[]⟩,.string ⟨#[97]⟩,.int .i64 0,.slice none 0 0] 37):=⟨_,rfl⟩;rw[←hw1];have B1:Hid (Bw w w1):=Hj (by rw[hw1];exact(aj _ w).alloc Kv _);clear hw1;((refine(HR.out w1).mono ?_);rintro e w2 ⟨rfl,hb⟩;have B2:=Hj (B1.out.trans (hb.mono B1.out.size));clear hb))
   | (go_at_call 28;((refine(Md w2).mono ?_);rintro e w3 ⟨rfl,⟨p,hp,rfl,-⟩,hb⟩;have T3:=Hj hp;have B3:=Hj hb;clear hp hb))
   | fail)
  have hb:=fun o=>(aj _ w3).alloc Kv o
  have hB:=B2.out.trans (B3.out.mono B2.out.size)
  exact bg (eG rfl _ _ _) rfl ⟨_,w2.heap.size,rfl,aA w3 _,((hb _).block _ (Cq T3.out)).trans T3.out,hB.size,B2.out.size,hB.trans ((hb _).mono hB.size)⟩
/-- A report at gr. -/
def Rep (w:World) (base gr:Nat) (an:Bool) (lp ld:List aC):Prop:=∃pv dv,w.heap[gr]?=some (.cells #[.bool an,pv,dv] 43 (0,0))∧OS w base pv lp∧OS w base dv ld∧∀k,pv.ownBlock=some k→dv.ownBlock≠some k
/-- A watcher on its way, since ws stood. -/
structure TI (P:Nat→Prop) (ws w:World) (gw gt gr:Nat) (kind:Int) (space:ByteArray) (all:Bool) (cur:Nat) (K:List (ByteArray×aC)) (an:Bool) (lp ld:List aC):Prop where
 row:iY w gw gt kind space all cur
 tab:KT w (fun k=>P k∨ws.heap.size≤k) gt K
 rep:Rep w ws.heap.size gr an lp ld
 fr:Fr (fun k=>k=gt) ws w
 up:ws.heap.size≤gr
def pI (kind:Int) (space:ByteArray) (all:Bool) (o:aC):Bool:=decide ((o.kind:Int)=kind)&&(all||decide (o.space=space))
section
variable {P:Nat→Prop} {ws w w' w4 w5 w8:World} {gw gt gr base cur:Nat} {kind:Int} {space:ByteArray} {all an:Bool} {K K':List (ByteArray×aC)} {lp ld l l2:List aC} {v v8 xv yv:Value} {u:OV} {o:aC}
theorem Rep.below (h:Rep w base gr an lp ld) (hb:Bw w w'):Rep w' base gr an lp ld:=by
 obtain⟨pv,dv,h1,h2,h3,h4⟩:=h
 exact⟨pv,dv,(hb.block gr (Cq h1)).trans h1,h2.below hb,h3.below hb,h4⟩
theorem TI.below (h:TI P ws w gw gt gr kind space all cur K an lp ld) (hb:Bw w w'):TI P ws w' gw gt gr kind space all cur K an lp ld:=
 ⟨(hb.block gw (Cq h.row)).trans h.row,h.tab.below hb,h.rep.below hb,h.fr.trans (Fr.of_below (S:=fun _=>False) hb) fun _ _ x=>x.elim,h.up⟩
theorem OS.own (h:OS w base v l) {k:Nat} (hk:v.ownBlock=some k):base≤k∧k<w.heap.size∧∃cs,w.heap[k]?=some (.cells cs 37 (0,0)):=by
 obtain⟨os,h1,-⟩:=h
 have:=ah.lt h1 k hk
 exact⟨this.1,this.2,au h1 hk⟩
/-- The table turned. -/
theorem TI.turn (h:TI P ws w gw gt gr kind space all cur K an lp ld) (hf:Fr (fun k=>k=gt) w w') (hk:KT w' (fun k=>P k∨ws.heap.size≤k) gt K'):TI P ws w' gw gt gr kind space all cur K' an lp ld∧Sf w w':=by
 obtain⟨p,ht⟩:=h.tab.row
 have hs:Sf w w':=Sf.aK hf ht (.inl rfl)
 obtain⟨pv,dv,h1,h2,h3,h4⟩:=h.rep
 have hne:∀{k:Nat} {cs:Array Value} {T:TypeId},w.heap[k]?=some (.cells cs T (0,0))→T≠146→w'.heap[k]?=w.heap[k]?:=fun {k cs T} hc hT=>hf.block k (Cq hc) fun e=>hT (ak (by rw[←e];exact hc) ht)
 exact⟨⟨(hne h.row (by decide)).trans h.row,hk,⟨pv,dv,(hne h1 (by decide)).trans h1,hs.os h2 fun k hk=>(let ⟨_,hc⟩:=(h2.own hk).2.2;hne hc (by decide)),hs.os h3 fun k hk=>(let ⟨_,hc⟩:=(h3.own hk).2.2;hne hc (by decide)),h4⟩,h.fr.trans hf fun _ _ x=>x,h.up⟩,hs⟩
/-- One more object in a report's row: what stays. -/
theorem CW (j:Nat) {cs:Array Value} (hr:w4.heap[gr]?=some (.cells cs 43 (0,0))) {os:List (OV×aC)} (hx1:OL w4 base xv (os.map fun x=>x.1)) (hx2:os.map (fun x=>x.2)=l) (hx3:∀x∈os,dD w4 x.1 x.2) (hy:OS w4 base yv l2) (hap:∀k,xv.ownBlock=some k→yv.ownBlock≠some k) (hb:Bw w4 w5) (hg:w5.grownBy w8 xv.ownBlock)
  (ho:OL w8 base v8 (os.map (fun x=>x.1)++[u])) (hat:v8.ownBlock=xv.ownBlock∨v8.ownBlock=some w5.heap.size) (hu:dD w4 u o):
  OS (w8.setCell ⟨gr,j,none⟩ v8) base v8 (l++[o])∧OS (w8.setCell ⟨gr,j,none⟩ v8) base yv l2∧(∀k,v8.ownBlock=some k→yv.ownBlock≠some k)∧Sf w4 (w8.setCell ⟨gr,j,none⟩ v8)∧w8.heap[gr]?=w4.heap[gr]?∧Fr (fun k=>xv.ownBlock=some k∨k=gr) w4 (w8.setCell ⟨gr,j,none⟩ v8):=by
 have hx:OS w4 base xv l:=⟨os,hx1,hx2,hx3⟩
 have hs5:=hb.size
 have hlt:=(Cq hr)
 have hxg:xv.ownBlock≠some gr:=fun e=>by obtain⟨_,hc⟩:=(hx.own e).2.2;exact absurd (ak hc hr) (by decide)
 have hfa:Fr (fun k=>xv.ownBlock=some k) w4 w8:=(Fr.of_below hb).trans (Fr.bF hg) fun k _ hk=>hk.symm
 have hfs:Fr (fun k=>k=gr) w8 (w8.setCell ⟨gr,j,none⟩ v8):=(Fr.refl (fun k=>k=gr) w8).setCell (p:=⟨gr,j,none⟩) (fun _=>rfl) _
 have hF:Fr (fun k=>xv.ownBlock=some k∨k=gr) w4 (w8.setCell ⟨gr,j,none⟩ v8):=(hfa.mono fun _ _ h=>.inl h).trans hfs fun _ _ h=>.inr h
 have hS:Sf w4 (w8.setCell ⟨gr,j,none⟩ v8):=⟨_,hF,fun k cs' T' hk hc=>by
  rcases hk with hk | rfl
  ·obtain ⟨_,hc2⟩:=(hx.own hk).2.2;exact .inr (.inr (.inl (ak hc hc2)))
  ·exact .inr (.inl (ak hc hr))⟩
 refine⟨⟨os++[(u,o)],?_,by rw[dI,hx2];rfl,fun x hx=> ?_⟩,hS.os hy fun k hk=> ?_,fun k hk he=> ?_,hS,hfa.block gr hlt hxg,hF⟩
 ·rw [dI]
  refine ah.kept ho hfs fun k hk e=> ?_
  rcases hat with hat | hat
  ·rw [hat,e] at hk;exact hxg hk
  ·rw [hat] at hk;injection hk with hk;omega
 ·rcases iO.1 hx with hx | hx
  ·exact hS.Ig (hx3 x hx)
  ·obtain rfl:=iq.1 hx;exact hS.Ig hu
 ·have hyk:=hy.own hk
  refine hF.block k hyk.2.1 fun e=> ?_
  rcases e with e | rfl
  ·exact hap k e hk
  ·obtain ⟨_,hc⟩:=hyk.2.2;exact absurd (ak hc hr) (by decide)
 ·rcases hat with hat | hat
  ·exact hap k (by rw[←hat];exact hk) he
  ·rw [hat] at hk;injection hk with hk
   have:=(hy.own he).2.1
   omega
theorem TI.MB (h:TI P ws w4 gw gt gr kind space all cur K an lp ld) (hr:w4.heap[gr]?=some (.cells #[.bool an,yv,xv] 43 (0,0))) {os:List (OV×aC)} (hx1:OL w4 ws.heap.size xv (os.map fun x=>x.1)) (hx2:os.map (fun x=>x.2)=ld) (hx3:∀x∈os,dD w4 x.1 x.2) (hy:OS w4 ws.heap.size yv lp) (hap:∀k,xv.ownBlock=some k→yv.ownBlock≠some k) (hb:Bw w4 w5) (hg:w5.grownBy w8 xv.ownBlock)
  (ho:OL w8 ws.heap.size v8 (os.map (fun x=>x.1)++[u])) (hat:v8.ownBlock=xv.ownBlock∨v8.ownBlock=some w5.heap.size) (hu:dD w4 u o):TI P ws (w8.setCell ⟨gr,2,none⟩ v8) gw gt gr kind space all cur K an lp (ld++[o])∧Sf w4 (w8.setCell ⟨gr,2,none⟩ v8):=by
 obtain⟨k1,k2,k3,k4,k5,k6⟩:=CW 2 hr hx1 hx2 hx3 hy hap hb hg ho hat hu
 have hx:OS w4 ws.heap.size xv ld:=⟨os,hx1,hx2,hx3⟩
 have hty:∀{k:Nat} {cs:Array Value} {T:TypeId},w4.heap[k]?=some (.cells cs T (0,0))→T≠43→T≠37→(w8.setCell ⟨gr,2,none⟩ v8).heap[k]?=w4.heap[k]?:=fun {k cs T} hc ha hb=>k6.block k (Cq hc) fun e=>e.elim (fun e=>let ⟨_,hc2⟩:=(hx.own e).2.2;hb (ak hc hc2)) fun e=>ha (ak (by rw[←e];exact hc) hr)
 obtain⟨p,ht⟩:=h.tab.row
 refine⟨⟨(hty h.row (by decide) (by decide)).trans h.row,k4.tab h.tab (hty ht (by decide) (by decide)),⟨_,_,aI _ _ 2 _ _ _ (k5.trans hr),k2,k1,fun k hk e=>k3 k e hk⟩,h.fr.trans k6 fun k hk e=> ?_,h.up⟩,k4⟩
 rcases e with e | rfl
 ·have:=(hx.own e).1;omega
 ·have:=h.up;omega
theorem TI.pushP (h:TI P ws w4 gw gt gr kind space all cur K an lp ld) (hr:w4.heap[gr]?=some (.cells #[.bool an,xv,yv] 43 (0,0))) {os:List (OV×aC)} (hx1:OL w4 ws.heap.size xv (os.map fun x=>x.1)) (hx2:os.map (fun x=>x.2)=lp) (hx3:∀x∈os,dD w4 x.1 x.2) (hy:OS w4 ws.heap.size yv ld) (hap:∀k,xv.ownBlock=some k→yv.ownBlock≠some k) (hb:Bw w4 w5) (hg:w5.grownBy w8 xv.ownBlock)
  (ho:OL w8 ws.heap.size v8 (os.map (fun x=>x.1)++[u])) (hat:v8.ownBlock=xv.ownBlock∨v8.ownBlock=some w5.heap.size) (hu:dD w4 u o):TI P ws (w8.setCell ⟨gr,1,none⟩ v8) gw gt gr kind space all cur K an (lp++[o]) ld∧Sf w4 (w8.setCell ⟨gr,1,none⟩ v8):=by
 obtain⟨k1,k2,k3,k4,k5,k6⟩:=CW 1 hr hx1 hx2 hx3 hy hap hb hg ho hat hu
 have hx:OS w4 ws.heap.size xv lp:=⟨os,hx1,hx2,hx3⟩
 have hty:∀{k:Nat} {cs:Array Value} {T:TypeId},w4.heap[k]?=some (.cells cs T (0,0))→T≠43→T≠37→(w8.setCell ⟨gr,1,none⟩ v8).heap[k]?=w4.heap[k]?:=fun {k cs T} hc ha hb=>k6.block k (Cq hc) fun e=>e.elim (fun e=>let ⟨_,hc2⟩:=(hx.own e).2.2;hb (ak hc hc2)) fun e=>ha (ak (by rw[←e];exact hc) hr)
 obtain⟨p,ht⟩:=h.tab.row
 refine⟨⟨(hty h.row (by decide) (by decide)).trans h.row,k4.tab h.tab (hty ht (by decide) (by decide)),⟨_,_,aI _ _ 1 _ _ _ (k5.trans hr),k1,k2,k3⟩,h.fr.trans k6 fun k hk e=> ?_,h.up⟩,k4⟩
 rcases e with e | rfl
 ·have:=(hx.own e).1;omega
 ·have:=h.up;omega
end
def mZ (kind:Int) (space:ByteArray) (all:Bool) (K:List (ByteArray×aC)) (e:Bool×aC):List (ByteArray×aC):=if pI kind space all e.2=true then (if e.1=true then rem aS (wkey e.2.space e.2.name) K else ins aS (wkey e.2.space e.2.name) e.2 K) else K
def iZ (d:Bool) (kind:Int) (space:ByteArray) (all:Bool) (l:List aC) (e:Bool×aC):List aC:=if pI kind space all e.2=true∧e.1=d then l++[e.2] else l
theorem Sf.trans {w w' w3:World} (h1:Sf w w') (h2:Sf w' w3):Sf w w3:=by
 obtain⟨X,f1,t1⟩:=h1
 obtain⟨Y,f2,t2⟩:=h2
 refine⟨fun k=>X k∨Y k,(f1.mono fun _ _ h=>.inl h).trans f2 fun _ _ h=>.inr h,fun k cs T hk hc=> ?_⟩
 by_cases hx:X k
 ·exact t1 k cs T hx hc
 ·exact t2 k cs T (hk.resolve_left hx) ((f1.block k (Cq hc) hx).trans hc)
theorem Sf.drew {w w':World} (h:Sf w.drew w'):Sf w w':=let ⟨X,h1,h2⟩:=h;⟨X,h1.IJ,h2⟩
theorem qR {w4 w5 w8:World} {gr base:Nat} {cs:Array Value} {xv:Value} {os:List OV} (hr:w4.heap[gr]?=some (.cells cs 43 (0,0))) (hx:OL w4 base xv os) (hb:Bw w4 w5) (hg:w5.grownBy w8 xv.ownBlock):w8.heap[gr]?=some (.cells cs 43 (0,0)):=by
 refine(((Fr.of_below (S:=fun k=>xv.ownBlock=some k) hb).trans (Fr.bF hg) fun k _ hk=>hk.symm).block gr (Cq hr) fun e=> ?_).trans hr
 obtain⟨_,hc⟩:=au hx e
 exact absurd (ak hc hr) (by decide)
theorem qH {ops:Array Oper} {o:Oper} {a:Act} {w:World} {K:Act→World→Prop} {Q:Exit→Act→World→Prop} {E:Prop} (hgd:o.guard=none) (s x:Operand)
  (ho:o.op=.call {callee:=.builtin .append,args:=#[s,x],argTypes:=#[41,41]})
  {base:Nat} {v:Value} {l:List OV} (hown:OL w base v l) (hs:a.eval s=v)
  {xv:Value} {u:OV} (hsrc:Src Tryz.prog 5 41 xv 1 (jJ u) w) (hx:a.eval x=xv) (hbytes:l.length≤900000) (hbase:base≤w.heap.size)
  (h:∀v' w',OL w' base v' (l++[u])→w.grownBy w' v.ownBlock→(v'.ownBlock=v.ownBlock∨v'.ownBlock=some w.heap.size)→K (a.put o.dst v') w'):
  if Region.wanted o (yielded ops a.tmps)=true then Oper.wp Tryz.prog o a w K Q else E:=by
 obtain⟨i0,hi,hz0,hz1,hz2⟩:=kJ qO
 refine dA hgd s x 41 41 ho i0 _ 72 Tryz.underlying41 hi hz0 hz1 hz2 rfl (by omega) hs hown xv 1 _ hx hsrc (by unfold maxLen;omega) (by omega) hbase fun v' w' h1 h2 h3=>h v' w' ?_ h2 h3
 unfold OL
 rw[qA,bP]
 exact h1
section
variable {P:Nat→Prop} {ws w:World} {gw gt gr cur:Nat} {kind:Int} {space:ByteArray} {all an:Bool} {K:List (ByteArray×aC)} {lp ld:List aC}
theorem takeW (h:TI P ws w gw gt gr kind space all cur K an lp ld) (d:Bool) (r:Int) (v:OV) (o:aC) (hv:dD w v o) (hn:v.n≤1000000) (hs:v.space.size≤1000) (hm:v.name.size≤1000) (hK:K.length≤100000) (hp:lp.length≤100000) (hd:ld.length≤100000):
  Cl 40 #[pt gw,pt gr,.agg #[.int .i64 r,.bool d,.int .i64 v.kind,.string v.space,.string v.name,.int .i64 v.ver,.slice v.A v.n v.c]] w fun e w'=>e=.returned (.tuple #[])∧TI P ws w' gw gt gr kind space all cur (mZ kind space all K (d,o)) an (iZ false kind space all lp (d,o)) (iZ true kind space all ld (d,o))∧Sf w w':=by
 obtain⟨w2,hw2⟩:∃W,W=(w.alloc (.cells #[.int .i64 r,.bool d,.int .i64 v.kind,.string v.space,.string v.name,.int .i64 v.ver,.slice v.A v.n v.c] 99)).alloc (.cells (ov v) 37):=⟨_,rfl⟩
 obtain⟨B,hB⟩:∃B,B=w.heap.size:=⟨_,rfl⟩
 obtain⟨k1,k2,k3⟩:=aP w (.cells #[.int .i64 r,.bool d,.int .i64 v.kind,.string v.space,.string v.name,.int .i64 v.ver,.slice v.A v.n v.c] 99) (.cells (ov v) 37)
 rw[←hw2] at k1 k2 k3
 rw[←hB] at k1 k2
 have HK:Hid (∀W,Bw w2 W→W.heap[B]?=some (.cells #[.int .i64 r,.bool d,.int .i64 v.kind,.string v.space,.string v.name,.int .i64 v.ver,.slice v.A v.n v.c] 99 (0,0))∧W.heap[B+1]?=some (.cells (ov v) 37 (0,0))):=Hj fun W hW=>
  ⟨(hW.block _ (Cq k1)).trans k1,(hW.block _ (Cq k2)).trans k2⟩
 have HB:Hid (∀W,Bw w2 W→Bw w W):=Hj fun W hW=>k3.trans (hW.mono k3.size)
 have JX:=Hj (Tq (h.below k3).row v)
 have hfol:iW kind space all v=pI kind space all o:=by unfold iW pI;rw[hv.kind,hv.space]
 have HT:Hid (∀W,Bw w W→TI P ws W gw gt gr kind space all cur K an lp ld∧dD W v o):=Hj fun W hW=>⟨h.below hW,hv.below hW⟩
 have EU:Hid (∀W,TI P ws W gw gt gr kind space all cur K an lp ld→Cl 86 #[pt gt,(.string (wkey v.space v.name))] W fun e w'=>(∃b,e=.returned (.bool b))∧(TI P ws w' gw gt gr kind space all cur (rem aS (wkey v.space v.name) K) an lp ld∧Sf W w')∧Fr (fun k=>k=gt) W w'):=Hj fun W hW=>(hW.tab.del _ (by omega)).mono fun e w' ⟨h1,h2,h3⟩=>⟨h1,hW.turn h3 h2,h3⟩
 have uO:Hid (∀W A c,TI P ws W gw gt gr kind space all cur K an lp ld→dD W (⟨v.kind,v.space,v.name,v.ver,A,v.n,c⟩:OV) o→(∀k,(Value.slice A v.n c).ownBlock=some k→ws.heap.size≤k)→Cl 84 #[pt gt,(.string (wkey v.space v.name)),.agg #[.int .i64 v.kind,.string v.space,.string v.name,.int .i64 v.ver,.slice A v.n c]] W fun e w'=>(∃b,e=.returned (.bool b))∧(TI P ws w' gw gt gr kind space all cur (ins aS (wkey v.space v.name) o K) an lp ld∧Sf W w')∧Fr (fun k=>k=gt) W w'):=Hj fun W A c hW hv' hp'=>(hW.tab.put hv' (fun k hk=>.inr (hp' k hk)) _ (by omega)).mono fun e w' ⟨h1,h2,h3⟩=>⟨h1,hW.turn h3 h2,h3⟩
 have OW:Hid (∀W,Bw w W→Cl 48 #[.agg (ov v)] W fun e w'=>∃A1 c1,e=.returned (.agg #[.int .i64 v.kind,.string v.space,.string v.name,.int .i64 v.ver,.slice A1 v.n c1])∧dD w' (⟨v.kind,v.space,v.name,v.ver,A1,v.n,c1⟩:OV) o∧Bw W w'∧∀k,(Value.slice A1 v.n c1).ownBlock=some k→ws.heap.size≤k):=Hj fun W hW=>(xY v W o.data (hv.below hW).rb hn).mono fun e w' ⟨A1,c1,h1,h2,h3⟩=>⟨A1,c1,h1,⟨hv.kind,hv.space,hv.name,hv.ver,hv.num,ah.mono h2 fun _ _=>bU _⟩,h3,fun k hk=>Cz (Cz h.fr.size hW.size) (ah.lt h2 k hk).1⟩
 have uN:Hid (∀W,Cl 54 #[.string v.space,.string v.name] W fun e w'=>e=.returned (.string (wkey v.space v.name))∧w'=W):=Hj fun W=>Wv v.space v.name W hs hm
 have HW:=Hj (aB hw2 hB)
 have HL:=Hj (aB hp hd)
 have hks:wkey v.space v.name=wkey o.space o.name:=by rw[hv.space,hv.name]
 have HKs:=Hj hks
 have HFl:=Hj hfol
 have KC:Hid (∀W,TI P ws W gw gt gr kind space all cur K an lp ld→W.cell? ⟨gw,3,none⟩=some (pt gt)):=Hj fun W hW=>Kq 3 hW.row
 clear h hv hn hs hm hK hp hd hw2 hB k1 k2 k3 hfol hks
 obtain⟨b,hb⟩:∃b,b=pI kind space all o:=⟨_,rfl⟩
 have WB:=Hj hb
 rw[HFl.out,←WB.out] at JX
 clear hb
 go_enter Tryz.func40,Tryz.ntmps40
 cases b with
 | false=>
  go_wp2_with (first
   | (go_at_call 85;rw[←HW.out.1];((refine JX.out.mono ?_);rintro e w3 ⟨rfl,hb3⟩;have B3:=Hj hb3;clear hb3))
   | fail)
  refine bg (fM rfl _ _ _) rfl ⟨rfl,?_,Sf.of_below (HB.out w3 B3.out)⟩
  have:=WB.out
  unfold mZ iZ
  simp only[←this]
  exact(HT.out w3 (HB.out w3 B3.out)).1
 | true=>
  have hB0:gt≠B+1:=fun e=>by
   obtain⟨p,ht⟩:=(HT.out w (aj _ _)).1.tab.row
   have:=(Cq ht)
   have:=HW.out.2
   omega
  have HB0:=Hj hB0
  clear hB0
  cases d with
  | true=>
   go_wp2_with (first
    | (go_at_call 85;rw[←HW.out.1];((refine JX.out.mono ?_);rintro e w3 ⟨rfl,hb3⟩;have B3:=Hj hb3;rw[←HW.out.2];obtain⟨x0,x1⟩:=HK.out w3 hb3;have X1:=Hj x1;have T3:=Hj (HT.out w3 (HB.out w3 hb3));have c1:w3.cell? ⟨B,1,none⟩=some (.bool _):=Kq 1 x0;obtain⟨b0,b1,b2,b3,b4⟩:VB w3 (B+1) v:=VB.aK x1;have j3:=KC.out w3 T3.out.1;clear hb3 x0 x1))
    | fail)
   go_region_held3 (fun w'=>w'.cell? ⟨gw,3,none⟩=some (pt gt)∧w'.cell? ⟨B+1,1,none⟩=some (.string v.space)∧w'.cell? ⟨B+1,2,none⟩=some (.string v.name)) (first | exact⟨by assumption,by assumption,by assumption⟩ | go_keep) (first
    | (go_at_call 54;((refine(uN.out _).mono ?_);rintro e w' ⟨rfl,rfl⟩))
    | (go_at_call 86;((refine(EU.out _ (T3.out.1.below (bV (aj _ _)))).mono ?_);rintro e w4 ⟨⟨bb,rfl⟩,⟨h1,h2⟩,h3⟩;have T4:=Hj h1;have S4:Hid (Sf w w4):=Hj ((Sf.of_below (HB.out w3 B3.out)).trans h2.drew);have X4:=Hj ((h3.block (B+1) (Cq X1.out) fun e=>HB0.out e.symm).trans X1.out);obtain⟨d0,d1,d2,d3,d4⟩:VB w4 (B+1) v:=VB.aK X4.out;have j4:w4.cell? ⟨gw,3,none⟩=some (pt gt):=Kq 3 h1.row;clear h1 h2 h3))
    | fail)
   obtain⟨pv,dv,hr,ho1,⟨os,hx1,hx2,hx3⟩,hap⟩:=T4.out.rep
   have r2:w4.cell? ⟨gr,2,none⟩=some dv:=Kq 2 hr
   have q2:∀o,(w4.alloc o).cell? ⟨gr,2,none⟩=some dv:=fun o=>Kz ((aj _ w4).alloc Kv o) _ _ r2
   have HX:=Hj hx1
   have HR:=Hj hr
   have HD:Hid ((os.map fun x=>x.1).length≤900000):=Hj (by rw[aX];have:=bJ List.length hx2;rw[aX] at this;have:=HL.out.2;omega)
   have HP:Hid (∀w8 v8,OL w8 ws.heap.size v8 (os.map (fun x=>x.1)++[v])→(w4.alloc (.cells (ov v) 37)).drew.grownBy w8 dv.ownBlock→(v8.ownBlock=dv.ownBlock∨v8.ownBlock=some (w4.alloc (.cells (ov v) 37)).drew.heap.size)→TI P ws (w8.setCell ⟨gr,2,none⟩ v8) gw gt gr kind space all cur (rem aS (wkey v.space v.name) K) an lp (ld++[o])∧Sf w4 (w8.setCell ⟨gr,2,none⟩ v8)):=Hj fun w8 v8 h1 h2 h3=>T4.out.MB hr hx1 hx2 hx3 ho1 (fun k h1 h2=>hap k h2 h1) (aJ ((aj _ w4).alloc Kv _)) h2 h1 h3 (S4.out.Ig (HT.out w (aj _ _)).2)
   clear hx1 hx2 hx3 ho1 hap hr
   go_wp2
   go_region_law (first
    | (refine qH rfl (.tmp 29) (.tmp 31) (by rfl) (ah.below HX.out (aJ ((aj _ w4).alloc Kv _))) (by rfl) (uz (cp:=1) (v:=v) (aA w4 _)) (by rfl) HD.out (by have:=T4.out.fr.size;simp;omega) ?_;intro v8 w8 xJ EN Xd;obtain⟨A8,n8,c8,rfl⟩:∃A n c,v8=.slice A n c:=(let ⟨A,c,e,_⟩:=ah.form xJ;⟨A,_,c,e⟩);have z2:w8.cell? ⟨gr,2,none⟩=some dv:=Kq 2 (qR HR.out HX.out (aJ ((aj _ w4).alloc Kv _)) EN);have zf:w8.frozen? ⟨gr,2,none⟩=false:=Kj (qR HR.out HX.out (aJ ((aj _ w4).alloc Kv _)) EN);have T8:=Hj (HP.out w8 _ xJ EN Xd);clear xJ EN Xd)
    | fail)
   all_goals
    go_wp2
    refine bg (fM rfl _ _ _) rfl ⟨rfl,?_,S4.out.trans T8.out.2⟩
    have:=WB.out
    unfold mZ iZ
    simp only[←this]
    rw[←HKs.out]
    exact T8.out.1
  | false=>
   go_wp2_with (first
    | (go_at_call 85;rw[←HW.out.1];((refine JX.out.mono ?_);rintro e w3 ⟨rfl,hb3⟩;have B3:=Hj hb3;rw[←HW.out.2];obtain⟨x0,x1⟩:=HK.out w3 hb3;have X1:=Hj x1;have T3:=Hj (HT.out w3 (HB.out w3 hb3));have c1:w3.cell? ⟨B,1,none⟩=some (.bool _):=Kq 1 x0;obtain⟨b0,b1,b2,b3,b4⟩:VB w3 (B+1) v:=VB.aK x1;have j3:=KC.out w3 T3.out.1;clear hb3 x0 x1))
    | fail)
   go_region_held3 (fun w'=>w'.cell? ⟨gw,3,none⟩=some (pt gt)∧w'.cell? ⟨B+1,0,none⟩=some (.int .i64 v.kind)∧w'.cell? ⟨B+1,1,none⟩=some (.string v.space)∧w'.cell? ⟨B+1,2,none⟩=some (.string v.name)∧w'.cell? ⟨B+1,3,none⟩=some (.int .i64 v.ver)∧w'.cell? ⟨B+1,4,none⟩=some (.slice v.A v.n v.c)) (first | exact⟨by assumption,by assumption,by assumption,by assumption,by assumption,by assumption⟩ | go_keep) (first
    | (go_at_call 54;((refine(uN.out _).mono ?_);rintro e w' ⟨rfl,rfl⟩))
    | (go_at_call 48;((refine(OW.out w3.drew (aJ (HB.out w3 B3.out))).mono ?_);rintro e wc ⟨A1,c1',rfl,h1,h2,h5⟩;have I5:=Hj (aB h1 h5);have BC:Hid (Bw w3 wc):=Hj ((aJ (aj _ w3)).trans h2);have XC:=Hj ((BC.out.block (B+1) (Cq X1.out)).trans X1.out);obtain⟨e0,e1,e2,e3,e4⟩:VB wc (B+1) v:=VB.aK XC.out;have e5:=KC.out wc (T3.out.1.below BC.out);clear h1 h2 h5))
    | (go_at_call 84;((refine(uO.out wc A1 c1' (T3.out.1.below BC.out) I5.out.1 I5.out.2).mono ?_);rintro e w4 ⟨⟨bb,rfl⟩,⟨h1,h2⟩,h3⟩;have T4:=Hj h1;have S4:Hid (Sf w w4):=Hj ((Sf.of_below ((HB.out w3 B3.out).trans (BC.out.mono (HB.out w3 B3.out).size))).trans h2);have X4:=Hj ((h3.block (B+1) (Cq XC.out) fun e=>HB0.out e.symm).trans XC.out);obtain⟨d0,d1,d2,d3,d4⟩:VB w4 (B+1) v:=VB.aK X4.out;have j4:w4.cell? ⟨gw,3,none⟩=some (pt gt):=Kq 3 h1.row;clear h1 h2 h3))
    | fail)
   obtain⟨pv,dv,hr,⟨os,hx1,hx2,hx3⟩,ho1,hap⟩:=T4.out.rep
   have r2:w4.cell? ⟨gr,1,none⟩=some pv:=Kq 1 hr
   have q2:∀o,(w4.alloc o).cell? ⟨gr,1,none⟩=some pv:=fun o=>Kz ((aj _ w4).alloc Kv o) _ _ r2
   have HX:=Hj hx1
   have HR:=Hj hr
   have HD:Hid ((os.map fun x=>x.1).length≤900000):=Hj (by rw[aX];have:=bJ List.length hx2;rw[aX] at this;have:=HL.out.1;omega)
   have HP:Hid (∀w8 v8,OL w8 ws.heap.size v8 (os.map (fun x=>x.1)++[v])→(w4.alloc (.cells (ov v) 37)).drew.grownBy w8 pv.ownBlock→(v8.ownBlock=pv.ownBlock∨v8.ownBlock=some (w4.alloc (.cells (ov v) 37)).drew.heap.size)→TI P ws (w8.setCell ⟨gr,1,none⟩ v8) gw gt gr kind space all cur (ins aS (wkey v.space v.name) o K) an (lp++[o]) ld∧Sf w4 (w8.setCell ⟨gr,1,none⟩ v8)):=Hj fun w8 v8 h1 h2 h3=>T4.out.pushP hr hx1 hx2 hx3 ho1 hap (aJ ((aj _ w4).alloc Kv _)) h2 h1 h3 (S4.out.Ig (HT.out w (aj _ _)).2)
   clear hx1 hx2 hx3 ho1 hap hr
   go_wp2
   go_region_law (first
    | (refine qH rfl (.tmp 51) (.tmp 53) (by rfl) (ah.below HX.out (aJ ((aj _ w4).alloc Kv _))) (by rfl) (uz (cp:=1) (v:=v) (aA w4 _)) (by rfl) HD.out (by have:=T4.out.fr.size;simp;omega) ?_;intro v8 w8 xJ EN Xd;obtain⟨A8,n8,c8,rfl⟩:∃A n c,v8=.slice A n c:=(let ⟨A,c,e,_⟩:=ah.form xJ;⟨A,_,c,e⟩);have z2:w8.cell? ⟨gr,1,none⟩=some pv:=Kq 1 (qR HR.out HX.out (aJ ((aj _ w4).alloc Kv _)) EN);have zf:w8.frozen? ⟨gr,1,none⟩=false:=Kj (qR HR.out HX.out (aJ ((aj _ w4).alloc Kv _)) EN);have T8:=Hj (HP.out w8 _ xJ EN Xd);clear xJ EN Xd)
    | fail)
   all_goals
    refine bodyPost_end (fM rfl _ _ _) rfl ⟨rfl,?_,S4.out.trans T8.out.2⟩
    have:=WB.out
    unfold mZ iZ
    simp only[←this]
    rw[←HKs.out]
    exact T8.out.1
end
end Go.Proofs.YtdhbpajamlfacaaGreatDoor
