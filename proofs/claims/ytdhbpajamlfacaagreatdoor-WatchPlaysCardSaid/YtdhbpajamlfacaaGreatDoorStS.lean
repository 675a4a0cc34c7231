/- Layer 20 (store): a store in memory, beside its disk and its log. -/
import Derived.Test.YtdhbpajamlfacaaGreatDoorStP
import Derived.Test.YtdhbpajamlfacaaGreatDoorTabSO
import Derived.Test.YtdhbpajamlfacaaGreatDoorWalN
namespace Go.Proofs.YtdhbpajamlfacaaGreatDoor
open Go.RowKit SO
section
variable {κ ν μ:Type} {lt:κ→κ→Bool}
theorem jy (f:ν→μ) (k:κ):∀l:List (κ×ν),look lt k (l.map fun x=>(x.1,f x.2))=(look lt k l).map f
 | []=>rfl
 | e::l=>by
  simp only[List.map_cons,look]
  split
  ·rfl
  ·split
   ·exact jy f k l
   ·rfl
theorem qJ (f:ν→μ) (k:κ) (v:ν):∀l:List (κ×ν),ins lt k (f v) (l.map fun x=>(x.1,f x.2))=(ins lt k v l).map fun x=>(x.1,f x.2)
 | []=>rfl
 | e::l=>by
  simp only[List.map_cons,ins]
  split
  ·rfl
  ·split
   ·rw [qJ f k v l];rfl
   ·rfl
theorem tC (f:ν→μ) (k:κ):∀l:List (κ×ν),rem lt k (l.map fun x=>(x.1,f x.2))=(rem lt k l).map fun x=>(x.1,f x.2)
 | []=>rfl
 | e::l=>by
  simp only[List.map_cons,rem]
  split
  ·rfl
  ·split
   ·rw [tC f k l];rfl
   ·rfl
theorem CS (f:ν→μ) {l:List (κ×ν)} (h:aT lt l):aT lt (l.map fun x=>(x.1,f x.2)):=by
 unfold aT
 rw[List.pairwise_map]
 exact h
theorem wO (f:ν→μ) {l:List (κ×ν)} (h:aT lt (l.map fun x=>(x.1,f x.2))):aT lt l:=by
 unfold aT at h
 rw[List.pairwise_map] at h
 exact h
theorem look_in {k:κ} {v:ν}:∀{l:List (κ×ν)},look lt k l=some v→∃k',(k',v)∈l
 | [],h=>by simp[look] at h
 | x::l,h=>by
  unfold look at h
  split at h
  ·cases h
  ·split at h
   ·obtain ⟨k',hk⟩:=look_in h
    exact⟨k',gK _ hk⟩
   ·injection h with h
    subst h
    exact⟨x.1,by simp⟩
end
def sl (v:OV):Value:=.slice v.A v.n v.c
/-- v is the object o. -/
structure dD (w:World) (v:OV) (o:aC):Prop where
 kind:v.kind=(o.kind:Int)
 space:v.space=o.space
 name:v.name=o.name
 ver:v.ver=(o.ver:Int)
 num:v.n=o.data.length
 data:OB w 0 (sl v) o.data
section
variable {w w' w0:World} {S X Q Z:Nat→Prop} {g gl gs gt:Nat} {m m':DM} {L L':LM} {M M':bQ} {v:OV} {o:aC}
theorem dD.eY (h:dD w v o) (hk:∀k,(sl v).ownBlock=some k→w'.heap[k]?=w.heap[k]?):dD w' v o:=⟨h.kind,h.space,h.name,h.ver,h.num,h.data.eY hk⟩
theorem dD.fr (h:dD w v o) (hf:Fr X w w') (hn:∀k,(sl v).ownBlock=some k→¬X k):dD w' v o:=h.eY fun k hk=>hf.block k (h.data.lt k hk).2 (hn k hk)
theorem dD.below (h:dD w v o) (hb:Bw w w'):dD w' v o:=h.eY fun k hk=>hb.block k (h.data.lt k hk).2
theorem dD.rb (h:dD w v o):RB w v.A v.n o.data:=by
 obtain⟨A,c,e,h1,h2,h3⟩:=h.data.form
 unfold sl at e
 injection e with e1 e2 e3
 rw[e1,e2]
 exact h3
theorem dD.cap (h:dD w v o):v.n≤v.c∧v.c≤maxLen:=by
 obtain⟨A,c,e,h1,h2,h3⟩:=h.data.form
 unfold sl at e
 injection e with e1 e2 e3
 rw[e2,e3]
 exact⟨h1,h2⟩
def iK (ys:List (Bool×(OV×aC))):List Value:=ys.flatMap fun y=>[.int .i64 (y.2.2.ver:Int),.bool y.1,.int .i64 y.2.1.kind,.string y.2.1.space,.string y.2.1.name,.int .i64 y.2.1.ver,sl y.2.1]
structure SV (w:World) (Z:Nat→Prop) (gl gs gt:Nat) (sh:Code) (ev:Value) (xs:List (ByteArray×(OV×aC))) (ys:List (Bool×(OV×aC))) (M:bQ):Prop where
 cells:w.heap[gs]?=some (.cells #[pt gl,pt gt,.int .i64 (M.rev:Int),.int .i64 (M.base:Int),ev] 104 (0,0))
 tab:TabAt w gt sh (xs.map fun x=>(x.1,x.2.1))
 nD:M.tab=xs.map fun x=>(x.1,x.2.2)
 each:∀x∈xs,dD w x.2.1 x.2.2
 evs:ah w 0 99 7 ev ys.length (iK ys)
 IE:M.evs=ys.map fun y=>(y.1,y.2.2)
 kY:∀y∈ys,dD w y.2.1 y.2.2
 ok:M.Ok
 zs:Z gs
 zt:Z gt
 ze:∀k,ev.ownBlock=some k→Z k
 zx:∀x∈xs,∀k,(sl x.2.1).ownBlock=some k→Z k
 zy:∀y∈ys,∀k,(sl y.2.1).ownBlock=some k→Z k
/-- Block k is no node. -/
def aH (w:World) (k:Nat):Prop:=∀cs,w.heap[k]?≠some (.cells cs 164 (0,0))
theorem aH.of {k:Nat} {cur:Array Value} {T:TypeId} (h:w.heap[k]?=some (.cells cur T (0,0))) (hT:T≠164):aH w k:=fun _ hc=>hT (ak h hc)
theorem aH.same {k:Nat} (h:aH w k) (e:w'.heap[k]?=w.heap[k]?):aH w' k:=fun cs hc=>h cs (by rw[←e];exact hc)
theorem aH.own {k n base e size:Nat} {v:Value} {xs:List Value} (h:ah w base e size v n xs) (hT:e≠164) (hk:v.ownBlock=some k):aH w k:=let ⟨_,hc⟩:=au h hk;aH.of hc hT
theorem DW.narrow (h:DW w0 w S g m gl L):DW w0 w (fun k=>S k∧aH w k) g m gl L:=by
 obtain⟨⟨⟨O,P,dk,⟨bv,wv,ws,d⟩,⟨tv,rv,xs,l⟩,hO,hP,hOP,hQ⟩,up,hi,bel⟩,ft⟩:=h
 exact⟨⟨⟨fun k=>O k∧aH w k,fun k=>P k∧aH w k,dk,⟨bv,wv,ws,⟨d.cells,d.eH,d.Np,d.eq,d.bytes,d.apart,d.qm,⟨d.jv,aH.of d.cells (by decide)⟩,fun i hi k hk=>⟨d.ownB i hi k hk,aH.own (d.eH i hi) (by decide) hk⟩,fun k hk=>⟨d.FD k hk,aH.own d.Np (by decide) hk⟩,fun x hx k hk=>⟨d.I9 x hx k hk,aH.own (d.bytes x hx) (by decide) hk⟩⟩⟩,
  ⟨tv,rv,xs,⟨l.cells,l.recs,⟨l.jv,aH.of l.cells (by decide)⟩,fun k hk=>⟨l.AL k hk,aH.own l.recs (by decide) hk⟩⟩⟩,fun k hk=>⟨hO k hk.1,hk.2⟩,fun k hk=>⟨hP k hk.1,hk.2⟩,fun k h1 h2=>hOP k h1.1 h2.1,hQ⟩,fun k hk=>up k hk.1,fun k hk=>hi k hk.1,bel⟩,ft⟩
variable {sh:Code} {ev:Value} {xs:List (ByteArray×(OV×aC))} {ys:List (Bool×(OV×aC))}
theorem SV.lt (h:SV w Z gl gs gt sh ev xs ys M):gs<w.heap.size:=(Cq h.cells)
theorem SV.fr (h:SV w Z gl gs gt sh ev xs ys M) (hf:Fr X w w') (hX:∀k,Z k→¬X k) (hn:∀k,X k→aH w k):SV w' Z gl gs gt sh ev xs ys M:=
 ⟨(hf.block gs h.lt (hX gs h.zs)).trans h.cells,h.tab.fr hf (hX gt h.zt) fun b _ hb hx=>hn b hx _ hb,h.nD,fun x hx=>(h.each x hx).fr hf fun k hk=>hX k (h.zx x hx k hk),h.evs.kept hf fun k hk=>hX k (h.ze k hk),h.IE,
  fun y hy=>(h.kY y hy).fr hf fun k hk=>hX k (h.zy y hy k hk),h.ok,h.zs,h.zt,h.ze,h.zx,h.zy⟩
theorem SV.below (h:SV w Z gl gs gt sh ev xs ys M) (hb:Bw w w'):SV w' Z gl gs gt sh ev xs ys M:=h.fr (X:=fun _=>False) (Fr.of_below hb) (fun _ _ x=>x) fun _ x=>x.elim
theorem SV.cell (h:SV w Z gl gs gt sh ev xs ys M):w.cell? ⟨gs,0,none⟩=some (pt gl)∧w.cell? ⟨gs,1,none⟩=some (pt gt)∧w.cell? ⟨gs,2,none⟩=some (.int .i64 (M.rev:Int))∧w.cell? ⟨gs,3,none⟩=some (.int .i64 (M.base:Int))∧w.cell? ⟨gs,4,none⟩=some ev:=
 ⟨bT _ _ _ _ _ _ h.cells,bT _ _ _ _ _ _ h.cells,bT _ _ _ _ _ _ h.cells,bT _ _ _ _ _ _ h.cells,bT _ _ _ _ _ _ h.cells⟩
theorem SV.fz (h:SV w Z gl gs gt sh ev xs ys M) (k:Nat):w.frozen? ⟨gs,k,none⟩=false:=Kj h.cells
theorem SV.tH (h:SV w Z gl gs gt sh ev xs ys M):aT aS (xs.map fun x=>(x.1,x.2.1)):=by
 have:=h.ok.tab.tH
 rw[h.nD] at this
 have:=wO (fun y:OV×aC=>y.2) this
 exact CS (fun y:OV×aC=>y.1) this
/-- A store, its log and its disk above a world that stands; Q: the blocks that are theirs, or forgotten. -/
structure SW (w0 w:World) (Q:Nat→Prop) (g:Nat) (m:DM) (gs:Nat) (L:LM) (M:bQ):Prop where
 sv:∃S Z gl gt sh ev xs ys,DW w0 w S g m gl L∧SV w Z gl gs gt sh ev xs ys M∧(∀k,S k→Q k)∧(∀k,Z k→Q k)∧(∀k,Z k→¬S k)∧(∀k,S k→aH w k)
 up:∀k,Q k→w0.heap.size≤k
 hi:∀k,Q k→k<w.heap.size
theorem SW.mono (h:SW w0 w Q g m gs L M) (hq:∀k,Q k→X k) (hu:∀k,X k→w0.heap.size≤k∧k<w.heap.size):SW w0 w X g m gs L M:=by
 obtain⟨⟨S,Z,gl,gt,sh,ev,xs,ys,h1,h2,h3,h4,h5,h6⟩,-,-⟩:=h
 exact⟨⟨S,Z,gl,gt,sh,ev,xs,ys,h1,h2,fun k hk=>hq k (h3 k hk),fun k hk=>hq k (h4 k hk),h5,h6⟩,fun k hk=>(hu k hk).1,fun k hk=>(hu k hk).2⟩
theorem SW.fr (h:SW w0 w Q g m gs L M) (hf:Fr X w w') (hX:∀k,Q k→¬X k) (hu:∀k,X k→w0.heap.size≤k) (hn:∀k,X k→aH w k):SW w0 w' Q g m gs L M:=by
 obtain⟨⟨S,Z,gl,gt,sh,ev,xs,ys,h1,h2,h3,h4,h5,h6⟩,up,hi⟩:=h
 exact⟨⟨S,Z,gl,gt,sh,ev,xs,ys,⟨h1.q.fr hf (fun k hk=>hX k (h3 k hk)) hu,h1.fit⟩,h2.fr hf (fun k hk=>hX k (h4 k hk)) hn,h3,h4,h5,fun k hk=>(h6 k hk).same (hf.block k (h1.q.hi k hk) (hX k (h3 k hk)))⟩,up,fun k hk=>dP (hi k hk) hf.size⟩
theorem SW.below (h:SW w0 w Q g m gs L M) (hb:Bw w w'):SW w0 w' Q g m gs L M:=h.fr (X:=fun _=>False) (Fr.of_below hb) (fun _ _ x=>x) (fun _ x=>x.elim) fun _ x=>x.elim
theorem SW.bel (h:SW w0 w Q g m gs L M):Bw w0 w:=let ⟨_,_,_,_,_,_,_,_,h1,_⟩:=h.sv;h1.q.bel
theorem SW.ok (h:SW w0 w Q g m gs L M):M.Ok:=let ⟨_,_,_,_,_,_,_,_,_,h2,_⟩:=h.sv;h2.ok
theorem gX {k:Nat} (hu:∀k,Q k→w0.heap.size≤k) (hi:∀k,Q k→k<w.heap.size) (h0:w0.heap.size≤w.heap.size) (hs:w.heap.size≤w'.heap.size) (h:ext Q w w' k):w0.heap.size≤k∧k<w'.heap.size:=
 h.elim (fun h=>⟨hu k h,dP (hi k h) hs⟩) fun h=>⟨Cz h0 h.1,h.2⟩
theorem SW.made (h:SW w0 w Q g m gs L M) (hb:Bw w w'):SW w0 w' (ext Q w w') g m gs L M∧Fr Q w w':=⟨(h.below hb).mono (fun _ hk=>.inl hk) fun _ hk=>gX h.up h.hi h.bel.size hb.size hk,Fr.of_below hb⟩
theorem SW.then {w1:World} (h:SW w0 w Q g m gs L M) (h1:Fr Q w w1) (h2:SW w0 w' (ext (ext Q w w1) w1 w') g m' gs L' M'∧Fr (ext Q w w1) w1 w'):SW w0 w' (ext Q w w') g m' gs L' M'∧Fr Q w w':=
 ⟨h2.1.mono (fun _ hk=>iE h1.size h2.2.size hk) fun _ hk=>gX h.up h.hi h.bel.size (Cz h1.size h2.2.size) hk,h1.trans h2.2 fun i hi hk=>hk.elim id fun hk=>absurd hk.1 (by omega)⟩
theorem SW.behind {w1:World} (h:SW w0 w Q g m gs L M) (hb:Bw w w1) (h2:SW w0 w' (ext Q w1 w') g m' gs L' M'∧Fr Q w1 w'):SW w0 w' (ext Q w w') g m' gs L' M'∧Fr Q w w':=
 ⟨h2.1.mono (fun _ hk=>hk.elim .inl fun hk=>.inr ⟨Cz hb.size hk.1,hk.2⟩) fun _ hk=>gX h.up h.hi h.bel.size (Cz hb.size h2.2.size) hk,(Fr.of_below (S:=Q) hb).trans h2.2 fun _ _ hk=>hk⟩
/-- What the log does. -/
theorem SW.log (h:SW w0 w Q g m gs L M):∃S gl,DW w0 w S g m gl L∧w.cell? ⟨gs,0,none⟩=some (pt gl)∧(∀k,S k→Q k)∧
  ∀w' m' L',DW w0 w' (ext S w w') g m' gl L'→Fr S w w'→SW w0 w' (ext Q w w') g m' gs L' M∧Fr Q w w':=by
 obtain⟨⟨S,Z,gl,gt,sh,ev,xs,ys,h1,h2,h3,h4,h5,h6⟩,up,hi⟩:=h
 refine⟨S,gl,h1,h2.cell.1,h3,fun w' m' L' hd hf=>⟨⟨⟨_,Z,gl,gt,sh,ev,xs,ys,hd.narrow,h2.fr hf h5 h6,?_,fun k hk=>.inl (h4 k hk),?_,fun k hk=>hk.2⟩,?_,?_⟩,hf.mono fun i _ hk=>h3 i hk⟩⟩
 ·exact fun k hk=>hk.1.elim (fun hk=>.inl (h3 k hk)) .inr
 ·exact fun k hk hs=>hs.1.elim (h5 k hk) fun hs=>absurd (hi k (h4 k hk)) (by omega)
 ·exact fun k hk=>(gX up hi h1.q.bel.size hf.size hk).1
 ·exact fun k hk=>(gX up hi h1.q.bel.size hf.size hk).2
/-- What the store does, and takes. -/
theorem SW.use (h:SW w0 w Q g m gs L M):∃Z gl gt sh ev xs ys,SV w Z gl gs gt sh ev xs ys M∧(∀k,Z k→Q k)∧
  ∀(w':World) (Z':Nat→Prop) (sh':Code) (ev':Value) (xs':List (ByteArray×(OV×aC))) (ys':List (Bool×(OV×aC))) (M':bQ) (Y:Nat→Prop),SV w' Z' gl gs gt sh' ev' xs' ys' M'→Fr Z w w'→(∀k,Y k→¬Q k∧w0.heap.size≤k∧k<w.heap.size)→(∀k,Z' k→Z k∨(w.heap.size≤k∧k<w'.heap.size)∨Y k)→
   SW w0 w' (fun k=>ext Q w w' k∨Y k) g m gs L M'∧Fr Q w w':=by
 obtain⟨⟨S,Z,gl,gt,sh,ev,xs,ys,h1,h2,h3,h4,h5,h6⟩,up,hi⟩:=h
 refine⟨Z,gl,gt,sh,ev,xs,ys,h2,h4,fun w' Z' sh' ev' xs' ys' M' Y hv hf hY hZ=>⟨⟨⟨S,Z',gl,gt,sh',ev',xs',ys',⟨h1.q.fr hf (fun k hs hz=>h5 k hz hs) (fun k hz=>up k (h4 k hz)),h1.fit⟩,hv,fun k hk=>.inl (.inl (h3 k hk)),?_,?_,?_⟩,?_,?_⟩,hf.mono fun i _ hk=>h4 i hk⟩⟩
 ·exact fun k hk=>(hZ k hk).elim (fun hk=>.inl (.inl (h4 k hk))) fun hk=>hk.elim (fun hk=>.inl (.inr hk)) .inr
 ·intro k hk hs
  rcases hZ k hk with hk | hk | hk
  ·exact h5 k hk hs
  ·have:=h1.q.hi k hs;omega
  ·exact (hY k hk).1 (h3 k hs)
 ·exact fun k hs=>(h6 k hs).same (hf.block k (h1.q.hi k hs) fun hz=>h5 k hz hs)
 ·exact fun k hk=>hk.elim (fun hk=>(gX up hi h1.q.bel.size hf.size hk).1) fun hk=>(hY k hk).2.1
 ·exact fun k hk=>hk.elim (fun hk=>(gX up hi h1.q.bel.size hf.size hk).2) fun hk=>dP (hY k hk).2.2 hf.size
end
theorem SW.Bq {w w0 w1:World} {Q:Nat→Prop} {g gs:Nat} {m:DM} {L:LM} {M:bQ} {ea:Nat→Addr} (h:SW w0 w Q g m gs L M) (he:Errs w0 ea) (hb1:Bw w w1):∀W,Bw w1 W→Errs W ea:=
  fun _ hW=>he.below (h.bel.trans ((hb1.trans (hW.mono hb1.size)).mono h.bel.size))
theorem SW.st1 {w w0 w1:World} {Q:Nat→Prop} {g gs:Nat} {m:DM} {L:LM} {M:bQ} (h:SW w0 w Q g m gs L M) (hb1:Bw w w1):∀W,Bw w1 W→SW w0 W Q g m gs L M:=
  fun _ hW=>(h.below hb1).below hW
end Go.Proofs.YtdhbpajamlfacaaGreatDoor
