/- Layer 20 (store): a store in memory, beside its disk and its log. -/
import Derived.Test.YtdhbpajamlfacaaGreatDoorStP
import Derived.Test.YtdhbpajamlfacaaGreatDoorTabSO
import Derived.Test.YtdhbpajamlfacaaGreatDoorWalT
import Derived.Test.YtdhbpajamlfacaaGreatDoorWalN
import Derived.Test.YtdhbpajamlfacaaGreatDoorDerR
namespace Go.Proofs.YtdhbpajamlfacaaGreatDoor
open Go.RowKit SO
section
variable {κ ν μ:Type} {lt:κ→κ→Bool}
theorem jL (f:ν→μ) (k:κ):∀l:List (κ×ν),look lt k (l.map fun x=>(x.1,f x.2))=(look lt k l).map f
 | []=>rfl
 | e::l=>by
  simp only[List.map_cons,look]
  split
  ·rfl
  ·split
   ·exact jL f k l
   ·rfl
theorem nZ (f:ν→μ) (k:κ) (v:ν):∀l:List (κ×ν),ins lt k (f v) (l.map fun x=>(x.1,f x.2))=(ins lt k v l).map fun x=>(x.1,f x.2)
 | []=>rfl
 | e::l=>by
  simp only[List.map_cons,ins]
  split
  ·rfl
  ·split
   ·rw [nZ f k v l];rfl
   ·rfl
theorem qy (f:ν→μ) (k:κ):∀l:List (κ×ν),rem lt k (l.map fun x=>(x.1,f x.2))=(rem lt k l).map fun x=>(x.1,f x.2)
 | []=>rfl
 | e::l=>by
  simp only[List.map_cons,rem]
  split
  ·rfl
  ·split
   ·rw [qy f k l];rfl
   ·rfl
theorem zK (f:ν→μ) {l:List (κ×ν)} (h:aO lt l):aO lt (l.map fun x=>(x.1,f x.2)):=by
 unfold aO
 rw[List.pairwise_map]
 exact h
theorem uw (f:ν→μ) {l:List (κ×ν)} (h:aO lt (l.map fun x=>(x.1,f x.2))):aO lt l:=by
 unfold aO at h
 rw[List.pairwise_map] at h
 exact h
theorem look_in {k:κ} {v:ν}:∀{l:List (κ×ν)},look lt k l=some v→∃k',(k',v)∈l
 | [],h=>by simp[look] at h
 | x::l,h=>by
  unfold look at h
  split at h
  ·cases h
  ·split at h
   ·obtain ⟨k',hk⟩:=look_in h
    exact⟨k',List.mem_cons_of_mem _ hk⟩
   ·injection h with h
    subst h
    exact⟨x.1,by simp⟩
end
def sl (v:OV):Value:=.slice v.A v.n v.c
/-- v is the object o. -/
structure dI (w:World) (v:OV) (o:aH):Prop where
 kind:v.kind=(o.kind:Int)
 space:v.space=o.space
 name:v.name=o.name
 ver:v.ver=(o.ver:Int)
 num:v.n=o.data.length
 data:OB w 0 (sl v) o.data
section
variable {w w' w0:World} {S X Q Z:Nat→Prop} {g gl gs gt:Nat} {m m':DM} {L L':LM} {M M':aY} {v:OV} {o:aH}
theorem dI.dP (h:dI w v o) (hk:∀k,(sl v).ownBlock=some k→w'.heap[k]?=w.heap[k]?):dI w' v o:=⟨h.kind,h.space,h.name,h.ver,h.num,h.data.dP hk⟩
theorem dI.fr (h:dI w v o) (hf:Fr X w w') (hn:∀k,(sl v).ownBlock=some k→¬X k):dI w' v o:=h.dP fun k hk=>hf.block k (h.data.lt k hk).2 (hn k hk)
theorem dI.below (h:dI w v o) (hb:Below w.heap.size w w'):dI w' v o:=h.dP fun k hk=>hb.block k (h.data.lt k hk).2
theorem dI.rb (h:dI w v o):RB w v.A v.n o.data:=by
 obtain⟨A,c,e,h1,h2,h3⟩:=h.data.form
 unfold sl at e
 injection e with e1 e2 e3
 rw[e1,e2]
 exact h3
theorem dI.cap (h:dI w v o):v.n≤v.c∧v.c≤maxLen:=by
 obtain⟨A,c,e,h1,h2,h3⟩:=h.data.form
 unfold sl at e
 injection e with e1 e2 e3
 rw[e2,e3]
 exact⟨h1,h2⟩
def gZ (ys:List (Bool×(OV×aH))):List Value:=ys.flatMap fun y=>[.int .i64 (y.2.2.ver:Int),.bool y.1,.int .i64 y.2.1.kind,.string y.2.1.space,.string y.2.1.name,.int .i64 y.2.1.ver,sl y.2.1]
structure SV (w:World) (Z:Nat→Prop) (gl gs gt:Nat) (sh:Code) (ev:Value) (xs:List (ByteArray×(OV×aH))) (ys:List (Bool×(OV×aH))) (M:aY):Prop where
 cells:w.heap[gs]?=some (.cells #[.pointer (some ⟨gl,0,none⟩),.pointer (some ⟨gt,0,none⟩),.int .i64 (M.rev:Int),.int .i64 (M.base:Int),ev] 104 (0,0))
 tab:TabAt w gt sh (xs.map fun x=>(x.1,x.2.1))
 kK:M.tab=xs.map fun x=>(x.1,x.2.2)
 each:∀x∈xs,dI w x.2.1 x.2.2
 evs:ah w 0 99 7 ev ys.length (gZ ys)
 Jr:M.evs=ys.map fun y=>(y.1,y.2.2)
 mG:∀y∈ys,dI w y.2.1 y.2.2
 ok:M.Ok
 zs:Z gs
 zt:Z gt
 ze:∀k,ev.ownBlock=some k→Z k
 zx:∀x∈xs,∀k,(sl x.2.1).ownBlock=some k→Z k
 zy:∀y∈ys,∀k,(sl y.2.1).ownBlock=some k→Z k
/-- Block k is no node. -/
def ay (w:World) (k:Nat):Prop:=∀cs,w.heap[k]?≠some (.cells cs 164 (0,0))
theorem ay.of {k:Nat} {cur:Array Value} {T:TypeId} (h:w.heap[k]?=some (.cells cur T (0,0))) (hT:T≠164):ay w k:=fun _ hc=>hT (aj h hc)
theorem ay.same {k:Nat} (h:ay w k) (e:w'.heap[k]?=w.heap[k]?):ay w' k:=fun cs hc=>h cs (by rw[←e];exact hc)
theorem DW.narrow (h:DW w0 w S g m gl L):DW w0 w (fun k=>S k∧ay w k) g m gl L:=by
 obtain⟨⟨O,P,⟨bv,wv,ws,d⟩,⟨tv,rv,xs,l⟩,hO,hP,hOP⟩,up,hi,bel⟩:=h
 refine⟨⟨fun k=>O k∧ay w k,fun k=>P k∧ay w k,⟨bv,wv,ws,⟨d.cells,d.dJ,d.JM,d.eq,d.bytes,d.apart,d.nH,⟨d.fE,ay.of d.cells (by decide)⟩,?_,?_,?_⟩⟩,
  ⟨tv,rv,xs,⟨l.cells,l.text,l.recs,l.eq,l.each,⟨l.fE,ay.of l.cells (by decide)⟩,?_,?_,?_⟩⟩,fun k hk=>⟨hO k hk.1,hk.2⟩,fun k hk=>⟨hP k hk.1,hk.2⟩,fun k h1 h2=>hOP k h1.1 h2.1⟩,fun k hk=>up k hk.1,fun k hk=>hi k hk.1,bel⟩
 ·intro i hi k hk
  obtain⟨cur,hc⟩:=ak (d.dJ i hi) hk
  exact⟨d.ownB i hi k hk,ay.of hc (by decide)⟩
 ·intro k hk
  obtain⟨cur,hc⟩:=ak d.JM hk
  exact⟨d.Dv k hk,ay.of hc (by decide)⟩
 ·intro x hx k hk
  obtain⟨cur,hc⟩:=ak (d.bytes x hx) hk
  exact⟨d.qJ x hx k hk,ay.of hc (by decide)⟩
 ·intro k hk
  obtain⟨cur,hc⟩:=ak l.text hk
  exact⟨l.LQ k hk,ay.of hc (by decide)⟩
 ·intro k hk
  obtain⟨cur,hc⟩:=ak l.recs hk
  exact⟨l.uT k hk,ay.of hc (by decide)⟩
 ·intro x hx k hk
  obtain⟨cur,hc⟩:=ak (l.each x hx) hk
  exact⟨l.qJ x hx k hk,ay.of hc (by decide)⟩
theorem DW.fr (h:DW w0 w S g m gl L) (hf:Fr X w w') (hX:∀k,S k→¬X k) (hu:∀k,X k→w0.heap.size≤k):DW w0 w' S g m gl L:=by
 obtain⟨⟨O,P,⟨bv,wv,ws,d⟩,l,hO,hP,hOP⟩,up,hi,bel⟩:=h
 refine⟨⟨O,P,⟨bv,wv,ws,d.Z8 hf fun k hk=>hX k (hO k hk)⟩,l.fr hf fun k hk=>hX k (hP k hk),hO,hP,hOP⟩,up,fun k hk=>Nat.lt_of_lt_of_le (hi k hk) hf.size,⟨hf.os.trans bel.os,hf.tape.trans bel.tape,hf.output.trans bel.output,Cz bel.size hf.size,fun k hk=> ?_⟩⟩
 exact(hf.block k (Nat.lt_of_lt_of_le hk bel.size) fun hx=>by have:=hu k hx;omega).trans (bel.block k hk)
variable {sh:Code} {ev:Value} {xs:List (ByteArray×(OV×aH))} {ys:List (Bool×(OV×aH))}
theorem SV.lt (h:SV w Z gl gs gt sh ev xs ys M):gs<w.heap.size:=(Cq h.cells)
theorem SV.fr (h:SV w Z gl gs gt sh ev xs ys M) (hf:Fr X w w') (hX:∀k,Z k→¬X k) (hn:∀k,X k→ay w k):SV w' Z gl gs gt sh ev xs ys M:=
 ⟨(hf.block gs h.lt (hX gs h.zs)).trans h.cells,h.tab.fr hf (hX gt h.zt) fun b _ hb hx=>hn b hx _ hb,h.kK,fun x hx=>(h.each x hx).fr hf fun k hk=>hX k (h.zx x hx k hk),h.evs.kept hf fun k hk=>hX k (h.ze k hk),h.Jr,
  fun y hy=>(h.mG y hy).fr hf fun k hk=>hX k (h.zy y hy k hk),h.ok,h.zs,h.zt,h.ze,h.zx,h.zy⟩
theorem SV.below (h:SV w Z gl gs gt sh ev xs ys M) (hb:Below w.heap.size w w'):SV w' Z gl gs gt sh ev xs ys M:=h.fr (X:=fun _=>False) (Fr.of_below hb) (fun _ _ x=>x) fun _ x=>x.elim
theorem SV.cell (h:SV w Z gl gs gt sh ev xs ys M):w.cell? ⟨gs,0,none⟩=some (.pointer (some ⟨gl,0,none⟩))∧w.cell? ⟨gs,1,none⟩=some (.pointer (some ⟨gt,0,none⟩))∧w.cell? ⟨gs,2,none⟩=some (.int .i64 (M.rev:Int))∧w.cell? ⟨gs,3,none⟩=some (.int .i64 (M.base:Int))∧w.cell? ⟨gs,4,none⟩=some ev:=
 ⟨cell_of_row _ _ _ _ _ _ h.cells,cell_of_row _ _ _ _ _ _ h.cells,cell_of_row _ _ _ _ _ _ h.cells,cell_of_row _ _ _ _ _ _ h.cells,cell_of_row _ _ _ _ _ _ h.cells⟩
theorem SV.fz (h:SV w Z gl gs gt sh ev xs ys M) (k:Nat):w.frozen? ⟨gs,k,none⟩=false:=Kj h.cells
theorem SV.CX (h:SV w Z gl gs gt sh ev xs ys M):aO aJ (xs.map fun x=>(x.1,x.2.1)):=by
 have:=h.ok.tab.CX
 rw[h.kK] at this
 have:=uw (fun y:OV×aH=>y.2) this
 exact zK (fun y:OV×aH=>y.1) this
/-- A store, its log and its disk above a world that stands; Q: the blocks that are theirs, or forgotten. -/
structure SW (w0 w:World) (Q:Nat→Prop) (g:Nat) (m:DM) (gs:Nat) (L:LM) (M:aY):Prop where
 sv:∃S Z gl gt sh ev xs ys,DW w0 w S g m gl L∧SV w Z gl gs gt sh ev xs ys M∧(∀k,S k→Q k)∧(∀k,Z k→Q k)∧(∀k,Z k→¬S k)∧(∀k,S k→ay w k)
 up:∀k,Q k→w0.heap.size≤k
 hi:∀k,Q k→k<w.heap.size
theorem SW.mono (h:SW w0 w Q g m gs L M) (hq:∀k,Q k→X k) (hu:∀k,X k→w0.heap.size≤k∧k<w.heap.size):SW w0 w X g m gs L M:=by
 obtain⟨⟨S,Z,gl,gt,sh,ev,xs,ys,h1,h2,h3,h4,h5,h6⟩,-,-⟩:=h
 exact⟨⟨S,Z,gl,gt,sh,ev,xs,ys,h1,h2,fun k hk=>hq k (h3 k hk),fun k hk=>hq k (h4 k hk),h5,h6⟩,fun k hk=>(hu k hk).1,fun k hk=>(hu k hk).2⟩
theorem SW.fr (h:SW w0 w Q g m gs L M) (hf:Fr X w w') (hX:∀k,Q k→¬X k) (hu:∀k,X k→w0.heap.size≤k) (hn:∀k,X k→ay w k):SW w0 w' Q g m gs L M:=by
 obtain⟨⟨S,Z,gl,gt,sh,ev,xs,ys,h1,h2,h3,h4,h5,h6⟩,up,hi⟩:=h
 exact⟨⟨S,Z,gl,gt,sh,ev,xs,ys,h1.fr hf (fun k hk=>hX k (h3 k hk)) hu,h2.fr hf (fun k hk=>hX k (h4 k hk)) hn,h3,h4,h5,fun k hk=>(h6 k hk).same (hf.block k (h1.hi k hk) (hX k (h3 k hk)))⟩,up,fun k hk=>Nat.lt_of_lt_of_le (hi k hk) hf.size⟩
theorem SW.below (h:SW w0 w Q g m gs L M) (hb:Below w.heap.size w w'):SW w0 w' Q g m gs L M:=h.fr (X:=fun _=>False) (Fr.of_below hb) (fun _ _ x=>x) (fun _ x=>x.elim) fun _ x=>x.elim
theorem SW.bel (h:SW w0 w Q g m gs L M):Below w0.heap.size w0 w:=let ⟨_,_,_,_,_,_,_,_,h1,_⟩:=h.sv;h1.bel
theorem SW.ok (h:SW w0 w Q g m gs L M):M.Ok:=let ⟨_,_,_,_,_,_,_,_,_,h2,_⟩:=h.sv;h2.ok
theorem eU {k:Nat} (hu:∀k,Q k→w0.heap.size≤k) (hi:∀k,Q k→k<w.heap.size) (h0:w0.heap.size≤w.heap.size) (hs:w.heap.size≤w'.heap.size) (h:ext Q w w' k):w0.heap.size≤k∧k<w'.heap.size:=
 h.elim (fun h=>⟨hu k h,Nat.lt_of_lt_of_le (hi k h) hs⟩) fun h=>⟨Cz h0 h.1,h.2⟩
theorem SW.made (h:SW w0 w Q g m gs L M) (hb:Below w.heap.size w w'):SW w0 w' (ext Q w w') g m gs L M∧Fr Q w w':=⟨(h.below hb).mono (fun _ hk=>.inl hk) fun _ hk=>eU h.up h.hi h.bel.size hb.size hk,Fr.of_below hb⟩
theorem SW.then {w1:World} (h:SW w0 w Q g m gs L M) (h1:Fr Q w w1) (h2:SW w0 w' (ext (ext Q w w1) w1 w') g m' gs L' M'∧Fr (ext Q w w1) w1 w'):SW w0 w' (ext Q w w') g m' gs L' M'∧Fr Q w w':=
 ⟨h2.1.mono (fun _ hk=>iC h1.size h2.2.size hk) fun _ hk=>eU h.up h.hi h.bel.size (Cz h1.size h2.2.size) hk,h1.trans h2.2 fun i hi hk=>hk.elim id fun hk=>absurd hk.1 (by omega)⟩
theorem SW.behind {w1:World} (h:SW w0 w Q g m gs L M) (hb:Below w.heap.size w w1) (h2:SW w0 w' (ext Q w1 w') g m' gs L' M'∧Fr Q w1 w'):SW w0 w' (ext Q w w') g m' gs L' M'∧Fr Q w w':=
 ⟨h2.1.mono (fun _ hk=>hk.elim .inl fun hk=>.inr ⟨Cz hb.size hk.1,hk.2⟩) fun _ hk=>eU h.up h.hi h.bel.size (Cz hb.size h2.2.size) hk,(Fr.of_below (S:=Q) hb).trans h2.2 fun _ _ hk=>hk⟩
/-- What the log does. -/
theorem SW.log (h:SW w0 w Q g m gs L M):∃S gl,DW w0 w S g m gl L∧w.cell? ⟨gs,0,none⟩=some (.pointer (some ⟨gl,0,none⟩))∧(∀k,S k→Q k)∧
  ∀w' m' L',DW w0 w' (ext S w w') g m' gl L'→Fr S w w'→SW w0 w' (ext Q w w') g m' gs L' M∧Fr Q w w':=by
 obtain⟨⟨S,Z,gl,gt,sh,ev,xs,ys,h1,h2,h3,h4,h5,h6⟩,up,hi⟩:=h
 refine⟨S,gl,h1,h2.cell.1,h3,fun w' m' L' hd hf=>⟨⟨⟨_,Z,gl,gt,sh,ev,xs,ys,hd.narrow,h2.fr hf h5 h6,?_,fun k hk=>.inl (h4 k hk),?_,fun k hk=>hk.2⟩,?_,?_⟩,hf.mono fun i _ hk=>h3 i hk⟩⟩
 ·exact fun k hk=>hk.1.elim (fun hk=>.inl (h3 k hk)) .inr
 ·exact fun k hk hs=>hs.1.elim (h5 k hk) fun hs=>absurd (hi k (h4 k hk)) (by omega)
 ·exact fun k hk=>(eU up hi h1.bel.size hf.size hk).1
 ·exact fun k hk=>(eU up hi h1.bel.size hf.size hk).2
/-- What the store does, and takes. -/
theorem SW.use (h:SW w0 w Q g m gs L M):∃Z gl gt sh ev xs ys,SV w Z gl gs gt sh ev xs ys M∧(∀k,Z k→Q k)∧
  ∀(w':World) (Z':Nat→Prop) (sh':Code) (ev':Value) (xs':List (ByteArray×(OV×aH))) (ys':List (Bool×(OV×aH))) (M':aY) (Y:Nat→Prop),SV w' Z' gl gs gt sh' ev' xs' ys' M'→Fr Z w w'→(∀k,Y k→¬Q k∧w0.heap.size≤k∧k<w.heap.size)→(∀k,Z' k→Z k∨(w.heap.size≤k∧k<w'.heap.size)∨Y k)→
   SW w0 w' (fun k=>ext Q w w' k∨Y k) g m gs L M'∧Fr Q w w':=by
 obtain⟨⟨S,Z,gl,gt,sh,ev,xs,ys,h1,h2,h3,h4,h5,h6⟩,up,hi⟩:=h
 refine⟨Z,gl,gt,sh,ev,xs,ys,h2,h4,fun w' Z' sh' ev' xs' ys' M' Y hv hf hY hZ=>⟨⟨⟨S,Z',gl,gt,sh',ev',xs',ys',h1.fr hf (fun k hs hz=>h5 k hz hs) (fun k hz=>up k (h4 k hz)),hv,fun k hk=>.inl (.inl (h3 k hk)),?_,?_,?_⟩,?_,?_⟩,hf.mono fun i _ hk=>h4 i hk⟩⟩
 ·exact fun k hk=>(hZ k hk).elim (fun hk=>.inl (.inl (h4 k hk))) fun hk=>hk.elim (fun hk=>.inl (.inr hk)) .inr
 ·intro k hk hs
  rcases hZ k hk with hk | hk | hk
  ·exact h5 k hk hs
  ·have:=h1.hi k hs;omega
  ·exact (hY k hk).1 (h3 k hs)
 ·exact fun k hs=>(h6 k hs).same (hf.block k (h1.hi k hs) fun hz=>h5 k hz hs)
 ·exact fun k hk=>hk.elim (fun hk=>(eU up hi h1.bel.size hf.size hk).1) fun hk=>(hY k hk).2.1
 ·exact fun k hk=>hk.elim (fun hk=>(eU up hi h1.bel.size hf.size hk).2) fun hk=>Nat.lt_of_lt_of_le (hY k hk).2.2 hf.size
end
theorem SW.yR {w w0 w1:World} {Q:Nat→Prop} {g gs:Nat} {m:DM} {L:LM} {M:aY} {ea:Nat→Addr} (h:SW w0 w Q g m gs L M) (he:Errs w0 ea) (hb1:Below w.heap.size w w1):∀W,Below w1.heap.size w1 W→Errs W ea:=
  fun _ hW=>he.below (h.bel.trans ((hb1.trans (hW.mono hb1.size)).mono h.bel.size))
theorem SW.st1 {w w0 w1:World} {Q:Nat→Prop} {g gs:Nat} {m:DM} {L:LM} {M:aY} (h:SW w0 w Q g m gs L M) (hb1:Below w.heap.size w w1):∀W,Below w1.heap.size w1 W→SW w0 W Q g m gs L M:=
  fun _ hW=>(h.below hb1).below hW
theorem kJ {w:World} {b b':Nat} {cs cs':Array Value} {T T':TypeId} (hb:w.heap[b]?=some (.cells cs T (0,0))) (e:b=b') (hc:w.heap[b']?=some (.cells cs' T' (0,0))) (hT:T≠T'):False:=by
 subst e
 exact hT (aj hb hc)
theorem zT:(Tryz.prog.info? 99).map (fun i=>(i.zero,i.size,i.bytes))=some (some (.agg #[.int .i64 0,.bool false,.int .i64 0,.string ⟨#[]⟩,.string ⟨#[]⟩,.int .i64 0,.slice none 0 0]),7,88):=by kernel_rfl
theorem xQ {ops:Array Oper} {o:Oper} {a:Act} {w:World} {K:Act→World→Prop} {Q:Exit→Act→World→Prop} {E:Prop} (hgd:o.guard=none) (s x:Operand)
  (ho:o.op=.call {callee:=.builtin .append,args:=#[s,x],argTypes:=#[95,95]})
  {base:Nat} {v:Value} {n:Nat} {ws:List Value} (hown:ah w base 99 7 v n ws) (hs:a.eval s=v)
  {xv:Value} {news:List Value} (hsrc:Src Tryz.prog 7 95 xv 1 news w) (hx:a.eval x=xv) (hbytes:n≤1000000) (hbase:base≤w.heap.size)
  (h:∀v' w',ah w' base 99 7 v' (n+1) (ws++news)→w.grownBy w' v.ownBlock→(v'.ownBlock=v.ownBlock∨v'.ownBlock=some w.heap.size)→K (a.put o.dst v') w'):
  if Region.wanted o (yielded ops a.tmps)=true then Oper.wp Tryz.prog o a w K Q else E:=by
 obtain⟨i0,hi,hz0,hz1,hz2⟩:=bW zT
 exact bH hgd s x 95 95 ho i0 _ 88 Tryz.underlying95 hi hz0 hz1 hz2 rfl (by omega) hs hown xv 1 _ hx hsrc (by unfold maxLen;omega) (by omega) hbase fun v' w' h1 h2 h3=>h v' w' h1 h2 h3
def jA (d:Bool) (r:Nat) (v:OV):List Value:=[.int .i64 (r:Int),.bool d,.int .i64 v.kind,.string v.space,.string v.name,.int .i64 v.ver,sl v]
theorem ny (ys:List (Bool×(OV×aH))) (d:Bool) (v:OV) (o:aH):gZ (ys++[(d,(v,o))])=gZ ys++jA d o.ver v:=by simp[gZ,jA]
theorem Src.ev (w:World) (d:Bool) (r:Nat) (v:OV):Src Tryz.prog 7 95 (.slice (some ⟨w.heap.size,0,none⟩) 1 1) 1 (jA d r v) (w.alloc (.cells #[.int .i64 (r:Int),.bool d,.int .i64 v.kind,.string v.space,.string v.name,.int .i64 v.ver,.slice v.A v.n v.c] 99)):=
 Src.ofSlice _ Tryz.underlying95 _ _ 1 _ rfl (fun j u hu=>World.news_of_block (cs:=#[.int .i64 (r:Int),.bool d,.int .i64 v.kind,.string v.space,.string v.name,.int .i64 v.ver,.slice v.A v.n v.c]) (heap_alloc_new w _) j u hu) (fun u hu=>by
  simp only[jA,List.mem_cons,List.not_mem_nil,or_false] at hu
  rcases hu with rfl | rfl | rfl | rfl | rfl | rfl | rfl<;>rfl)
section
variable {w w' w0:World} {Z Q:Nat→Prop} {g gl gs gt:Nat} {m:DM} {L:LM} {M:aY} {v nv:OV} {sh sh':Code} {ev ev':Value} {xs:List (ByteArray×(OV×aH))} {ys:List (Bool×(OV×aH))} {e:Bool×aH}
/-- The object of the change as the events tell it. -/
def iy (M:aY) (e:Bool×aH):aH:=if e.1=true then {e.2 with data:=M.was (aN e.2)} else e.2
theorem Io (M:aY) (e:Bool×aH):(M.app e).evs=M.evs++[(e.1,iy M e)]:=by
 obtain⟨d,o⟩:=e
 cases d<;>rfl
theorem yI (M:aY) (e:Bool×aH):(iy M e).ver=e.2.ver:=by
 unfold iy
 split<;>rfl
def vN (xs:List (ByteArray×(OV×aH))) (v:OV) (e:Bool×aH):List (ByteArray×(OV×aH)):=if e.1=true then rem aJ (aN e.2) xs else ins aJ (aN e.2) (v,e.2) xs
theorem SV.MV (hV:SV w Z gl gs gt sh ev xs ys M) (hf:Fr (fun k=>k=gs∨k=gt∨ev.ownBlock=some k) w w') {x:Value} {l:List UInt8} (h:OB w 0 x l):OB w' 0 x l:=by
 refine ah.kept h hf fun k hk hx=> ?_
 obtain⟨cur,hcur⟩:=ak h hk
 rcases hx with rfl | rfl | hx
 ·exact absurd (aj hcur hV.cells) (by decide)
 ·obtain ⟨p,hp,-⟩:=hV.tab
  exact absurd (aj hcur hp) (by decide)
 ·obtain ⟨cur',jh⟩:=ak hV.evs hx
  exact absurd (aj hcur jh) (by decide)
theorem SV.keeps (hV:SV w Z gl gs gt sh ev xs ys M) (hf:Fr (fun k=>k=gs∨k=gt∨ev.ownBlock=some k) w w') {x:OV} {o:aH} (h:dI w x o):dI w' x o:=⟨h.kind,h.space,h.name,h.ver,h.num,hV.MV hf h.data⟩
theorem SV.applied (hV:SV w Z gl gs gt sh ev xs ys M) (hf:Fr (fun k=>k=gs∨k=gt∨ev.ownBlock=some k) w w') (hc:M.Can e) (hv:dI w v e.2)
  (row:w'.heap[gs]?=some (.cells #[.pointer (some ⟨gl,0,none⟩),.pointer (some ⟨gt,0,none⟩),.int .i64 (e.2.ver:Int),.int .i64 (M.base:Int),ev'] 104 (0,0)))
  (tab:TabAt w' gt sh' ((vN xs v e).map fun x=>(x.1,x.2.1))) (evs:ah w' 0 99 7 ev' (ys.length+1) (gZ ys++jA e.1 e.2.ver nv)) (hown:∀k,ev'.ownBlock=some k→ev.ownBlock=some k∨(w.heap.size≤k∧k<w'.heap.size))
  (hn:dI w' nv (iy M e)) (hnb:∀k,(sl nv).ownBlock=some k→w.heap.size≤k):
  SV w' (fun k=>Z k∨(w.heap.size≤k∧k<w'.heap.size)∨(sl v).ownBlock=some k) gl gs gt sh' ev' (vN xs v e) (ys++[(e.1,(nv,iy M e))]) (M.app e):=by
 have hmem:∀x∈vN xs v e,x=(aN e.2,(v,e.2))∨x∈xs:=fun x hx=>by
  unfold vN at hx
  split at hx
  ·exact .inr (lH.subset hx)
  ·exact qp hx
 refine⟨?_,tab,?_,?_,?_,?_,?_,hV.ok.app hc,.inl hV.zs,.inl hV.zt,?_,?_,?_⟩
 ·rw [vg,qx];exact row
 ·unfold aY.app vN
  split
  ·show rem aJ _ M.tab=_
   rw[hV.kK]
   exact qy (fun y:OV×aH=>y.2) _ _
  ·show ins aJ _ _ M.tab=_
   rw[hV.kK]
   exact nZ (fun y:OV×aH=>y.2) _ (v,e.2) _
 ·intro x hx
  rcases hmem x hx with rfl | hx
  ·exact hV.keeps hf hv
  ·exact hV.keeps hf (hV.each x hx)
 ·rw [ny,yI,List.length_append];exact evs
 ·rw [Io,hV.Jr,List.map_append];rfl
 ·intro y hy
  rcases List.mem_append.1 hy with hy | hy
  ·exact hV.keeps hf (hV.mG y hy)
  ·rw [List.mem_singleton.1 hy];exact hn
 ·exact fun k hk=>(hown k hk).elim (fun h=>.inl (hV.ze k h)) fun h=>.inr (.inl h)
 ·intro x hx k hk
  rcases hmem x hx with rfl | hx
  ·exact .inr (.inr hk)
  ·exact .inl (hV.zx x hx k hk)
 ·intro y hy k hk
  rcases List.mem_append.1 hy with hy | hy
  ·exact .inl (hV.zy y hy k hk)
  ·rw [List.mem_singleton.1 hy] at hk
   exact .inr (.inl ⟨hnb k hk,(hn.data.lt k hk).2⟩)
theorem CW {w3 wc w8:World} {cs:Array Value} (hr:w3.heap[gs]?=some (.cells cs 104 (0,0))) {n:Nat} {zs:List Value} (hx:ah w3 0 99 7 ev n zs) (hb:Below w3.heap.size w3 wc) (hg:wc.grownBy w8 ev.ownBlock):w8.heap[gs]?=some (.cells cs 104 (0,0)):=by
 refine(((Fr.of_below (S:=fun k=>ev.ownBlock=some k) hb).trans (Fr.aU hg) fun k _ hk=>hk.symm).block gs (Cq hr) fun e=> ?_).trans hr
 obtain⟨_,hc⟩:=ak hx e
 exact absurd (aj hc hr) (by decide)
/-- An event's block. -/
def QW (r:Int) (d:Bool) (v:OV):Obj:=.cells #[.int .i64 r,.bool d,.int .i64 v.kind,.string v.space,.string v.name,.int .i64 v.ver,.slice v.A v.n v.c] 99
def VP (W:World) (B:Nat) (r:Int) (d:Bool) (v:OV):Prop:=
 W.cell? ⟨B,0,none⟩=some (.int .i64 r)∧W.cell? ⟨B,1,none⟩=some (.bool d)∧W.cell? ⟨B,2,none⟩=some (.int .i64 v.kind)∧W.cell? ⟨B,3,none⟩=some (.string v.space)∧W.cell? ⟨B,4,none⟩=some (.string v.name)∧W.cell? ⟨B,5,none⟩=some (.int .i64 v.ver)∧W.cell? ⟨B,6,none⟩=some (.slice v.A v.n v.c)
theorem VP.of {B:Nat} {r:Int} {d:Bool} (h:w.heap[B]?=some (QW r d v)):VP w B r d v:=
 ⟨Kq 0 h,Kq 1 h,Kq 2 h,Kq 3 h,Kq 4 h,Kq 5 h,Kq 6 h⟩
set_option maxHeartbeats 4000000 in
set_option maxRecDepth 100000 in
theorem yJ (v:OV) (o:aH) (d:Bool) (h:SW w0 w Q g m gs L M) (hv:dI w v o) (hX:∀k,(sl v).ownBlock=some k→¬Q k∧w0.heap.size≤k) (hc:M.Can (d,o)) (hl:M.tab.length≤100000) (hl2:M.evs.length≤100000):
  Calls Tryz.prog 67 #[.pointer (some ⟨gs,0,none⟩),.agg #[.int .i64 (o.ver:Int),.bool d,.int .i64 v.kind,.string v.space,.string v.name,.int .i64 v.ver,.slice v.A v.n v.c]] w fun en w'=>en=.returned (.tuple #[])∧SW w0 w' (fun k=>ext Q w w' k∨(sl v).ownBlock=some k) g m gs L (M.app (d,o))∧Fr Q w w':=by
 obtain⟨Z,gl,gt,sh,ev,xs,ys,hV,hZ,hU⟩:=h.use
 obtain⟨w1,hw1⟩:∃W,W=w.alloc (QW (o.ver:Int) d v):=⟨_,rfl⟩
 obtain⟨B,hB⟩:∃B,B=w.heap.size:=⟨_,rfl⟩
 have hb1:=(Below.refl w.heap.size w).alloc Kv (QW (o.ver:Int) d v)
 have hr1:=heap_alloc_new w (QW (o.ver:Int) d v)
 rw[←hw1] at hb1 hr1
 rw[←hB] at hr1
 have hpt:=hc.ok.parts
 have xR:Hid (Calls Tryz.prog 98 #[.agg #[.int .i64 v.kind,.string v.space,.string v.name,.int .i64 v.ver,.slice v.A v.n v.c]] w1 fun e w'=>e=.returned (.string (aN o))∧Below w1.heap.size w1 w'):=Hj (by
  rw[show aN o=ji v.kind v.space v.name by rw[hv.kind,hv.space,hv.name];rfl]
  exact Ip v w1 (by rw[hv.kind];simp only at hpt;omega) (by rw[hv.space];simp only at hpt;omega) (by rw[hv.name];simp only at hpt;omega))
 have hgs:gs<B:=by have:=hV.lt;omega
 have hgt:gt<B:=by have:=hV.tab.lt;omega
 have hgg:gt≠gs:=fun e=>by
  obtain⟨p,hp,-⟩:=hV.tab
  rw[e] at hp
  exact absurd (aj hp hV.cells) (by decide)
 have HD:Hid (B≠gs∧B≠gt∧gt≠gs):=Hj ⟨by omega,by omega,hgg⟩
 have hyl:ys.length≤1000000:=by have:=congrArg List.length hV.Jr;rw[List.length_map] at this;omega
 have hxl:(xs.map fun x=>(x.1,x.2.1)).length≤1000000000:=by rw[List.length_map];have:=congrArg List.length hV.kK;rw[List.length_map] at this;omega
 have HYn:=Hj hyl
 -- the table's calls
 have rM:Hid (d=false→∀W,TabAt W gt sh (xs.map fun x=>(x.1,x.2.1))→Calls Tryz.prog 84 #[.pointer (some ⟨gt,0,none⟩),(.string (aN o)),(.agg #[.int .i64 v.kind,.string v.space,.string v.name,.int .i64 v.ver,.slice v.A v.n v.c])] W fun e w'=>(∃b,e=.returned (.bool b))∧(∃s2,TabAt w' gt s2 ((vN xs v (d,o)).map fun x=>(x.1,x.2.1)))∧Fr (fun i=>i=gt) W w'):=Hj fun hd W hW=>by
  subst hd
  refine(UJ gt (aN o) v sh _ W hW hV.CX hxl).mono ?_
  rintro e w' ⟨rfl,h2,h3⟩
  refine⟨⟨_,rfl⟩,⟨jK aJ (aN o) sh (xs.map fun x=>(x.1,x.2.1)),?_⟩,h3⟩
  rw[show (vN xs v (false,o)).map (fun x=>(x.1,x.2.1))=ins aJ (aN o) v (xs.map fun x=>(x.1,x.2.1)) from (nZ (fun y:OV×aH=>y.1) (aN o) (v,o) xs).symm]
  exact h2
 have CY:Hid (d=true→∀W,TabAt W gt sh (xs.map fun x=>(x.1,x.2.1))→Calls Tryz.prog 86 #[.pointer (some ⟨gt,0,none⟩),(.string (aN o))] W fun e w'=>(∃b,e=.returned (.bool b))∧(∃s2,TabAt w' gt s2 ((vN xs v (d,o)).map fun x=>(x.1,x.2.1)))∧Fr (fun i=>i=gt) W w'):=Hj fun hd W hW=>by
  subst hd
  refine(UK gt (aN o) sh _ W hW hV.CX hxl).mono ?_
  rintro e w' ⟨rfl,h2,h3⟩
  refine⟨⟨_,rfl⟩,⟨delS aJ (aN o) sh (xs.map fun x=>(x.1,x.2.1)),?_⟩,h3⟩
  rw[show (vN xs v (true,o)).map (fun x=>(x.1,x.2.1))=rem aJ (aN o) (xs.map fun x=>(x.1,x.2.1)) from (qy (fun y:OV×aH=>y.1) (aN o) xs).symm]
  exact h2
 have mQ:Hid (d=true→∀W,TabAt W gt sh (xs.map fun x=>(x.1,x.2.1))→Calls Tryz.prog 45 #[.pointer (some ⟨gt,0,none⟩),(.string (aN o))] W fun e w'=>∃u:OV,e=.returned (.tuple #[(.agg #[.int .i64 u.kind,.string u.space,.string u.name,.int .i64 u.ver,.slice u.A u.n u.c]),.bool true])∧(OB w 0 (sl u) (iy M (d,o)).data∧u.n=(iy M (d,o)).data.length∧u.n≤1000000)∧Below W.heap.size W w'):=Hj fun hd W hW=>by
  subst hd
  obtain⟨o',hlk⟩:∃o',look aJ (aN o) M.tab=some o':=Option.isSome_iff_exists.1 (hc.del rfl).2
  have hlx:look aJ (aN o) (xs.map fun x=>(x.1,x.2.2))=some o':=by rw[←hV.kK];exact hlk
  rw[jL (fun y:OV×aH=>y.2)] at hlx
  obtain⟨⟨dv,oo⟩,hxe,hoo⟩:=Option.map_eq_some_iff.1 hlx
  simp only at hoo
  subst hoo
  obtain⟨k',hmem⟩:=look_in hxe
  have his:=hV.each _ hmem
  have hwas:(iy M (true,o)).data=oo.data:=by show M.was (aN o)=_;unfold aY.was;rw[hlk]
  rw[hwas]
  refine(nC gt (aN o) dv sh _ W hW hV.CX (by rw[jL (fun y:OV×aH=>y.1),hxe];rfl)).mono fun e w' ⟨k1,k2⟩=>⟨dv,k1,⟨his.data,his.num,?_⟩,k2⟩
  have h2:(k',oo)∈M.tab:=by rw[hV.kK];exact List.mem_map.2 ⟨_,hmem,rfl⟩
  have h3:oo.data.length≤8192:=(hV.ok.tab.each _ h2).2.1.data
  rw[his.num]
  show oo.data.length≤1000000
  omega
 have HVv:Hid (d=false→OB w 0 (sl v) (iy M (d,o)).data∧v.n=(iy M (d,o)).data.length∧v.n≤1000000):=Hj fun hd=>by
  subst hd
  exact⟨hv.data,hv.num,by rw[hv.num];have:=hc.ok.data;simp only at this;omega⟩
 obtain⟨dat,hdat⟩:∃l,l=(iy M (d,o)).data:=⟨_,rfl⟩
 rw[←hdat] at mQ HVv
 have HV:=Hj hV
 have Hv:=Hj hv
 have HU:=Hj hU
 have HC:=Hj hc
 have HX:=Hj hX
 have HB1:=Hj hb1
 have HR1:=Hj hr1
 have HW:=Hj (And.intro hw1 hB)
 have HDt:=Hj hdat
 clear hb1 hr1 hw1 hB hV h hc hl hl2 hv hU hX hZ hgs hgt hgg hyl hxl hpt hdat
 unfold QW at HW
 -- the world behind the first store
 have HS:Hid (∀w2,Below w.heap.size w w2→w2.heap[B]?=some (QW (o.ver:Int) d v)→∀wS,wS=w2.setCell ⟨gs,2,none⟩ (.int .i64 (o.ver:Int))→wS.heap[gs]?=some (.cells #[.pointer (some ⟨gl,0,none⟩),.pointer (some ⟨gt,0,none⟩),.int .i64 (o.ver:Int),.int .i64 (M.base:Int),ev] 104 (0,0))∧wS.heap[B]?=some (QW (o.ver:Int) d v)∧TabAt wS gt sh (xs.map fun x=>(x.1,x.2.1))∧Fr (fun k=>k=gs) w wS):=Hj fun w2 hb2 he wS e=>by
  have hs:Fr (fun k=>k=gs) w2 wS:=by rw[e];exact(Fr.refl (fun k=>k=gs) w2).setCell (p:=⟨gs,2,none⟩) (fun _=>rfl) _
  have h2:=HV.out.below hb2
  exact⟨by rw[e];exact heap_setCell_same _ _ 2 _ _ _ h2.cells,(hs.block B (Cq he) HD.out.1).trans he,h2.tab.fr hs HD.out.2.2 fun b cs hb e=>kJ hb e h2.cells (by decide),(Fr.of_below hb2).trans hs fun _ _ x=>x⟩
 have Yi:Hid (∀w3,Fr (fun k=>k=gs∨k=gt) w w3→ah w3 0 99 7 ev ys.length (gZ ys)):=Hj fun w3 F3=>HV.out.evs.kept F3 fun k hk e=>by
  obtain⟨cur,hcur⟩:=ak HV.out.evs hk
  rcases e with e | e
  ·exact kJ hcur e HV.out.cells (by decide)
  ·obtain ⟨p,hp,-⟩:=HV.out.tab
   exact kJ hcur e hp (by decide)
 -- the end
 have Fq:Hid (∀(w3 wc w8:World) (A9:Option Addr) (n9 c9:Nat) (v8:Value),(w3.heap[gs]?=some (.cells #[.pointer (some ⟨gl,0,none⟩),.pointer (some ⟨gt,0,none⟩),.int .i64 (o.ver:Int),.int .i64 (M.base:Int),ev] 104 (0,0))∧(∃s2,TabAt w3 gt s2 ((vN xs v (d,o)).map fun x=>(x.1,x.2.1)))∧Fr (fun k=>k=gs∨k=gt) w w3)→n9=dat.length→Below w3.heap.size w3 wc→OB wc w3.heap.size (.slice A9 n9 c9) dat→ah w8 0 99 7 v8 (ys.length+1) (gZ ys++jA d o.ver ⟨v.kind,v.space,v.name,v.ver,A9,n9,c9⟩)→wc.grownBy w8 ev.ownBlock→(v8.ownBlock=ev.ownBlock∨v8.ownBlock=some wc.heap.size)→SW w0 (w8.setCell ⟨gs,4,none⟩ v8) (fun k=>ext Q w (w8.setCell ⟨gs,4,none⟩ v8) k∨(sl v).ownBlock=some k) g m gs L (M.app (d,o))∧Fr Q w (w8.setCell ⟨gs,4,none⟩ v8)):=Hj fun w3 wc w8 A9 n9 c9 v8 ⟨G3,⟨s2,T3⟩,F3⟩ hn hbc MH vw CG hat=>by
  have Fv:=Yi.out w3 F3
  have g8:=CW G3 Fv hbc CG
  have f8:Fr (fun k=>ev.ownBlock=some k) w3 w8:=(Fr.of_below hbc).trans (Fr.aU CG) fun k _ hk=>hk.symm
  have fs:Fr (fun k=>k=gs) w8 (w8.setCell ⟨gs,4,none⟩ v8):=(Fr.refl (fun k=>k=gs) w8).setCell (p:=⟨gs,4,none⟩) (fun _=>rfl) _
  have hs3:=F3.size
  have hsb:=hbc.size
  have hFF:Fr (fun k=>k=gs∨k=gt∨ev.ownBlock=some k) w (w8.setCell ⟨gs,4,none⟩ v8):=((F3.mono fun _ _ h=>h.elim .inl fun h=>.inr (.inl h)).trans f8 fun _ _ h=>.inr (.inr h)).trans fs fun _ _ h=>.inl h
  have hT:TabAt (w8.setCell ⟨gs,4,none⟩ v8) gt s2 ((vN xs v (d,o)).map fun x=>(x.1,x.2.1)):=by
   have hf:Fr (fun k=>k=gs∨ev.ownBlock=some k) w3 (w8.setCell ⟨gs,4,none⟩ v8):=(f8.mono fun _ _ h=>.inr h).trans fs fun _ _ h=>.inl h
   refine T3.fr hf (fun e=>e.elim HD.out.2.2 fun e=> ?_) fun b cs hb e=>e.elim (fun e=>kJ hb e G3 (by decide)) fun e=> ?_
   ·obtain ⟨p,hp,-⟩:=T3
    obtain⟨cur,hcur⟩:=ak Fv e
    exact absurd (aj hcur hp) (by decide)
   ·obtain ⟨cur,hcur⟩:=ak Fv e
    exact absurd (aj hcur hb) (by decide)
  have hOw:ah (w8.setCell ⟨gs,4,none⟩ v8) 0 99 7 v8 (ys.length+1) (gZ ys++jA d o.ver ⟨v.kind,v.space,v.name,v.ver,A9,n9,c9⟩):=ah.kept vw fs fun k hk e=>by
   obtain⟨cur,hcur⟩:=ak vw hk
   exact kJ hcur e g8 (by decide)
  have hO:OB (w8.setCell ⟨gs,4,none⟩ v8) w3.heap.size (.slice A9 n9 c9) dat:=ah.kept (ah.kept MH (Fr.aU CG) fun k hk e=>by
   obtain⟨cur,hcur⟩:=ak MH hk
   obtain⟨cur',jh⟩:=ak (ah.below Fv hbc) e.symm
   exact absurd (aj hcur jh) (by decide)) fs fun k hk e=>by have:=(ah.lt MH k hk).1;have:=(Cq G3);omega
  have bI:∀k,v8.ownBlock=some k→ev.ownBlock=some k∨(w.heap.size≤k∧k<(w8.setCell ⟨gs,4,none⟩ v8).heap.size):=fun k hk=>by
   rcases hat with e | e
   ·exact .inl (by rw[←e];exact hk)
   ·have h1:=(ah.lt hOw k hk).2
    rw[e] at hk
    injection hk with hk
    exact .inr ⟨by omega,h1⟩
  have hSV:=HV.out.applied (e:=(d,o)) (nv:=⟨v.kind,v.space,v.name,v.ver,A9,n9,c9⟩) hFF HC.out Hv.out (heap_setCell_same _ _ 4 _ _ v8 g8) hT hOw bI ⟨Hv.out.kind.trans (by unfold iy;split<;>rfl),Hv.out.space.trans (by unfold iy;split<;>rfl),Hv.out.name.trans (by unfold iy;split<;>rfl),Hv.out.ver.trans (by unfold iy;split<;>rfl),by rw[←HDt.out];exact hn,by rw[←HDt.out];exact OB.mono hO (Nat.zero_le _)⟩ (fun k hk=>Cz hs3 (ah.lt hO k hk).1)
  exact HU.out _ _ _ _ _ _ _ (fun k=>(sl v).ownBlock=some k) hSV (hFF.mono fun i _ hi=>hi.elim (fun e=>by rw[e];exact HV.out.zs) fun hi=>hi.elim (fun e=>by rw[e];exact HV.out.zt) (HV.out.ze i)) (fun k hk=>⟨(HX.out k hk).1,(HX.out k hk).2,(Hv.out.data.lt k hk).2⟩) (fun k hk=>hk)
 go_enter Tryz.func67,Tryz.ntmps67
 cases d
 case' false=>
  go_wp2_with (first
   | (go_at_call 98;rw[←HW.out.1,←HW.out.2];(with_reducible refine xR.out.mono ?_);rintro e w2 ⟨rfl,hb2⟩;have hbw:=HB1.out.trans (hb2.mono HB1.out.size);have h2:=HV.out.below hbw;have hr2:=(hb2.block B (Cq HR1.out)).trans HR1.out;have H2:=Hj (HS.out w2 hbw hr2 _ rfl);have f2:w2.frozen? ⟨gs,2,none⟩=false:=h2.fz 2;obtain⟨g0,g1,g2,g3,g4⟩:=h2.cell;obtain⟨a0,a1,a2,a3,a4,a5,a6⟩:=VP.of hr2;clear hb2 h2 hr2 hbw)
   | fail)
  obtain⟨wS,Yj⟩:∃W,W=w2.setCell ⟨gs,2,none⟩ (.int .i64 (o.ver:Int)):=⟨_,rfl⟩
  rw[←Yj] at H2 ⊢
  obtain⟨h1,h2,h3,h4⟩:=H2.out
  have s1:wS.cell? ⟨gs,1,none⟩=some (.pointer (some ⟨gt,0,none⟩)):=Kq 1 h1
  obtain⟨b0,b1,b2,b3,b4,b5,b6⟩:=VP.of h2
  clear Yj g0 g1 g2 g3 g4 a0 a1 a2 a3 a4 a5 a6 f2 h1 h2 h3 h4
  go_region_held3 (fun w'=>w'.cell? ⟨gs,1,none⟩=some (.pointer (some ⟨gt,0,none⟩))∧w'.cell? ⟨B,2,none⟩=some (.int .i64 v.kind)∧w'.cell? ⟨B,3,none⟩=some (.string v.space)∧w'.cell? ⟨B,4,none⟩=some (.string v.name)∧w'.cell? ⟨B,5,none⟩=some (.int .i64 v.ver)∧w'.cell? ⟨B,6,none⟩=some (.slice v.A v.n v.c)) (first | exact⟨by assumption,by assumption,by assumption,by assumption,by assumption,by assumption⟩ | go_keep) (first
   | (go_at_call 84;(with_reducible refine(rM.out (by trivial) wS.drew (H2.out.2.2.1.below (Below.drew (Below.refl _ _)))).mono ?_);rintro e w3 ⟨⟨bb,rfl⟩,k1,k2⟩;have G3:=Hj ((k2.block gs (Cq H2.out.1) (fun e=>HD.out.2.2 e.symm)).trans H2.out.1);have E3:=Hj ((k2.block B (Cq H2.out.2.1) HD.out.2.1).trans H2.out.2.1);have T3:=Hj k1;have F3:Hid (Fr (fun k=>k=gs∨k=gt) w w3):=Hj ((H2.out.2.2.2.mono fun _ _ h=>.inl h).trans k2.Fz fun _ _ h=>.inr h);obtain⟨c0,c1,c2,c3,c4,c5,c6⟩:=VP.of E3.out;have s3:w3.cell? ⟨gs,1,none⟩=some (.pointer (some ⟨gt,0,none⟩)):=Kq 1 G3.out;clear k1 k2)
   | fail)
  rename (World.cell? _ _=_∧_)=>hS9
  clear hS9 c0 c1 c2 c3 c4 c5 c6 s3 s1 b0 b1 b2 b3 b4 b5 b6
  have D0:=Hj (HVv.out (by trivial))
  obtain⟨A0,n0,c0',hvv⟩:∃A n c,(⟨v.kind,v.space,v.name,v.ver,A,n,c⟩:OV)=v:=⟨v.A,v.n,v.c,rfl⟩
  rw[←hvv] at E3
  have D0':Hid (OB w 0 (sl (⟨v.kind,v.space,v.name,v.ver,A0,n0,c0'⟩:OV)) dat∧n0=dat.length∧n0≤1000000):=Hj (by rw[←hvv] at D0;exact D0.out)
  clear hvv D0
  obtain⟨d,hd⟩:∃d:Bool,d=false:=⟨_,rfl⟩
  rw[←hd] at E3 T3 Fq
  have Yk:=Hj hd
  clear hd
 case' true=>
  go_wp2_with (first
   | (go_at_call 98;rw[←HW.out.1,←HW.out.2];(with_reducible refine xR.out.mono ?_);rintro e w2 ⟨rfl,hb2⟩;have hbw:=HB1.out.trans (hb2.mono HB1.out.size);have h2:=HV.out.below hbw;have hr2:=(hb2.block B (Cq HR1.out)).trans HR1.out;have H2:=Hj (HS.out w2 hbw hr2 _ rfl);have f2:w2.frozen? ⟨gs,2,none⟩=false:=h2.fz 2;obtain⟨g0,g1,g2,g3,g4⟩:=h2.cell;obtain⟨a0,a1,a2,a3,a4,a5,a6⟩:=VP.of hr2;clear hb2 h2 hr2 hbw)
   | (go_at_call 45;obtain⟨wS,Yj⟩:∃W,W=w2.setCell ⟨gs,2,none⟩ (.int .i64 (o.ver:Int)):=⟨_,rfl⟩;rw[←Yj] at H2 ⊢;(with_reducible refine(mQ.out (by trivial) wS H2.out.2.2.1).mono ?_);rintro e wg ⟨u,rfl,hu,hbg⟩;have D0:=Hj hu;have BG:=Hj hbg;have gg:=(hbg.block gs (Cq H2.out.1)).trans H2.out.1;have ge:=(hbg.block B (Cq H2.out.2.1)).trans H2.out.2.1;have GG:=Hj (And.intro gg ge);have al:=(fun o=>(Below.refl wg.heap.size wg).alloc Kv o);have e6:=(fun o=>Kz (al o) _ _ (VP.of ge).2.2.2.2.2.2);have ef:∀o,(wg.alloc o).frozen? ⟨B,6,none⟩=false:=(fun o=>Kj (((al o).block B (Cq ge)).trans ge));have e1:=(fun o=>Kz (al o) _ _ (Kq 1 gg));clear hu hbg gg ge al Yj)
   | (go_at_call 86;obtain⟨wD,hwD⟩:∃W,W=(wg.alloc (.cells #[.int .i64 u.kind,.string u.space,.string u.name,.int .i64 u.ver,.slice u.A u.n u.c] 37)).setCell ⟨B,6,none⟩ (.slice u.A u.n u.c):=⟨_,rfl⟩;rw[←hwD];have XO:Hid (wD.heap[gs]?=some (.cells #[.pointer (some ⟨gl,0,none⟩),.pointer (some ⟨gt,0,none⟩),.int .i64 (o.ver:Int),.int .i64 (M.base:Int),ev] 104 (0,0))∧wD.heap[B]?=some (QW (o.ver:Int) true ⟨v.kind,v.space,v.name,v.ver,u.A,u.n,u.c⟩)∧TabAt wD gt sh (xs.map fun x=>(x.1,x.2.1))∧Fr (fun k=>k=gs) w wD):=Hj (by
     have ba:=(Below.refl wg.heap.size wg).alloc Kv (.cells #[.int .i64 u.kind,.string u.space,.string u.name,.int .i64 u.ver,.slice u.A u.n u.c] 37)
     have fD:Fr (fun k=>k=B) wg wD:=by rw[hwD];exact(Fr.of_below (S:=fun k=>k=B) ba).setCell (p:=⟨B,6,none⟩) (fun _=>rfl) _
     refine⟨(fD.block gs (Cq GG.out.1) (fun e=>HD.out.1 e.symm)).trans GG.out.1,by rw[hwD];exact heap_setCell_same _ _ 6 _ _ _ ((ba.block B (Cq GG.out.2)).trans GG.out.2),(H2.out.2.2.1.below BG.out).fr fD (fun e=>HD.out.2.1 e.symm) fun b cs hb e=>by rw[e] at hb;exact absurd (aj hb GG.out.2) (by decide),(H2.out.2.2.2.trans (Fr.of_below (S:=fun _=>False) BG.out) fun _ _ x=>x.elim).trans fD fun k hk e=>by have:=HW.out.2;omega⟩);clear hwD e6 ef e1;(with_reducible refine(CY.out (by trivial) wD XO.out.2.2.1).mono ?_);rintro e w3 ⟨⟨bb,rfl⟩,k1,k2⟩;have G3:=Hj ((k2.block gs (Cq XO.out.1) (fun e=>HD.out.2.2 e.symm)).trans XO.out.1);have E3:=Hj ((k2.block B (Cq XO.out.2.1) HD.out.2.1).trans XO.out.2.1);have T3:=Hj k1;have F3:Hid (Fr (fun k=>k=gs∨k=gt) w w3):=Hj ((XO.out.2.2.2.mono fun _ _ h=>.inl h).trans k2 fun _ _ h=>.inr h);clear k1 k2)
   | fail)
  obtain⟨A0,n0,c0',hvv⟩:∃A n c,(⟨v.kind,v.space,v.name,v.ver,A,n,c⟩:OV)=⟨v.kind,v.space,v.name,v.ver,u.A,u.n,u.c⟩:=⟨u.A,u.n,u.c,rfl⟩
  have D0':Hid (OB w 0 (sl (⟨v.kind,v.space,v.name,v.ver,A0,n0,c0'⟩:OV)) dat∧n0=dat.length∧n0≤1000000):=Hj (by injection hvv with _ _ _ _ e1 e2 e3;rw[e1,e2,e3];exact D0.out)
  rw[←hvv] at E3
  clear hvv D0
  obtain⟨d,hd⟩:∃d:Bool,d=true:=⟨_,rfl⟩
  rw[←hd] at E3 T3 Fq
  have Yk:=Hj hd
  clear hd
 all_goals
  have Fv:=Yi.out w3 F3.out
  have HEv:=Hj Fv
  have hrb:RB w3 A0 n0 dat:=by
   have h:=HV.out.MV (F3.out.mono fun _ _ h=>h.elim .inl fun h=>.inr (.inl h)) D0'.out.1
   obtain⟨A1,c1,e1,-,-,h1⟩:=h.form
   unfold sl at e1
   injection e1 with e1 e2 e3
   have e1':A0=A1:=e1
   have e2':n0=dat.length:=e2
   rw[e1',e2']
   exact h1
  have Fj:Hid (Calls Tryz.prog 46 #[.agg #[.int .i64 v.kind,.string v.space,.string v.name,.int .i64 v.ver,.slice A0 n0 c0']] w3.drew fun e w'=>∃A1 c1,e=.returned (.agg #[.int .i64 v.kind,.string v.space,.string v.name,.int .i64 v.ver,.slice A1 n0 c1])∧OB w' w3.heap.size (.slice A1 n0 c1) dat∧Below w3.heap.size w3 w'):=Hj ((jM ⟨v.kind,v.space,v.name,v.ver,A0,n0,c0'⟩ w3.drew dat (hrb.keep (Kz (Below.drew (Below.refl _ _)))) D0'.out.2.2).mono fun e w' ⟨A1,c1,k1,k2,k3⟩=>⟨A1,c1,k1,k2,(Below.drew (Below.refl _ w3)).trans k3⟩)
  have KB:Hid (∀W,Below w3.heap.size w3 W→W.cell? ⟨gs,4,none⟩=some ev∧VP W B (o.ver:Int) d ⟨v.kind,v.space,v.name,v.ver,A0,n0,c0'⟩):=Hj fun W hW=>⟨Kq 4 ((hW.block gs (Cq G3.out)).trans G3.out),VP.of ((hW.block B (Cq E3.out)).trans E3.out)⟩
  obtain⟨c4',a0,a1,a2,a3,a4,a5,a6⟩:=KB.out w3 (Below.refl _ _)
  clear Fv hrb
  go_wp2
  refine wp_region_noPanic ?_
  refine wp_region_held_drew (S:=(fun w'=>w'.cell? ⟨B,0,none⟩=some (.int .i64 (o.ver:Int))∧w'.cell? ⟨B,1,none⟩=some (.bool d)∧w'.cell? ⟨B,2,none⟩=some (.int .i64 v.kind)∧w'.cell? ⟨B,3,none⟩=some (.string v.space)∧w'.cell? ⟨B,4,none⟩=some (.string v.name)∧w'.cell? ⟨B,5,none⟩=some (.int .i64 v.ver)∧w'.cell? ⟨B,6,none⟩=some (.slice A0 n0 c0'))) (by kernel_rfl) ?_ (fun hHeld=> ?_)
  ·exact (KB.out w3.drew (Below.drew (Below.refl _ _))).2
  refine tk 0 hHeld ?_
  try simp only[pa]
  refine tk 1 hHeld ?_
  try simp only[pa]
  refine tk 2 hHeld ?_
  try simp only[pa]
  refine tk 3 hHeld ?_
  try simp only[pa]
  refine tk 5 hHeld ?_
  try simp only[pa]
  refine tk 6 hHeld ?_
  try simp only[pa]
  refine tk 7 hHeld ?_
  try simp only[pa]
  refine tk 8 hHeld ?_
  try simp only[pa]
  refine tk 9 hHeld ?_
  try simp only[pa]
  refine tk 10 hHeld ?_
  try simp only[pa]
  refine Rk 4 11 rfl rfl (fun K hK=> ?_) (fun K hK=> ?_)
  focus
   go_simp
   refine hK.out _ _ hHeld (fun hHeld=> ?_)
   clear hK K
   try simp only[pa]
   refine mJ 11 rfl (fun K hK=> ?_)
   go_simp
   refine Fj.out.mono ?_
   rintro e wc ⟨A9,c9,rfl,k1,k2⟩
   have O9:=Hj k1
   have BC:=Hj k2
   obtain⟨y4,-⟩:=KB.out wc k2
   have q4:=fun o=>(KB.out (wc.alloc o) (k2.alloc k2.size o)).1
   clear k1 k2
   refine hK.out _ _ (KB.out wc BC.out).2 (fun hHeld=> ?_)
   clear hK K
   refine tk 12 hHeld ?_
   try simp only[pa]
   refine mJ 13 rfl (fun K hK=> ?_)
   go_simp
   refine hK.out _ _ (KB.out _ (BC.out.alloc BC.out.size _)).2 (fun hHeld=> ?_)
  rotate_right
  focus
   go_simp
   refine Fj.out.mono ?_
   rintro e wc ⟨A9,c9,rfl,k1,k2⟩
   have O9:=Hj k1
   have BC:=Hj k2
   obtain⟨y4,-⟩:=KB.out wc k2
   have q4:=fun o=>(KB.out (wc.alloc o) (k2.alloc k2.size o)).1
   clear k1 k2
   refine hK.out _ _ (KB.out wc BC.out).2 (fun hHeld=> ?_)
   clear hK K
   refine tk 12 hHeld ?_
   try simp only[pa]
   refine Rk 4 13 rfl rfl (fun K hK=> ?_) (fun K hK=> ?_)
   focus
    go_simp
    refine hK.out _ _ hHeld (fun hHeld=> ?_)
    clear hK K
    try simp only[pa]
    refine mJ 13 rfl (fun K hK=> ?_)
    go_simp
    refine hK.out _ _ (KB.out _ (BC.out.alloc BC.out.size _)).2 (fun hHeld=> ?_)
   rotate_right
   focus
    go_simp
    refine hK.out _ _ (KB.out _ (BC.out.alloc BC.out.size _)).2 (fun hHeld=> ?_)
    clear hK K
    try simp only[pa]
    refine mJ 4 rfl (fun K hK=> ?_)
    go_simp
    refine hK.out _ _ hHeld (fun hHeld=> ?_)
  all_goals
   clear hK K
   try simp only[pa]
   refine mJ 14 rfl (fun K hK=> ?_)
   refine xQ rfl (.tmp 48) (.tmp 57) (by rfl) (ah.alloc (HEv.out.below BC.out) _) (by rfl) (Src.ev wc d o.ver ⟨v.kind,v.space,v.name,v.ver,A9,n0,c9⟩) (by rfl) HYn.out (Nat.zero_le _) ?_
   intro v8 w8 vw CG UL
   obtain⟨A8,n8,c8,rfl⟩:∃A n c,v8=.slice A n c:=let ⟨A,c,e,_⟩:=ah.form vw;⟨A,_,c,e⟩
   have bc:=BC.out.alloc BC.out.size (QW (o.ver:Int) d ⟨v.kind,v.space,v.name,v.ver,A9,n0,c9⟩)
   have g8:=CW G3.out HEv.out bc CG
   have z4:w8.cell? ⟨gs,4,none⟩=some ev:=Kq 4 g8
   have zf:w8.frozen? ⟨gs,4,none⟩=false:=Kj g8
   have e8:w8.heap[B]?=some (QW (o.ver:Int) d ⟨v.kind,v.space,v.name,v.ver,A0,n0,c0'⟩):=((((Fr.of_below (S:=fun k=>ev.ownBlock=some k) bc).trans (Fr.aU CG) fun k _ hk=>hk.symm).block B (Cq E3.out) fun e=>by have:=(ah.lt HV.out.evs B e).2;have:=HW.out.2;omega).trans E3.out)
   have R8:=Hj (Fq.out w3 _ w8 A9 n0 c9 _ ⟨G3.out,T3.out,F3.out⟩ D0'.out.2.1 bc (ah.alloc O9.out _) vw CG UL)
   have E8:=Hj e8
   clear vw CG UL bc g8 e8
   refine hK.out _ _ (VP.of E8.out) (fun hHeld=> ?_)
   clear hK K
   try simp only[pa]
   refine tk 15 hHeld ?_
   try simp only[pa]
   refine tk 16 hHeld ?_
   try simp only[pa]
   refine mJ 17 rfl (fun K hK=> ?_)
   go_simp
   refine hK.out _ _ (VP.of ((Below.heap_setCell w8 ⟨gs,4,none⟩ _ B (fun e=>HD.out.1 e)).trans E8.out)) (fun hHeld=> ?_)
   clear hK K
   refine wpAnyH_done (by kernel_rfl) ?_ _
   refine NoPanic.normal ?_
   go_wp2
   have hd:=Yk.out
   subst hd
   exact bodyPost_end (results_none rfl _ _ _) rfl ⟨rfl,R8.out⟩
end
end Go.Proofs.YtdhbpajamlfacaaGreatDoor
