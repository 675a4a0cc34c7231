/- The document's store (layer 20): apply. -/
import Derived.Test.YtdhbpajamlfacaaGreatDoorRo
set_option maxHeartbeats 8000000
set_option maxRecDepth 100000
namespace Go.Proofs.YtdhbpajamlfacaaGreatDoor
open Go.RowKit SO
theorem GH (l:List OV):∀i,(bH l).take (i*5)=bH (l.take i):=by
 induction l with
 | nil=>intro i;simp[bH]
 | cons x l ih=>
  intro i
  cases i with
  | zero=>simp[bH]
  | succ i=>
   have h:=ih i
   unfold bH at h ⊢
   rw[List.flatMap_cons,List.take_succ_cons,List.flatMap_cons,show (i+1)*5=(jJ x).length+i*5 by show (i+1)*5=5+i*5;omega,List.take_length_add_append,h]
theorem GI (l:List OV):∀i,(bH l).drop (i*5)=bH (l.drop i):=by
 induction l with
 | nil=>intro i;simp[bH]
 | cons x l ih=>
  intro i
  cases i with
  | zero=>simp[bH]
  | succ i=>
   have h:=ih i
   unfold bH at h ⊢
   rw[List.flatMap_cons,List.drop_succ_cons,show (i+1)*5=(jJ x).length+i*5 by show (i+1)*5=5+i*5;omega,←List.drop_drop,List.drop_left,h]
theorem oQ:∀l:List OV,(bH l).length=l.length*5
 | []=>rfl
 | x::l=>by
  have h:=oQ l
  unfold bH at h ⊢
  rw[List.flatMap_cons,bP,h,qV]
  show 5+l.length*5=_
  omega
theorem oU (l:List OV):∀u∈bH l,u.oneCell'=true:=fun u hu=>by
 obtain⟨v,_,hu⟩:=List.mem_flatMap.1 hu
 simp only[jJ,List.mem_cons,List.not_mem_nil,or_false] at hu
 rcases hu with rfl | rfl | rfl | rfl | rfl<;>rfl
theorem JC (ys:List (Bool×(OV×aC))):∀u∈iK ys,u.oneCell'=true:=fun u hu=>by
 obtain⟨v,_,hu⟩:=List.mem_flatMap.1 hu
 simp only[List.mem_cons,List.not_mem_nil,or_false] at hu
 rcases hu with rfl | rfl | rfl | rfl | rfl | rfl | rfl<;>rfl
/-- A part of a slice of a call's own, as an append's source. -/
theorem xW {w:World} {base e size n c:Nat} {A:Option Addr} {ws:List Value} (h:ah w base e size (.slice A n c) n ws) {T:TypeId} (hT:Tryz.prog.underlying T=some (.slice e)) (h1:∀u∈ws,u.oneCell'=true) (hs:0<size) (i m:Nat) (hm:i+m≤n) (A':Option Addr) (c':Nat) (hA:∀g o,A=some ⟨g,o,none⟩→0<m*size→A'=some ⟨g,o+i*size,none⟩):
  Src Tryz.prog size T (.slice A' m c') m ((ws.drop (i*size)).take (m*size)) w:=by
 have hn:ws.length=n*size:=h.1
 have hl:((ws.drop (i*size)).take (m*size)).length=m*size:=by
  have:=Nat.mul_le_mul_right size hm
  rw[eu,lu,hn]
  rw[Nat.add_mul] at this
  omega
 rcases pF (m*size) with h0 | h0
 ·have hw:(ws.drop (i*size)).take (m*size)=[]:=mP (by rw[hl];exact h0)
  rw[hw] at hl ⊢
  cases A' with
  | none=>
   rcases Nat.mul_eq_zero.1 h0 with rfl | rfl
   ·exact Src.ofNil w hT c'
   ·omega
  | some a=>exact Src.ofSlice w hT a m c' [] (by simpa using hl) (by simp) (by simp)
 ·have hpos:0<ws.length:=by
   have:=Nat.mul_le_mul_right size hm
   rw[Nat.add_mul] at this
   omega
  obtain⟨g,o,cap,e,_,_,hc⟩:=h.cells hpos
  injection e with e1 _ e3
  rw[hA g o e1 h0]
  refine Src.ofSlice w hT _ _ c' _ hl (fun j u hu=> ?_) fun u hu=>h1 u (List.mem_of_mem_drop (List.mem_of_mem_take hu))
  have hj:j<m*size:=by rw[←hl];exact(fA.1 hu).1
  rw[List.getElem?_take,aF hj,List.getElem?_drop] at hu
  rw[addr_add]
  show w.cell? ⟨g,o+i*size+j,none⟩=_
  rw[Nat.add_assoc]
  exact hc _ u hu
theorem RG:(Tryz.prog.info? 114).map (fun i=>(i.zero,i.size,i.bytes))=some (some (.agg #[.int .i64 0,.bool false,.int .i64 0,.string ⟨#[]⟩,.string ⟨#[]⟩,.int .i64 0,.slice none 0 0]),7,88):=by kernel_rfl
section
variable {ops:Array Oper} {o:Oper} {a:Act} {w:World} {K:Act→World→Prop} {Q:Exit→Act→World→Prop} {E:Prop}
theorem iy (hgd:o.guard=none) (s x:Operand)
  (ho:o.op=.call {callee:=.builtin .append,args:=#[s,x],argTypes:=#[88,88]})
  {base:Nat} {v:Value} {n:Nat} {ws:List Value} (hown:ah w base 114 7 v n ws) (hs:a.eval s=v)
  {xv:Value} {m:Nat} {news:List Value} (hsrc:Src Tryz.prog 7 88 xv m news w) (hx:a.eval x=xv) (hbytes:n+m≤1000000) (hbase:base≤w.heap.size)
  (h:∀v' w',ah w' base 114 7 v' (n+m) (ws++news)→w.grownBy w' v.ownBlock→K (a.put o.dst v') w'):
  if Region.wanted o (yielded ops a.tmps)=true then Oper.wp Tryz.prog o a w K Q else E:=by
 obtain⟨i0,hi,hz0,hz1,hz2⟩:=dO RG
 exact dA hgd s x 88 88 ho i0 _ 88 Tryz.underlying88 hi hz0 hz1 hz2 rfl (by omega) hs hown xv m _ hx hsrc (by unfold maxLen;omega) (by omega) hbase fun v' w' h1 h2 _=>h v' w' h1 h2
theorem lZ (hgd:o.guard=none) (s x:Operand)
  (ho:o.op=.call {callee:=.builtin .append,args:=#[s,x],argTypes:=#[41,41]})
  {base:Nat} {v:Value} {n:Nat} {ws:List Value} (hown:ah w base 37 5 v n ws) (hs:a.eval s=v)
  {xv:Value} {m:Nat} {news:List Value} (hsrc:Src Tryz.prog 5 41 xv m news w) (hx:a.eval x=xv) (hbytes:n+m≤1000000) (hbase:base≤w.heap.size)
  (h:∀v' w',ah w' base 37 5 v' (n+m) (ws++news)→w.grownBy w' v.ownBlock→K (a.put o.dst v') w'):
  if Region.wanted o (yielded ops a.tmps)=true then Oper.wp Tryz.prog o a w K Q else E:=by
 obtain⟨i0,hi,hz0,hz1,hz2⟩:=kJ qO
 exact dA hgd s x 41 41 ho i0 _ 72 Tryz.underlying41 hi hz0 hz1 hz2 rfl (by omega) hs hown xv m _ hx hsrc (by unfold maxLen;omega) (by omega) hbase fun v' w' h1 h2 _=>h v' w' h1 h2
end
section
variable {w w':World} {Z X:Nat→Prop} {gs gl:Nat} {av ev LP ev':Value} {xs xs':List (OV×aC)} {ys:List (Bool×(OV×aC))} {M:bQ} {v nv:OV} {e:Bool×aC}
theorem sN {q base:Nat} (h:w.heap[q]?=some (.cells #[] 114 (0,0))) (hb:base≤q):ah w base 114 7 (.slice (some ⟨q,0,none⟩) 0 0) 0 []:=
 ⟨rfl,.inr ⟨_,0,0,#[],rfl,hb,h,bZ _,by unfold maxLen;omega,by simp,rfl⟩⟩
theorem JD {q base:Nat} (h:w.heap[q]?=some (.cells #[] 37 (0,0))) (hb:base≤q):ah w base 37 5 (.slice (some ⟨q,0,none⟩) 0 0) 0 []:=
 ⟨rfl,.inr ⟨_,0,0,#[],rfl,hb,h,bZ _,by unfold maxLen;omega,by simp,rfl⟩⟩
def y9 (r:Int) (d:Bool) (v:OV):Obj:=.cells #[.int .i64 r,.bool d,.int .i64 v.kind,.string v.space,.string v.name,.int .i64 v.ver,.slice v.A v.n v.c] 114
theorem Em {q cp:Nat} {d:Bool} {r:Nat} (h:w.heap[q]?=some (y9 (r:Int) d v)):Src Tryz.prog 7 88 (.slice (some ⟨q,0,none⟩) 1 cp) 1 (kS d r v) w:=
 Src.ofSlice _ Tryz.underlying88 _ _ cp _ rfl (fun j u hu=>mJ (cs:=#[.int .i64 (r:Int),.bool d,.int .i64 v.kind,.string v.space,.string v.name,.int .i64 v.ver,.slice v.A v.n v.c]) h j u hu) (fun u hu=>by
  simp only[kS,List.mem_cons,List.not_mem_nil,or_false] at hu
  rcases hu with rfl | rfl | rfl | rfl | rfl | rfl | rfl<;>rfl)
/-- The box of an event. -/
def VE (W:World) (B:Nat) (r:Int) (d:Bool) (v:OV):Prop:=
 W.cell? ⟨B,0,none⟩=some (.int .i64 r)∧W.cell? ⟨B,1,none⟩=some (.bool d)∧W.cell? ⟨B,2,none⟩=some (.int .i64 v.kind)∧W.cell? ⟨B,3,none⟩=some (.string v.space)∧W.cell? ⟨B,4,none⟩=some (.string v.name)∧W.cell? ⟨B,5,none⟩=some (.int .i64 v.ver)∧W.cell? ⟨B,6,none⟩=some (.slice v.A v.n v.c)
theorem VE.of {B:Nat} {r:Int} {d:Bool} (h:w.heap[B]?=some (y9 r d v)):VE w B r d v:=
 ⟨Kq 0 h,Kq 1 h,Kq 2 h,Kq 3 h,Kq 4 h,Kq 5 h,Kq 6 h⟩
theorem RH {b o n c base:Nat} {l:List OV} (h:OL w base (.slice (some ⟨b,o,none⟩) n c) l) (i:Nat) (hi:i≤n) (c':Nat):Src Tryz.prog 5 41 (.slice (some ⟨b,o,none⟩) i c') i (bH (l.take i)) w:=by
 have hn:=OL.len h
 subst hn
 have:=xW h Tryz.underlying41 (oU _) (by omega) 0 i (by omega) (some ⟨b,o,none⟩) c' (fun g o e _=>by cases e;simp)
 rwa [Nat.zero_mul,List.drop_zero,GH] at this
theorem RI {b o n c base:Nat} {l:List OV} (h:OL w base (.slice (some ⟨b,o,none⟩) n c) l) (i m:Nat) (hm:i+m=n) (A':Option Addr) (hA:0<m→A'=some ⟨b,o+i*5,none⟩) (c':Nat):Src Tryz.prog 5 41 (.slice A' m c') m (bH (l.drop i)) w:=by
 have hn:=OL.len h
 subst hn
 have:=xW h Tryz.underlying41 (oU _) (by omega) i m (by omega) A' c' (fun g o e hp=>by cases e;exact hA (by omega))
 rwa [GI,fO (by rw[oQ,lu];omega)] at this
theorem RV.keeps (h:RV w Z gs gl av ev xs ys M) (hf:Fr (fun k=>k=gs) w w') {x:OV} {o:aC} (hx:dD w x o):dD w' x o:=by
 refine hx.fr hf fun k hk e=> ?_
 obtain⟨cur,hcur⟩:=au hx.data hk
 subst e
 exact absurd (ak hcur h.cells) (by decide)
theorem RV.applied (h:RV w Z gs gl av ev xs ys M) (hf:Fr (fun k=>k=gs) w w') (hv:dD w v e.2) (hall:(M.app e).tab.map (fun x=>x.2)=xs'.map fun x=>x.2) (hmem:∀x∈xs',x=(v,e.2)∨x∈xs)
  (row:w'.heap[gs]?=some (.cells #[pt gl,LP,.int .i64 (e.2.ver:Int),.int .i64 (M.base:Int),ev'] 90 (0,0)))
  (all:OL w' w.heap.size LP (xs'.map fun x=>x.1)) (evs:ah w' w.heap.size 114 7 ev' (ys.length+1) (iK ys++kS e.1 e.2.ver nv)) (hn:dD w nv (jl M e)) (hnb:∀k,(sl nv).ownBlock=some k→Z k∨(sl v).ownBlock=some k):
  RV w' (fun k=>ext Z w w' k∨(sl v).ownBlock=some k) gs gl LP ev' xs' (ys++[(e.1,(nv,jl M e))]) (M.app e):=by
 refine⟨?_,all.mono fun k hk=>bU _,hall,?_,?_,?_,?_,.inl (.inl h.zs),?_,?_,?_,?_⟩
 ·rw [xI,ES];exact row
 ·intro x hx
  rcases hmem x hx with rfl | hx
  ·exact h.keeps hf hv
  ·exact h.keeps hf (h.each x hx)
 ·rw [pX,Bf,bP]
  exact evs.mono fun k hk=>bU _
 ·rw [Kw,h.IE,dI];rfl
 ·intro y hy
  rcases iO.1 hy with hy | hy
  ·exact h.keeps hf (h.kY y hy)
  ·rw [iq.1 hy];exact h.keeps hf hn
 ·exact fun k hk=>.inl (.inr (ah.lt all k hk))
 ·exact fun k hk=>.inl (.inr (ah.lt evs k hk))
 ·intro x hx k hk
  rcases hmem x hx with rfl | hx
  ·exact .inr hk
  ·exact .inl (.inl (h.zx x hx k hk))
 ·intro y hy k hk
  rcases iO.1 hy with hy | hy
  ·exact .inl (.inl (h.zy y hy k hk))
  ·rw [iq.1 hy] at hk
   exact(hnb k hk).imp .inl id
theorem RV.table (h:RV w Z gs gl av ev xs ys M) (hM:M.Ok):M.tab=(Ej xs).map (fun e=>(e.1,e.2.2))∧aT aS (Ej xs)∧∀x∈xs,x.2.Ok:=by
 have e:=VH h.allM fun x hx=>(hM.tab.each x hx).1
 refine⟨e,?_,fun x hx=> ?_⟩
 ·have hr:=hM.tab.tH
  rw[e] at hr
  unfold aT at hr ⊢
  rw[List.pairwise_map] at hr
  exact hr
 ·have hm:x.2∈M.tab.map fun y=>y.2:=by rw[h.allM];exact bW.2 ⟨x,hx,rfl⟩
  obtain⟨y,hy,e⟩:=bW.1 hm
  rw[←e]
  exact(hM.tab.each y hy).2.1
theorem Za (h:RV w Z gs gl av ev xs ys M) (hM:M.Ok) (hl:xs.length≤100000) (hl2:ys.length≤100000) (d:Bool) (o:aC) (hv:dD w v o) (hc:M.Can (d,o)) (hd:d=true→(getM M (o.kind:Int) o.space o.name).isSome=true):
  Cl 71 #[pt gs,.agg #[.int .i64 (o.ver:Int),.bool d,.int .i64 v.kind,.string v.space,.string v.name,.int .i64 v.ver,.slice v.A v.n v.c]] w fun en w'=>en=.returned (.tuple #[])∧
   ∃LP ev' xs' ys',RV w' (fun k=>ext Z w w' k∨(sl v).ownBlock=some k) gs gl LP ev' xs' ys' (M.app (d,o))∧Fr (fun k=>k=gs) w w':=by
 obtain⟨Ae,ce,eev,-,-⟩:=h.evs.form
 subst eev
 obtain⟨w1,hw1⟩:∃W,W=w.alloc (y9 (o.ver:Int) d v):=⟨_,rfl⟩
 obtain⟨B,hB⟩:∃B,B=w.heap.size:=⟨_,rfl⟩
 have hb1:=(aj w.heap.size w).alloc Kv (y9 (o.ver:Int) d v)
 have hr1:=aA w (y9 (o.ver:Int) d v)
 rw[←hw1] at hb1 hr1
 rw[←hB] at hr1
 have hgB:gs≠B:=fun e=>by have:=h.lt;omega
 have h1:=h.below hb1
 obtain⟨w2,hw2⟩:∃W,W=w1.setCell ⟨gs,2,none⟩ (.int .i64 (o.ver:Int)):=⟨_,rfl⟩
 have hf2:Fr (fun k=>k=gs) w1 w2:=by rw[hw2];exact(Fr.refl (fun k=>k=gs) w1).setCell (p:=⟨gs,2,none⟩) (fun _=>rfl) _
 have h2:RV w2 Z gs gl av (.slice Ae ys.length ce) xs ys ⟨o.ver,M.base,M.tab,M.evs⟩:=
  ⟨by rw[hw2];exact aI _ _ 2 _ _ _ h1.cells,ah.kept h1.all hf2 fun k hk e=>by
    obtain⟨cur,hcur⟩:=au h1.all hk
    subst e
    exact absurd (ak hcur h1.cells) (by decide),h.allM,fun x hx=>h1.keeps hf2 (h1.each x hx),h1.evs.kept hf2 fun k hk e=>by
    obtain⟨cur,hcur⟩:=au h1.evs hk
    subst e
    exact absurd (ak hcur h1.cells) (by decide),h.IE,fun y hy=>h1.keeps hf2 (h1.kY y hy),h.zs,h.za,h.ze,h.zx,h.zy⟩
 have hr2:w2.heap[B]?=some (y9 (o.ver:Int) d v):=(hf2.block B (Cq hr1) (fun e=>hgB e.symm)).trans hr1
 have hap:∀{l},l∈ru xs v o→l=(v,o)∨l∈xs:=fun {l} hl=>by
  obtain⟨e,he,rfl⟩:=bW.1 hl
  rcases tu he with rfl | he
  ·exact .inl rfl
  ·obtain ⟨x,hx,rfl⟩:=bW.1 he
   exact .inr hx
 obtain⟨t1,t2,t3⟩:=h.table hM
 have uO:Hid (d=false→Cl 130 #[pt gs,.agg (ov v)] w2 fun e w3=>e=.returned (.tuple #[])∧∃A3 n3 c3,∃RJ:List (OV×aC),w3.heap[gs]?=some (.cells #[pt gl,.slice A3 n3 c3,.int .i64 (o.ver:Int),.int .i64 (M.base:Int),.slice Ae ys.length ce] 90 (0,0))∧w3.heap[B]?=some (y9 (o.ver:Int) false v)∧Fr (fun k=>k=gs) w2 w3∧OL w3 w.heap.size (.slice A3 n3 c3) (RJ.map fun x=>x.1)∧(M.app (false,o)).tab.map (fun x=>x.2)=RJ.map (fun x=>x.2)∧∀x∈RJ,x=(v,o)∨x∈xs):=Hj fun hd0=>by
  subst hd0
  refine(PutR h2 hl v o ⟨hv.kind,hv.space,hv.name⟩ hc.ok t2 t3).mono ?_
  rintro e w3 ⟨rfl,A3,c3,wm,rfl,hol,hbm⟩
  have hfm:Fr (fun k=>k=gs) w2 (wm.setCell ⟨gs,1,none⟩ (.slice A3 (ru xs v o).length c3)):=(Fr.of_below (S:=fun k=>k=gs) hbm).setCell (p:=⟨gs,1,none⟩) (fun _=>rfl) _
  refine⟨rfl,A3,_,c3,ru xs v o,aI _ _ 1 _ _ _ ((hbm.block gs h2.lt).trans h2.cells),(hfm.block B (Cq hr2) (fun e=>hgB e.symm)).trans hr2,hfm,?_,?_,fun x hx=>hap hx⟩
  ·refine ah.mono (b':=w.heap.size) (ah.kept hol ((Fr.refl (fun k=>k=gs) wm).setCell (p:=⟨gs,1,none⟩) (fun _=>rfl) _) fun k hk e=> ?_) fun k hk=> ?_
   ·have:=(ah.lt hol k hk).1
    have:=h2.lt
    omega
   ·have:=(ah.lt hol k hk).1
    have:=hf2.size
    have:=hb1.size
    omega
  ·show (ins aS (aW o) o M.tab).map _=_
   rw[t1]
   unfold ru
   rw[iH]
   have e:=qJ (lt:=aS) (fun y:OV×aC=>y.2) (aW o) (v,o) (Ej xs)
   simp only at e
   rw[e,iH]
   rfl
 have HFnd:Hid (d=true→Cl 29 #[pt gs,.agg (ov v)] w2 fun e w3=>∃(i:Nat) (x:OV×aC),e=.returned (.int .i64 (i:Int))∧xs[i]?=some x∧(M.app (true,o)).tab.map (fun x=>x.2)=(xs.take i++xs.drop (i+1)).map (fun x=>x.2)∧jl M (true,o)={o with data:=x.2.data}∧Bw w2 w3):=Hj fun hd1=>by
  refine(Gt h2 hl v).mono ?_
  rintro e w3 ⟨r,rfl,hf,hb⟩
  rw[hv.kind,hv.space,hv.name] at hf
  rcases oP hM hf with ⟨rfl,hn⟩ | ⟨i,x,rfl,hi,hg,hk⟩
  ·have:=hd hd1
   rw[hn] at this
   cases this
  ·have hkx:aW x=aW o:=hk
   have hx:(xs.map fun x=>x.2)[i]?=some x:=by rw[←h.allM,dK,hi];rfl
   rw[dK] at hx
   cases hxi:xs[i]? with
   | none=>rw[hxi] at hx;cases hx
   | some y=>
    rw[hxi] at hx
    injection hx with hx
    subst hx
    refine⟨i,y,rfl,hxi,?_,?_,hb⟩
    ·show (rem aS (aW o) M.tab).map _=_
     rw[Zg dh hM.tab.tH (by rw[←hkx];exact hi),dI,dI,List.map_take,List.map_drop,List.map_take,List.map_drop,h.allM]
    ·show ({o with data:=M.was (aW o)}:aC)=_
     unfold bQ.was
     rw[←hkx,fF dh hM.tab.tH hi]
 have HNa:Hid (∀k,av.ownBlock=some k→¬k=B):=Hj fun k hk=>by have:=(ah.lt h.all k hk).2;omega
 have HNe:Hid (∀k,(Value.slice Ae ys.length ce).ownBlock=some k→¬k=B):=Hj fun k hk=>by have:=(ah.lt h.evs k hk).2;omega
 have H2:=Hj h2
 have HR2:=Hj hr2
 have HW:=Hj (aB hw1 hB)
 have HW2:=Hj hw2
 have HF2:Hid (Fr (fun k=>k=gs) w w2):=Hj ((Fr.of_below hb1).trans hf2 fun _ _ x=>x)
 have A:=VE.of hr2
 have c2:w1.cell? ⟨gs,2,none⟩=some (.int .i64 (M.rev:Int)):=Kq 2 h1.cells
 have f2:w1.frozen? ⟨gs,2,none⟩=false:=Kj h1.cells
 rw[hw1] at c2 f2
 rw[hw2,hw1,hB] at A
 unfold y9 at A c2 f2
 obtain⟨a0,a1,a2,a3,a4,a5,a6⟩:=A
 have HV:=Hj h
 have Hv:=Hj hv
 have HM:=Hj hM
 have HC:=Hj hc
 have HD:=Hj hd
 have HL:=Hj (aB hl hl2)
 clear hap t1 t2 t3 h h1 h2 hf2 hr1 hr2 hw1 hB hw2 hb1 hv hM hc hd hl hl2
 unfold y9 at HW
 go_enter Tryz.func71,Tryz.ntmps71
 cases d
 case' false=>
  go_wp2_with (first
   | (go_at_call 130;rw[←HW.out.1,←HW2.out,←HW.out.2];((refine(uO.out rfl).mono ?_);rintro e w3 ⟨rfl,A3,n3,c3,RJ,hg3,he3,hf3,ho3,hp3,YB⟩;have G3:=Hj hg3;have E3:=Hj he3;have F3:Hid (Fr (fun k=>k=gs) w w3):=Hj (HF2.out.trans hf3 fun _ _ x=>x);have O3:=Hj ho3;have P3:=Hj (aB hp3 YB);clear hg3 he3 hf3 ho3 hp3 YB))
   | fail)
  obtain⟨nv,VJ⟩:∃nv:OV,nv=v:=⟨_,rfl⟩
  have N3:Hid (dD w nv (jl M (false,o))∧∀k,(sl nv).ownBlock=some k→Z k∨(sl v).ownBlock=some k):=Hj ⟨by rw[VJ];exact Hv.out,fun k hk=>.inr (by rw[←VJ];exact hk)⟩
  rw[←VJ] at E3
  obtain⟨d,hd⟩:∃d:Bool,d=false:=⟨_,rfl⟩
  rw[←hd] at N3 E3 P3
  have HDd:=Hj hd
  clear VJ hd
 case' true=>
  go_wp2_with (first
   | (go_at_call 29;rw[←HW.out.1,←HW2.out,←HW.out.2];((refine(HFnd.out rfl).mono ?_);rintro e w3 ⟨i,x,rfl,hx,hp,hev,hb⟩;have hi:=(fA.1 hx).1;obtain⟨A,cA,eav,k1,hrow⟩:=(H2.out.below hb).row;subst eav;obtain⟨b,o',rfl,hcell⟩:=hrow (by omega);obtain⟨-,-,-,-,d4⟩:=hcell i x hx;have k0:(0:Int)≤(i:Int):=(by omega);have k2:(i:Int)<(xs.length:Int):=(by omega);have k3:(i:Int)≤100000:=(by have:=HL.out.1;omega);have hr3:=(hb.block B (Cq HR2.out)).trans HR2.out;obtain⟨b0,b1,b2,b3,b4,b5,b6⟩:=VE.of hr3;have g6:w3.frozen? ⟨B,6,none⟩=false:=Kj hr3;have HX:=Hj hx;have HB3:=Hj hb;have HR3:=Hj hr3;have HP:=Hj (aB hp hev);have HI:=Hj hi;clear hx hp hev hb hrow hcell hr3 hi))
   | fail)
  obtain⟨w4,hw4⟩:∃W,W=w3.setCell ⟨B,6,none⟩ (.slice x.1.A x.1.n x.1.c):=⟨_,rfl⟩
  rw[←hw4]
  have hf4:Fr (fun k=>k=B) w3 w4:=by rw[hw4];exact(Fr.refl (fun k=>k=B) w3).setCell (p:=⟨B,6,none⟩) (fun _=>rfl) _
  have E4:Hid (w4.heap[B]?=some (y9 (o.ver:Int) true ⟨v.kind,v.space,v.name,v.ver,x.1.A,x.1.n,x.1.c⟩)):=Hj (by rw[hw4];exact aI _ _ 6 _ _ _ HR3.out)
  have G4:Hid (w4.heap[gs]?=some (.cells #[pt gl,.slice (some ⟨b,o',none⟩) xs.length cA,.int .i64 (o.ver:Int),.int .i64 (M.base:Int),.slice Ae ys.length ce] 90 (0,0))):=Hj ((hf4.block gs (H2.out.below HB3.out).lt hgB).trans (H2.out.below HB3.out).cells)
  have O4:Hid (OL w4 0 (.slice (some ⟨b,o',none⟩) xs.length cA) (xs.map fun x=>x.1)):=Hj (ah.kept (H2.out.below HB3.out).all hf4 HNa.out)
  have F4:Hid (Fr (fun k=>k=gs) w w4):=Hj (by
   have h1:Fr (fun k=>k=gs) w w3:=HF2.out.trans (Fr.of_below (S:=fun _=>False) HB3.out) fun _ _ x=>x.elim
   exact h1.trans hf4 fun k hk e=>by have:=HW.out.2;omega)
  have KA:Hid (∀W,Bw w4 W→W.cell? ⟨gs,1,none⟩=some (.slice (some ⟨b,o',none⟩) xs.length cA)∧W.frozen? ⟨gs,1,none⟩=false):=Hj fun W hW=>by
   have hr:=(hW.block gs (Cq G4.out)).trans G4.out
   exact⟨Kq 1 hr,Kj hr⟩
  have hcA:xs.length≤cA:=by obtain⟨A9,c9,e9,h9,-⟩:=ah.form O4.out;injection e9 with e1 e2 e3;omega
  have k4:(i:Int)≤(cA:Int):=by omega
  have k5:(i:Int)+1≤(xs.length:Int):=by omega
  have k7:IntKind.i64.wrap ((i:Int)+1)=(i:Int)+1:=cO _ (by omega)
  have k8:(0:Int)≤(i:Int)+1:=by omega
  have k6:(xs.length:Int)≤(cA:Int):=by omega
  obtain⟨q1,-⟩:=KA.out w4 (aj _ _)
  have q2:=fun o=>(KA.out (w4.alloc o) ((aj _ _).alloc Kv o)).1
  clear hf4 hw4 k1 d4 b0 b1 b2 b3 b4 b5 b6 g6 a0 a1 a2 a3 a4 a5 a6 c2 f2
  refine(fun(H:∀(A7:Option Addr) (c7:Nat) (A8:Option Addr) (c8:Nat) (w8:World),Bw w4 w8→ah w8 w4.heap.size 37 5 (.slice A8 (i+(xs.length-(i+1))) c8) (i+(xs.length-(i+1))) (bH ((xs.map fun x=>x.1).take i)++bH ((xs.map fun x=>x.1).drop (i+1)))→(?G:Option Addr→Nat→Option Addr→Nat→World→Prop) A7 c7 A8 c8 w8)=> ?b) ?h
  case b=>
   go_region_law (first
   | (refine lZ rfl (.tmp 27) (.tmp 33) (by rfl) (JD (w:=(w4.alloc (.cells #[] 37)).drew) (q:=w4.heap.size) (base:=w4.heap.size) (aA w4 _) (by omega)) (by rfl) (RH (O4.out.below (aJ ((aj _ w4).alloc Kv _))) i (by omega) _) (by rfl) (by omega) (by simp) ?_;intro v7 w7 aU cu;rw[dV,fP] at aU;obtain⟨A7,c7,rfl,-,-⟩:=aU.form;have B7:Hid (Bw w4 w7):=Hj (dH (aJ ((aj _ w4).alloc Kv _)) cu (by omega));obtain⟨y1,-⟩:=KA.out w7 B7.out;have O7:=Hj aU;clear aU cu)
   | (refine lZ rfl (.tmp 34) (.tmp 41) (by rfl) O7.out (by rfl) (RI (O4.out.below B7.out) (i+1) (xs.length-(i+1)) (by omega) (if cA=i+1 then some ⟨b,o',none⟩ else some ⟨b,o'+(i+1)*5,none⟩) (fun h0=>by rw[aG (by omega)]) (cA-(i+1))) (by rfl) (by have:=HL.out.1;omega) B7.out.size ?_;intro v8 w8 dB kQ;obtain⟨A8,c8,rfl,-,-⟩:=dB.form;have B8:Hid (Bw w4 w8):=Hj (B7.out.grown kQ B7.out.size fun q hq=>(ah.lt O7.out q hq).1);obtain⟨z1,zf⟩:=KA.out w8 B8.out;have O8:=Hj dB;clear dB kQ)
    | fail)
   all_goals exact H A7 c7 A8 c8 w8 B8.out O8.out
  intro A7 c7 A3 c3 w8 hb8 xJ
  generalize (if cA=i+1 then some (⟨b,o',none⟩:Addr) else some ⟨b,o'+(i+1)*5,none⟩)=AX
  revert xJ
  generalize hn3:i+(xs.length-(i+1))=n3
  intro xJ
  obtain⟨w3,hw3⟩:∃W,W=w8.setCell ⟨gs,1,none⟩ (.slice A3 n3 c3):=⟨_,rfl⟩
  rw[←hw3]
  have Nh:Fr (fun k=>k=gs) w8 w3:=by rw[hw3];exact(Fr.refl (fun k=>k=gs) w8).setCell (p:=⟨gs,1,none⟩) (fun _=>rfl) _
  have hl8:(xs.take i++xs.drop (i+1)).length=n3:=by rw[bP,eu,lu];have:=HI.out;omega
  have hgl:∀W:World,w4.heap.size≤W.heap.size→gs<w4.heap.size:=fun _ _=>(Cq G4.out)
  have G3:Hid (w3.heap[gs]?=some (.cells #[pt gl,.slice A3 n3 c3,.int .i64 (o.ver:Int),.int .i64 (M.base:Int),.slice Ae ys.length ce] 90 (0,0))):=Hj (by rw[hw3];exact aI _ _ 1 _ _ _ ((hb8.block gs (hgl w8 hb8.size)).trans G4.out))
  obtain⟨nv,VJ⟩:∃nv:OV,nv=⟨v.kind,v.space,v.name,v.ver,x.1.A,x.1.n,x.1.c⟩:=⟨_,rfl⟩
  have wI:=(hb8.block B (Cq E4.out)).trans E4.out
  have E3:Hid (w3.heap[B]?=some (y9 (o.ver:Int) true nv)):=Hj (by rw[VJ];exact(Nh.block B (Cq wI) (fun e=>hgB e.symm)).trans wI)
  have F3:Hid (Fr (fun k=>k=gs) w w3):=Hj ((F4.out.trans (Fr.of_below (S:=fun _=>False) hb8) fun _ _ x=>x.elim).trans Nh fun _ _ x=>x)
  obtain⟨RJ,RP⟩:∃l,l=xs.take i++xs.drop (i+1):=⟨_,rfl⟩
  have O3:Hid (OL w3 w.heap.size (.slice A3 n3 c3) (RJ.map fun x=>x.1)):=Hj (by
   have h:=ah.kept xJ Nh fun k hk e=>by have:=(ah.lt xJ k hk).1;have:=hgl w8 hb8.size;omega
   have e:(RJ.map fun x=>x.1)=(xs.map fun x=>x.1).take i++(xs.map fun x=>x.1).drop (i+1):=by rw[RP,dI,List.map_take,List.map_drop]
   have hn:(RJ.map fun x=>x.1).length=n3:=by rw[aX,RP,hl8]
   unfold OL
   rw[hn,e,show bH ((xs.map fun x=>x.1).take i++(xs.map fun x=>x.1).drop (i+1))=bH ((xs.map fun x=>x.1).take i)++bH ((xs.map fun x=>x.1).drop (i+1)) by unfold bH;rw[List.flatMap_append]]
   exact h.mono fun k hk=>Cz F4.out.size (ah.lt xJ k hk).1)
  have P3:Hid ((M.app (true,o)).tab.map (fun x=>x.2)=RJ.map (fun x=>x.2)∧∀x∈RJ,x=(v,o)∨x∈xs):=Hj ⟨by rw[HP.out.1,RP],fun y hy=>.inr (by
   rw[RP] at hy
   exact(iO.1 hy).elim List.mem_of_mem_take List.mem_of_mem_drop)⟩
  have N3:Hid (dD w nv (jl M (true,o))∧∀k,(sl nv).ownBlock=some k→Z k∨(sl v).ownBlock=some k):=Hj ⟨by
   have hx:=HV.out.each x (gJ HX.out)
   rw[HP.out.2,VJ]
   exact⟨Hv.out.kind,Hv.out.space,Hv.out.name,Hv.out.ver,hx.num,hx.data⟩,fun k hk=>.inl (HV.out.zx x (gJ HX.out) k (by rw[VJ] at hk;exact hk))⟩
  obtain⟨d,hd⟩:∃d:Bool,d=true:=⟨_,rfl⟩
  rw[←hd] at N3 E3 P3
  have HDd:=Hj hd
  clear VJ hd RP hgl hl8 wI Nh hw3 hb8 xJ hn3 k0 k2 k3 k4 k5 k6 k7 k8 q1 q2 hcA
 all_goals
  have KE:Hid (∀W,Bw w3 W→W.cell? ⟨gs,4,none⟩=some (.slice Ae ys.length ce)∧W.frozen? ⟨gs,4,none⟩=false∧VE W B (o.ver:Int) d nv):=Hj fun W hW=>by
   have hr:=(hW.block gs (Cq G3.out)).trans G3.out
   exact⟨Kq 4 hr,Kj hr,VE.of ((hW.block B (Cq E3.out)).trans E3.out)⟩
  have KS:Hid (∀W,Bw w3 W→Src Tryz.prog 7 88 (.slice Ae ys.length ce) ys.length (iK ys) W):=Hj fun W hW=>by
   have h3:=HV.out.evs.kept F3.out fun k hk e=>by
    obtain⟨cur,hcur⟩:=au HV.out.evs hk
    subst e
    exact absurd (ak hcur HV.out.cells) (by decide)
   have h:=xW (ah.below h3 hW) Tryz.underlying88 (JC _) (by omega) 0 ys.length (by omega) Ae ce (fun g o e _=>by rw[e];simp)
   rwa [Nat.zero_mul,List.drop_zero,fO (by have:=h3.1;omega)] at h
  obtain⟨e4,ef,ee⟩:=KE.out w3 (aj _ _)
  have q1:=fun o=>KE.out (w3.alloc o) ((aj _ w3).alloc Kv o)
  have q2:=fun o o'=>KE.out ((w3.alloc o).alloc o') (((aj _ w3).alloc Kv o).alloc (by simp) o')
  unfold VE at ee q1 q2
  have HE:=Hj hgB
  have Dk:Hid (∀A8 c8 w8,Bw w3 w8→ah w8 w3.heap.size 114 7 (.slice A8 (ys.length+1) c8) (ys.length+1) (iK ys++kS d o.ver nv)→∃LP ev' xs' ys',RV (w8.setCell ⟨gs,4,none⟩ (.slice A8 (ys.length+1) c8)) (fun k=>ext Z w (w8.setCell ⟨gs,4,none⟩ (.slice A8 (ys.length+1) c8)) k∨(sl v).ownBlock=some k) gs gl LP ev' xs' ys' (M.app (d,o))∧Fr (fun k=>k=gs) w (w8.setCell ⟨gs,4,none⟩ (.slice A8 (ys.length+1) c8))):=Hj fun A8 c8 w8 hb ho=>by
   have hs:Fr (fun k=>k=gs) w8 (w8.setCell ⟨gs,4,none⟩ (.slice A8 (ys.length+1) c8)):=(Fr.refl (fun k=>k=gs) w8).setCell (p:=⟨gs,4,none⟩) (fun _=>rfl) _
   have hF:Fr (fun k=>k=gs) w (w8.setCell ⟨gs,4,none⟩ (.slice A8 (ys.length+1) c8)):=(F3.out.trans (Fr.of_below (S:=fun _=>False) hb) fun _ _ x=>x.elim).trans hs fun _ _ x=>x
   have hgl:=HV.out.lt
   have o3:=O3.out.below hb
   exact⟨.slice A3 n3 c3,_,RJ,_,RV.applied (e:=(d,o)) HV.out hF Hv.out P3.out.1 P3.out.2 (aI _ _ 4 _ _ _ ((hb.block gs (Cq G3.out)).trans G3.out)) (ah.kept o3 hs fun k hk e=>by have:=(ah.lt o3 k hk).1;omega) ((ah.kept ho hs fun k hk e=>by have:=(ah.lt ho k hk).1;have:=F3.out.size;omega).mono fun k hk=>Cz F3.out.size (ah.lt ho k hk).1) N3.out.1 N3.out.2,hF⟩
  clear hgB uO HFnd H2 HR2 HW HW2 HD
  go_wp2
  go_region_law (first
   | (refine iy rfl (.tmp 50) (.tmp 54) (by rfl) (sN (w:=(w3.alloc (.cells #[] 114)).drew) (q:=w3.heap.size) (base:=w3.heap.size) (aA w3 _) (by omega)) (by rfl) (KS.out _ (aJ ((aj _ w3).alloc Kv _))) (by rfl) (by have:=HL.out.2;omega) (by simp) ?_;intro v7 w7 aU cu;rw[dV,fP] at aU;obtain⟨A7,c7,rfl,-,-⟩:=aU.form;have B7:Hid (Bw w3 w7):=Hj (dH (aJ ((aj _ w3).alloc Kv _)) cu (by omega));obtain⟨y4,-,y⟩:=KE.out w7 B7.out;unfold VE at y;have O7:=Hj aU;have z1:=fun o=>KE.out (w7.alloc o) (B7.out.alloc B7.out.size o);unfold VE at z1;clear aU cu)
   | (refine iy rfl (.tmp 50) (.tmp 54) (by rfl) (sN (w:=((w3.alloc (.cells #[] 114)).alloc (y9 (o.ver:Int) d nv)).drew) (q:=w3.heap.size) (base:=w3.heap.size) (aP w3 (.cells #[] 114) (y9 (o.ver:Int) d nv)).1 (by omega)) (by rfl) (KS.out _ (aJ (aP w3 (.cells #[] 114) (y9 (o.ver:Int) d nv)).2.2)) (by rfl) (by have:=HL.out.2;omega) (by simp;omega) ?_;intro v7 w7 aU cu;rw[dV,fP] at aU;obtain⟨A7,c7,rfl,-,-⟩:=aU.form;have B7:Hid (Bw w3 w7):=Hj (dH (aJ (aP w3 (.cells #[] 114) (y9 (o.ver:Int) d nv)).2.2) cu (by omega));obtain⟨y4,-,y⟩:=KE.out w7 B7.out;unfold VE at y;have O7:=Hj aU;have z1:=fun o=>KE.out (w7.alloc o) (B7.out.alloc B7.out.size o);unfold VE at z1;have X7:=Hj (Em (cp:=1) (kP (wa:=((w3.alloc (.cells #[] 114)).alloc (y9 (o.ver:Int) d nv)).drew) (aP w3 (.cells #[] 114) (y9 (o.ver:Int) d nv)).2.1 cu (by omega)));clear aU cu)
   | (refine iy rfl (.tmp 50) (.tmp 54) (by rfl) (sN (w:=((w3.alloc (y9 (o.ver:Int) d nv)).alloc (.cells #[] 114)).drew) (q:=w3.heap.size+1) (base:=w3.heap.size) (aP w3 (y9 (o.ver:Int) d nv) (.cells #[] 114)).2.1 (by omega)) (by rfl) (KS.out _ (aJ (aP w3 (y9 (o.ver:Int) d nv) (.cells #[] 114)).2.2)) (by rfl) (by have:=HL.out.2;omega) (by simp;omega) ?_;intro v7 w7 aU cu;rw[dV,fP] at aU;obtain⟨A7,c7,rfl,-,-⟩:=aU.form;have B7:Hid (Bw w3 w7):=Hj (dH (aJ (aP w3 (y9 (o.ver:Int) d nv) (.cells #[] 114)).2.2) cu (by omega));obtain⟨y4,-,y⟩:=KE.out w7 B7.out;unfold VE at y;have O7:=Hj aU;have z1:=fun o=>KE.out (w7.alloc o) (B7.out.alloc B7.out.size o);unfold VE at z1;have X7:=Hj (Em (cp:=1) (kP (wa:=((w3.alloc (y9 (o.ver:Int) d nv)).alloc (.cells #[] 114)).drew) (aP w3 (y9 (o.ver:Int) d nv) (.cells #[] 114)).1 cu (by omega)));clear aU cu)
   | (refine iy rfl (.tmp 55) (.tmp 57) (by rfl) (O7.out.alloc _) (by rfl) (Em (cp:=1) (d:=d) (v:=nv) (aA w7 _)) (by rfl) (by have:=HL.out.2;omega) (by have:=B7.out.size;simp;omega) ?_;intro v8 w8 dB kQ;obtain⟨A8,c8,rfl,-,-⟩:=dB.form;have B8:Hid (Bw w3 w8):=Hj ((B7.out.alloc B7.out.size _).grown kQ (by have:=B7.out.size;simp;omega) fun q hq=>(ah.lt O7.out q hq).1);have O8:=Hj dB;obtain⟨u4,uf,-⟩:=KE.out w8 B8.out;clear dB kQ)
   | (refine iy rfl (.tmp 55) (.tmp 57) (by rfl) O7.out (by rfl) X7.out (by rfl) (by have:=HL.out.2;omega) B7.out.size ?_;intro v8 w8 dB kQ;obtain⟨A8,c8,rfl,-,-⟩:=dB.form;have B8:Hid (Bw w3 w8):=Hj (B7.out.grown kQ B7.out.size fun q hq=>(ah.lt O7.out q hq).1);have O8:=Hj dB;obtain⟨u4,uf,-⟩:=KE.out w8 B8.out;clear dB kQ)
   | fail)
  all_goals
   have hd:=HDd.out
   subst hd
   exact bodyPost_end (fM rfl _ _ _) rfl ⟨rfl,Dk.out _ _ _ B8.out O8.out⟩
end
end Go.Proofs.YtdhbpajamlfacaaGreatDoor
