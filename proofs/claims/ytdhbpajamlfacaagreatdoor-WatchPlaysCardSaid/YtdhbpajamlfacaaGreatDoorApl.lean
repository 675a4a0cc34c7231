/- Layer 20 (store): apply. -/
import Derived.Test.YtdhbpajamlfacaaGreatDoorStS
import Derived.Test.YtdhbpajamlfacaaGreatDoorNam
import Derived.Test.YtdhbpajamlfacaaGreatDoorDerR
set_option maxHeartbeats 4000000
set_option maxRecDepth 100000
namespace Go.Proofs.YtdhbpajamlfacaaGreatDoor
open Go.RowKit SO
theorem nC {w:World} {b b':Nat} {cs cs':Array Value} {T T':TypeId} (hb:w.heap[b]?=some (.cells cs T (0,0))) (e:b=b') (hc:w.heap[b']?=some (.cells cs' T' (0,0))) (hT:T≠T'):False:=by
 subst e
 exact hT (ak hb hc)
theorem Dj:(Tryz.prog.info? 99).map (fun i=>(i.zero,i.size,i.bytes))=some (some (.agg #[.int .i64 0,.bool false,.int .i64 0,.string ⟨#[]⟩,.string ⟨#[]⟩,.int .i64 0,.slice none 0 0]),7,88):=by kernel_rfl
theorem Aa {ops:Array Oper} {o:Oper} {a:Act} {w:World} {K:Act→World→Prop} {Q:Exit→Act→World→Prop} {E:Prop} (hgd:o.guard=none) (s x:Operand)
  (ho:o.op=.call {callee:=.builtin .append,args:=#[s,x],argTypes:=#[95,95]})
  {base:Nat} {v:Value} {n:Nat} {ws:List Value} (hown:ah w base 99 7 v n ws) (hs:a.eval s=v)
  {xv:Value} {news:List Value} (hsrc:Src Tryz.prog 7 95 xv 1 news w) (hx:a.eval x=xv) (hbytes:n≤1000000) (hbase:base≤w.heap.size)
  (h:∀v' w',ah w' base 99 7 v' (n+1) (ws++news)→w.grownBy w' v.ownBlock→(v'.ownBlock=v.ownBlock∨v'.ownBlock=some w.heap.size)→K (a.put o.dst v') w'):
  if Region.wanted o (yielded ops a.tmps)=true then Oper.wp Tryz.prog o a w K Q else E:=by
 obtain⟨i0,hi,hz0,hz1,hz2⟩:=dO Dj
 exact dA hgd s x 95 95 ho i0 _ 88 Tryz.underlying95 hi hz0 hz1 hz2 rfl (by omega) hs hown xv 1 _ hx hsrc (by unfold maxLen;omega) (by omega) hbase fun v' w' h1 h2 h3=>h v' w' h1 h2 h3
def kS (d:Bool) (r:Nat) (v:OV):List Value:=[.int .i64 (r:Int),.bool d,.int .i64 v.kind,.string v.space,.string v.name,.int .i64 v.ver,sl v]
theorem pX (ys:List (Bool×(OV×aC))) (d:Bool) (v:OV) (o:aC):iK (ys++[(d,(v,o))])=iK ys++kS d o.ver v:=by simp[iK,kS]
theorem Src.ev (w:World) (d:Bool) (r:Nat) (v:OV):Src Tryz.prog 7 95 (.slice (some ⟨w.heap.size,0,none⟩) 1 1) 1 (kS d r v) (w.alloc (.cells #[.int .i64 (r:Int),.bool d,.int .i64 v.kind,.string v.space,.string v.name,.int .i64 v.ver,.slice v.A v.n v.c] 99)):=
 Src.ofSlice _ Tryz.underlying95 _ _ 1 _ rfl (fun j u hu=>mJ (cs:=#[.int .i64 (r:Int),.bool d,.int .i64 v.kind,.string v.space,.string v.name,.int .i64 v.ver,.slice v.A v.n v.c]) (aA w _) j u hu) (fun u hu=>by
  simp only[kS,List.mem_cons,List.not_mem_nil,or_false] at hu
  rcases hu with rfl | rfl | rfl | rfl | rfl | rfl | rfl<;>rfl)
section
variable {w w' w0:World} {Z Q:Nat→Prop} {g gl gs gt:Nat} {m:DM} {L:LM} {M:bQ} {v nv:OV} {sh sh':Code} {ev ev':Value} {xs:List (ByteArray×(OV×aC))} {ys:List (Bool×(OV×aC))} {e:Bool×aC}
/-- The object of the change as the events tell it. -/
def jl (M:bQ) (e:Bool×aC):aC:=if e.1=true then {e.2 with data:=M.was (aW e.2)} else e.2
theorem Kw (M:bQ) (e:Bool×aC):(M.app e).evs=M.evs++[(e.1,jl M e)]:=by
 obtain⟨d,o⟩:=e
 cases d<;>rfl
theorem Bf (M:bQ) (e:Bool×aC):(jl M e).ver=e.2.ver:=by
 unfold jl
 split<;>rfl
def yc (xs:List (ByteArray×(OV×aC))) (v:OV) (e:Bool×aC):List (ByteArray×(OV×aC)):=if e.1=true then rem aS (aW e.2) xs else ins aS (aW e.2) (v,e.2) xs
theorem SV.PN (hV:SV w Z gl gs gt sh ev xs ys M) (hf:Fr (fun k=>k=gs∨k=gt∨ev.ownBlock=some k) w w') {x:Value} {l:List UInt8} (h:OB w 0 x l):OB w' 0 x l:=by
 refine ah.kept h hf fun k hk hx=> ?_
 obtain⟨cur,hcur⟩:=au h hk
 rcases hx with rfl | rfl | hx
 ·exact absurd (ak hcur hV.cells) (by decide)
 ·obtain ⟨p,hp,-⟩:=hV.tab
  exact absurd (ak hcur hp) (by decide)
 ·obtain ⟨cur',kE⟩:=au hV.evs hx
  exact absurd (ak hcur kE) (by decide)
theorem SV.keeps (hV:SV w Z gl gs gt sh ev xs ys M) (hf:Fr (fun k=>k=gs∨k=gt∨ev.ownBlock=some k) w w') {x:OV} {o:aC} (h:dD w x o):dD w' x o:=⟨h.kind,h.space,h.name,h.ver,h.num,hV.PN hf h.data⟩
theorem SV.applied (hV:SV w Z gl gs gt sh ev xs ys M) (hf:Fr (fun k=>k=gs∨k=gt∨ev.ownBlock=some k) w w') (hc:M.Can e) (hv:dD w v e.2)
  (row:w'.heap[gs]?=some (.cells #[pt gl,pt gt,.int .i64 (e.2.ver:Int),.int .i64 (M.base:Int),ev'] 104 (0,0)))
  (tab:TabAt w' gt sh' ((yc xs v e).map fun x=>(x.1,x.2.1))) (evs:ah w' 0 99 7 ev' (ys.length+1) (iK ys++kS e.1 e.2.ver nv)) (hown:∀k,ev'.ownBlock=some k→ev.ownBlock=some k∨(w.heap.size≤k∧k<w'.heap.size))
  (hn:dD w' nv (jl M e)) (hnb:∀k,(sl nv).ownBlock=some k→w.heap.size≤k):
  SV w' (fun k=>Z k∨(w.heap.size≤k∧k<w'.heap.size)∨(sl v).ownBlock=some k) gl gs gt sh' ev' (yc xs v e) (ys++[(e.1,(nv,jl M e))]) (M.app e):=by
 have hmem:∀x∈yc xs v e,x=(aW e.2,(v,e.2))∨x∈xs:=fun x hx=>by
  unfold yc at hx
  split at hx
  ·exact .inr (mM.subset hx)
  ·exact tu hx
 refine⟨?_,tab,?_,?_,?_,?_,?_,hV.ok.app hc,.inl hV.zs,.inl hV.zt,?_,?_,?_⟩
 ·rw [xI,ES];exact row
 ·unfold bQ.app yc
  split
  ·show rem aS _ M.tab=_
   rw[hV.nD]
   exact tC (fun y:OV×aC=>y.2) _ _
  ·show ins aS _ _ M.tab=_
   rw[hV.nD]
   exact qJ (fun y:OV×aC=>y.2) _ (v,e.2) _
 ·intro x hx
  rcases hmem x hx with rfl | hx
  ·exact hV.keeps hf hv
  ·exact hV.keeps hf (hV.each x hx)
 ·rw [pX,Bf,bP];exact evs
 ·rw [Kw,hV.IE,dI];rfl
 ·intro y hy
  rcases iO.1 hy with hy | hy
  ·exact hV.keeps hf (hV.kY y hy)
  ·rw [iq.1 hy];exact hn
 ·exact fun k hk=>(hown k hk).elim (fun h=>.inl (hV.ze k h)) fun h=>.inr (.inl h)
 ·intro x hx k hk
  rcases hmem x hx with rfl | hx
  ·exact .inr (.inr hk)
  ·exact .inl (hV.zx x hx k hk)
 ·intro y hy k hk
  rcases iO.1 hy with hy | hy
  ·exact .inl (hV.zy y hy k hk)
  ·rw [iq.1 hy] at hk
   exact .inr (.inl ⟨hnb k hk,(hn.data.lt k hk).2⟩)
theorem ET {w3 wc w8:World} {cs:Array Value} (hr:w3.heap[gs]?=some (.cells cs 104 (0,0))) {n:Nat} {zs:List Value} (hx:ah w3 0 99 7 ev n zs) (hb:Bw w3 wc) (hg:wc.grownBy w8 ev.ownBlock):w8.heap[gs]?=some (.cells cs 104 (0,0)):=by
 refine(((Fr.of_below (S:=fun k=>ev.ownBlock=some k) hb).trans (Fr.bF hg) fun k _ hk=>hk.symm).block gs (Cq hr) fun e=> ?_).trans hr
 obtain⟨_,hc⟩:=au hx e
 exact absurd (ak hc hr) (by decide)
/-- An event's block. -/
def Um (r:Int) (d:Bool) (v:OV):Obj:=.cells #[.int .i64 r,.bool d,.int .i64 v.kind,.string v.space,.string v.name,.int .i64 v.ver,.slice v.A v.n v.c] 99
def VP (W:World) (B:Nat) (r:Int) (d:Bool) (v:OV):Prop:=
 W.cell? ⟨B,0,none⟩=some (.int .i64 r)∧W.cell? ⟨B,1,none⟩=some (.bool d)∧W.cell? ⟨B,2,none⟩=some (.int .i64 v.kind)∧W.cell? ⟨B,3,none⟩=some (.string v.space)∧W.cell? ⟨B,4,none⟩=some (.string v.name)∧W.cell? ⟨B,5,none⟩=some (.int .i64 v.ver)∧W.cell? ⟨B,6,none⟩=some (.slice v.A v.n v.c)
theorem VP.of {B:Nat} {r:Int} {d:Bool} (h:w.heap[B]?=some (Um r d v)):VP w B r d v:=
 ⟨Kq 0 h,Kq 1 h,Kq 2 h,Kq 3 h,Kq 4 h,Kq 5 h,Kq 6 h⟩
theorem Bg (v:OV) (o:aC) (d:Bool) (h:SW w0 w Q g m gs L M) (hv:dD w v o) (hX:∀k,(sl v).ownBlock=some k→¬Q k∧w0.heap.size≤k) (hc:M.Can (d,o)) (hl:M.tab.length≤100000) (hl2:M.evs.length≤100000):
  Cl 67 #[pt gs,.agg #[.int .i64 (o.ver:Int),.bool d,.int .i64 v.kind,.string v.space,.string v.name,.int .i64 v.ver,.slice v.A v.n v.c]] w fun en w'=>en=.returned (.tuple #[])∧SW w0 w' (fun k=>ext Q w w' k∨(sl v).ownBlock=some k) g m gs L (M.app (d,o))∧Fr Q w w':=by
 obtain⟨Z,gl,gt,sh,ev,xs,ys,hV,hZ,hU⟩:=h.use
 obtain⟨w1,hw1⟩:∃W,W=w.alloc (Um (o.ver:Int) d v):=⟨_,rfl⟩
 obtain⟨B,hB⟩:∃B,B=w.heap.size:=⟨_,rfl⟩
 have hb1:=(aj w.heap.size w).alloc Kv (Um (o.ver:Int) d v)
 have hr1:=aA w (Um (o.ver:Int) d v)
 rw[←hw1] at hb1 hr1
 rw[←hB] at hr1
 have hpt:=hc.ok.parts
 have uN:Hid (Cl 98 #[.agg (ov v)] w1 fun e w'=>e=.returned (.string (aW o))∧Bw w1 w'):=Hj (by
  rw[show aW o=jr v.kind v.space v.name by rw[hv.kind,hv.space,hv.name];rfl]
  exact Ky v w1 (by rw[hv.kind];simp only at hpt;omega) (by rw[hv.space];simp only at hpt;omega) (by rw[hv.name];simp only at hpt;omega))
 have hgs:gs<B:=by have:=hV.lt;omega
 have hgt:gt<B:=by have:=hV.tab.lt;omega
 have hgg:gt≠gs:=fun e=>by
  obtain⟨p,hp,-⟩:=hV.tab
  rw[e] at hp
  exact absurd (ak hp hV.cells) (by decide)
 have HD:Hid (B≠gs∧B≠gt∧gt≠gs):=Hj ⟨by omega,by omega,hgg⟩
 have hyl:ys.length≤1000000:=by have:=bJ List.length hV.IE;rw[aX] at this;omega
 have hxl:(xs.map fun x=>(x.1,x.2.1)).length≤1000000000:=by rw[aX];have:=bJ List.length hV.nD;rw[aX] at this;omega
 have HYn:=Hj hyl
 -- the table's calls
 have uO:Hid (d=false→∀W,TabAt W gt sh (xs.map fun x=>(x.1,x.2.1))→Cl 84 #[pt gt,(.string (aW o)),(.agg (ov v))] W fun e w'=>(∃b,e=.returned (.bool b))∧(∃s2,TabAt w' gt s2 ((yc xs v (d,o)).map fun x=>(x.1,x.2.1)))∧Fr (fun i=>i=gt) W w'):=Hj fun hd W hW=>by
  subst hd
  refine(Xa gt (aW o) v sh _ W hW hV.tH hxl).mono ?_
  rintro e w' ⟨rfl,h2,h3⟩
  refine⟨⟨_,rfl⟩,⟨lN aS (aW o) sh (xs.map fun x=>(x.1,x.2.1)),?_⟩,h3⟩
  rw[show (yc xs v (false,o)).map (fun x=>(x.1,x.2.1))=ins aS (aW o) v (xs.map fun x=>(x.1,x.2.1)) from (qJ (fun y:OV×aC=>y.1) (aW o) (v,o) xs).symm]
  exact h2
 have EU:Hid (d=true→∀W,TabAt W gt sh (xs.map fun x=>(x.1,x.2.1))→Cl 86 #[pt gt,(.string (aW o))] W fun e w'=>(∃b,e=.returned (.bool b))∧(∃s2,TabAt w' gt s2 ((yc xs v (d,o)).map fun x=>(x.1,x.2.1)))∧Fr (fun i=>i=gt) W w'):=Hj fun hd W hW=>by
  subst hd
  refine(Xb gt (aW o) sh _ W hW hV.tH hxl).mono ?_
  rintro e w' ⟨rfl,h2,h3⟩
  refine⟨⟨_,rfl⟩,⟨delS aS (aW o) sh (xs.map fun x=>(x.1,x.2.1)),?_⟩,h3⟩
  rw[show (yc xs v (true,o)).map (fun x=>(x.1,x.2.1))=rem aS (aW o) (xs.map fun x=>(x.1,x.2.1)) from (tC (fun y:OV×aC=>y.1) (aW o) xs).symm]
  exact h2
 have pJ:Hid (d=true→∀W,TabAt W gt sh (xs.map fun x=>(x.1,x.2.1))→Cl 45 #[pt gt,(.string (aW o))] W fun e w'=>∃u:OV,e=.returned (.tuple #[(.agg (ov u)),.bool true])∧(OB w 0 (sl u) (jl M (d,o)).data∧u.n=(jl M (d,o)).data.length∧u.n≤1000000)∧Bw W w'):=Hj fun hd W hW=>by
  subst hd
  obtain⟨o',hlk⟩:∃o',look aS (aW o) M.tab=some o':=Option.isSome_iff_exists.1 (hc.del rfl).2
  have hlx:look aS (aW o) (xs.map fun x=>(x.1,x.2.2))=some o':=by rw[←hV.nD];exact hlk
  rw[jy (fun y:OV×aC=>y.2)] at hlx
  obtain⟨⟨dv,oo⟩,hxe,hoo⟩:=Option.map_eq_some_iff.1 hlx
  simp only at hoo
  subst hoo
  obtain⟨k',hmem⟩:=look_in hxe
  have his:=hV.each _ hmem
  have hwas:(jl M (true,o)).data=oo.data:=by show M.was (aW o)=_;unfold bQ.was;rw[hlk]
  rw[hwas]
  refine(kF gt (aW o) dv sh _ W hW hV.tH (by rw[jy (fun y:OV×aC=>y.1),hxe];rfl)).mono fun e w' ⟨k1,k2⟩=>⟨dv,k1,⟨his.data,his.num,?_⟩,k2⟩
  have h2:(k',oo)∈M.tab:=by rw[hV.nD];exact bW.2 ⟨_,hmem,rfl⟩
  have h3:oo.data.length≤8192:=(hV.ok.tab.each _ h2).2.1.data
  rw[his.num]
  show oo.data.length≤1000000
  omega
 have HVv:Hid (d=false→OB w 0 (sl v) (jl M (d,o)).data∧v.n=(jl M (d,o)).data.length∧v.n≤1000000):=Hj fun hd=>by
  subst hd
  exact⟨hv.data,hv.num,by rw[hv.num];have:=hc.ok.data;simp only at this;omega⟩
 obtain⟨dat,hdat⟩:∃l,l=(jl M (d,o)).data:=⟨_,rfl⟩
 rw[←hdat] at pJ HVv
 have HV:=Hj hV
 have Hv:=Hj hv
 have HU:=Hj hU
 have HC:=Hj hc
 have HX:=Hj hX
 have HB1:=Hj hb1
 have HR1:=Hj hr1
 have HW:=Hj (aB hw1 hB)
 have HDt:=Hj hdat
 clear hb1 hr1 hw1 hB hV h hc hl hl2 hv hU hX hZ hgs hgt hgg hyl hxl hpt hdat
 unfold Um at HW
 -- the world behind the first store
 have HS:Hid (∀w2,Bw w w2→w2.heap[B]?=some (Um (o.ver:Int) d v)→∀wS,wS=w2.setCell ⟨gs,2,none⟩ (.int .i64 (o.ver:Int))→wS.heap[gs]?=some (.cells #[pt gl,pt gt,.int .i64 (o.ver:Int),.int .i64 (M.base:Int),ev] 104 (0,0))∧wS.heap[B]?=some (Um (o.ver:Int) d v)∧TabAt wS gt sh (xs.map fun x=>(x.1,x.2.1))∧Fr (fun k=>k=gs) w wS):=Hj fun w2 hb2 he wS e=>by
  have hs:Fr (fun k=>k=gs) w2 wS:=by rw[e];exact(Fr.refl (fun k=>k=gs) w2).setCell (p:=⟨gs,2,none⟩) (fun _=>rfl) _
  have h2:=HV.out.below hb2
  exact⟨by rw[e];exact aI _ _ 2 _ _ _ h2.cells,(hs.block B (Cq he) HD.out.1).trans he,h2.tab.fr hs HD.out.2.2 fun b cs hb e=>nC hb e h2.cells (by decide),(Fr.of_below hb2).trans hs fun _ _ x=>x⟩
 have HEv3:Hid (∀w3,Fr (fun k=>k=gs∨k=gt) w w3→ah w3 0 99 7 ev ys.length (iK ys)):=Hj fun w3 F3=>HV.out.evs.kept F3 fun k hk e=>by
  obtain⟨cur,hcur⟩:=au HV.out.evs hk
  rcases e with e | e
  ·exact nC hcur e HV.out.cells (by decide)
  ·obtain ⟨p,hp,-⟩:=HV.out.tab
   exact nC hcur e hp (by decide)
 -- the end
 have Dk:Hid (∀(w3 wc w8:World) (A9:Option Addr) (n9 c9:Nat) (v8:Value),(w3.heap[gs]?=some (.cells #[pt gl,pt gt,.int .i64 (o.ver:Int),.int .i64 (M.base:Int),ev] 104 (0,0))∧(∃s2,TabAt w3 gt s2 ((yc xs v (d,o)).map fun x=>(x.1,x.2.1)))∧Fr (fun k=>k=gs∨k=gt) w w3)→n9=dat.length→Bw w3 wc→OB wc w3.heap.size (.slice A9 n9 c9) dat→ah w8 0 99 7 v8 (ys.length+1) (iK ys++kS d o.ver ⟨v.kind,v.space,v.name,v.ver,A9,n9,c9⟩)→wc.grownBy w8 ev.ownBlock→(v8.ownBlock=ev.ownBlock∨v8.ownBlock=some wc.heap.size)→SW w0 (w8.setCell ⟨gs,4,none⟩ v8) (fun k=>ext Q w (w8.setCell ⟨gs,4,none⟩ v8) k∨(sl v).ownBlock=some k) g m gs L (M.app (d,o))∧Fr Q w (w8.setCell ⟨gs,4,none⟩ v8)):=Hj fun w3 wc w8 A9 n9 c9 v8 ⟨G3,⟨s2,T3⟩,F3⟩ hn hbc OU xJ EN hat=>by
  have II:=HEv3.out w3 F3
  have g8:=ET G3 II hbc EN
  have f8:Fr (fun k=>ev.ownBlock=some k) w3 w8:=(Fr.of_below hbc).trans (Fr.bF EN) fun k _ hk=>hk.symm
  have fs:Fr (fun k=>k=gs) w8 (w8.setCell ⟨gs,4,none⟩ v8):=(Fr.refl (fun k=>k=gs) w8).setCell (p:=⟨gs,4,none⟩) (fun _=>rfl) _
  have hs3:=F3.size
  have hsb:=hbc.size
  have hFF:Fr (fun k=>k=gs∨k=gt∨ev.ownBlock=some k) w (w8.setCell ⟨gs,4,none⟩ v8):=((F3.mono fun _ _ h=>h.elim .inl fun h=>.inr (.inl h)).trans f8 fun _ _ h=>.inr (.inr h)).trans fs fun _ _ h=>.inl h
  have hT:TabAt (w8.setCell ⟨gs,4,none⟩ v8) gt s2 ((yc xs v (d,o)).map fun x=>(x.1,x.2.1)):=by
   have hf:Fr (fun k=>k=gs∨ev.ownBlock=some k) w3 (w8.setCell ⟨gs,4,none⟩ v8):=(f8.mono fun _ _ h=>.inr h).trans fs fun _ _ h=>.inl h
   refine T3.fr hf (fun e=>e.elim HD.out.2.2 fun e=> ?_) fun b cs hb e=>e.elim (fun e=>nC hb e G3 (by decide)) fun e=> ?_
   ·obtain ⟨p,hp,-⟩:=T3
    obtain⟨cur,hcur⟩:=au II e
    exact absurd (ak hcur hp) (by decide)
   ·obtain ⟨cur,hcur⟩:=au II e
    exact absurd (ak hcur hb) (by decide)
  have hOw:ah (w8.setCell ⟨gs,4,none⟩ v8) 0 99 7 v8 (ys.length+1) (iK ys++kS d o.ver ⟨v.kind,v.space,v.name,v.ver,A9,n9,c9⟩):=ah.kept xJ fs fun k hk e=>by
   obtain⟨cur,hcur⟩:=au xJ hk
   exact nC hcur e g8 (by decide)
  have hO:OB (w8.setCell ⟨gs,4,none⟩ v8) w3.heap.size (.slice A9 n9 c9) dat:=ah.kept (ah.kept OU (Fr.bF EN) fun k hk e=>by
   obtain⟨cur,hcur⟩:=au OU hk
   obtain⟨cur',kE⟩:=au (ah.below II hbc) e.symm
   exact absurd (ak hcur kE) (by decide)) fs fun k hk e=>by have:=(ah.lt OU k hk).1;have:=(Cq G3);omega
  have dB:∀k,v8.ownBlock=some k→ev.ownBlock=some k∨(w.heap.size≤k∧k<(w8.setCell ⟨gs,4,none⟩ v8).heap.size):=fun k hk=>by
   rcases hat with e | e
   ·exact .inl (by rw[←e];exact hk)
   ·have h1:=(ah.lt hOw k hk).2
    rw[e] at hk
    injection hk with hk
    exact .inr ⟨by omega,h1⟩
  have hSV:=HV.out.applied (e:=(d,o)) (nv:=⟨v.kind,v.space,v.name,v.ver,A9,n9,c9⟩) hFF HC.out Hv.out (aI _ _ 4 _ _ v8 g8) hT hOw dB ⟨Hv.out.kind.trans (by unfold jl;split<;>rfl),Hv.out.space.trans (by unfold jl;split<;>rfl),Hv.out.name.trans (by unfold jl;split<;>rfl),Hv.out.ver.trans (by unfold jl;split<;>rfl),by rw[←HDt.out];exact hn,by rw[←HDt.out];exact OB.mono hO (bU _)⟩ (fun k hk=>Cz hs3 (ah.lt hO k hk).1)
  exact HU.out _ _ _ _ _ _ _ (fun k=>(sl v).ownBlock=some k) hSV (hFF.mono fun i _ hi=>hi.elim (fun e=>by rw[e];exact HV.out.zs) fun hi=>hi.elim (fun e=>by rw[e];exact HV.out.zt) (HV.out.ze i)) (fun k hk=>⟨(HX.out k hk).1,(HX.out k hk).2,(Hv.out.data.lt k hk).2⟩) (fun k hk=>hk)
 go_enter Tryz.func67,Tryz.ntmps67
 cases d
 case' false=>
  go_wp2_with (first
   | (go_at_call 98;rw[←HW.out.1,←HW.out.2];(refine uN.out.mono ?_);rintro e w2 ⟨rfl,hb2⟩;have hbw:=HB1.out.trans (hb2.mono HB1.out.size);have h2:=HV.out.below hbw;have hr2:=(hb2.block B (Cq HR1.out)).trans HR1.out;have H2:=Hj (HS.out w2 hbw hr2 _ rfl);have f2:w2.frozen? ⟨gs,2,none⟩=false:=h2.fz 2;obtain⟨g0,g1,g2,g3,g4⟩:=h2.cell;obtain⟨a0,a1,a2,a3,a4,a5,a6⟩:=VP.of hr2;clear hb2 h2 hr2 hbw)
   | fail)
  obtain⟨wS,hwS⟩:∃W,W=w2.setCell ⟨gs,2,none⟩ (.int .i64 (o.ver:Int)):=⟨_,rfl⟩
  rw[←hwS] at H2 ⊢
  obtain⟨h1,h2,h3,h4⟩:=H2.out
  have s1:wS.cell? ⟨gs,1,none⟩=some (pt gt):=Kq 1 h1
  obtain⟨b0,b1,b2,b3,b4,b5,b6⟩:=VP.of h2
  clear hwS g0 g1 g2 g3 g4 a0 a1 a2 a3 a4 a5 a6 f2 h1 h2 h3 h4
  go_region_held3 (fun w'=>w'.cell? ⟨gs,1,none⟩=some (pt gt)∧w'.cell? ⟨B,2,none⟩=some (.int .i64 v.kind)∧w'.cell? ⟨B,3,none⟩=some (.string v.space)∧w'.cell? ⟨B,4,none⟩=some (.string v.name)∧w'.cell? ⟨B,5,none⟩=some (.int .i64 v.ver)∧w'.cell? ⟨B,6,none⟩=some (.slice v.A v.n v.c)) (first | exact⟨by assumption,by assumption,by assumption,by assumption,by assumption,by assumption⟩ | go_keep) (first
   | (go_at_call 84;(refine(uO.out (by trivial) wS.drew (H2.out.2.2.1.below (bV (aj _ _)))).mono ?_);rintro e w3 ⟨⟨bb,rfl⟩,k1,k2⟩;have G3:=Hj ((k2.block gs (Cq H2.out.1) (fun e=>HD.out.2.2 e.symm)).trans H2.out.1);have E3:=Hj ((k2.block B (Cq H2.out.2.1) HD.out.2.1).trans H2.out.2.1);have T3:=Hj k1;have F3:Hid (Fr (fun k=>k=gs∨k=gt) w w3):=Hj ((H2.out.2.2.2.mono fun _ _ h=>.inl h).trans k2.IJ fun _ _ h=>.inr h);obtain⟨c0,c1,c2,c3,c4,c5,c6⟩:=VP.of E3.out;have s3:w3.cell? ⟨gs,1,none⟩=some (pt gt):=Kq 1 G3.out;clear k1 k2)
   | fail)
  rename (World.cell? _ _=_∧_)=>hS9
  clear hS9 c0 c1 c2 c3 c4 c5 c6 s3 s1 b0 b1 b2 b3 b4 b5 b6
  have D0:=Hj (HVv.out (by trivial))
  obtain⟨A0,n0,c0',hvv⟩:∃A n c,(⟨v.kind,v.space,v.name,v.ver,A,n,c⟩:OV)=v:=⟨v.A,v.n,v.c,rfl⟩
  rw[←hvv] at E3
  have D0':Hid (OB w 0 (sl (⟨v.kind,v.space,v.name,v.ver,A0,n0,c0'⟩:OV)) dat∧n0=dat.length∧n0≤1000000):=Hj (by rw[←hvv] at D0;exact D0.out)
  clear hvv D0
  obtain⟨d,hd⟩:∃d:Bool,d=false:=⟨_,rfl⟩
  rw[←hd] at E3 T3 Dk
  have HDd:=Hj hd
  clear hd
 case' true=>
  go_wp2_with (first
   | (go_at_call 98;rw[←HW.out.1,←HW.out.2];(refine uN.out.mono ?_);rintro e w2 ⟨rfl,hb2⟩;have hbw:=HB1.out.trans (hb2.mono HB1.out.size);have h2:=HV.out.below hbw;have hr2:=(hb2.block B (Cq HR1.out)).trans HR1.out;have H2:=Hj (HS.out w2 hbw hr2 _ rfl);have f2:w2.frozen? ⟨gs,2,none⟩=false:=h2.fz 2;obtain⟨g0,g1,g2,g3,g4⟩:=h2.cell;obtain⟨a0,a1,a2,a3,a4,a5,a6⟩:=VP.of hr2;clear hb2 h2 hr2 hbw)
   | (go_at_call 45;obtain⟨wS,hwS⟩:∃W,W=w2.setCell ⟨gs,2,none⟩ (.int .i64 (o.ver:Int)):=⟨_,rfl⟩;rw[←hwS] at H2 ⊢;(refine(pJ.out (by trivial) wS H2.out.2.2.1).mono ?_);rintro e wg ⟨u,rfl,hu,hbg⟩;have D0:=Hj hu;have BG:=Hj hbg;have gg:=(hbg.block gs (Cq H2.out.1)).trans H2.out.1;have ge:=(hbg.block B (Cq H2.out.2.1)).trans H2.out.2.1;have GG:=Hj (aB gg ge);have al:=(fun o=>(aj wg.heap.size wg).alloc Kv o);have e6:=(fun o=>Kz (al o) _ _ (VP.of ge).2.2.2.2.2.2);have ef:∀o,(wg.alloc o).frozen? ⟨B,6,none⟩=false:=(fun o=>Kj (((al o).block B (Cq ge)).trans ge));have e1:=(fun o=>Kz (al o) _ _ (Kq 1 gg));clear hu hbg gg ge al hwS)
   | (go_at_call 86;obtain⟨wD,hwD⟩:∃W,W=(wg.alloc (.cells (ov u) 37)).setCell ⟨B,6,none⟩ (.slice u.A u.n u.c):=⟨_,rfl⟩;rw[←hwD];have ZY:Hid (wD.heap[gs]?=some (.cells #[pt gl,pt gt,.int .i64 (o.ver:Int),.int .i64 (M.base:Int),ev] 104 (0,0))∧wD.heap[B]?=some (Um (o.ver:Int) true ⟨v.kind,v.space,v.name,v.ver,u.A,u.n,u.c⟩)∧TabAt wD gt sh (xs.map fun x=>(x.1,x.2.1))∧Fr (fun k=>k=gs) w wD):=Hj (by
     have ba:=(aj wg.heap.size wg).alloc Kv (.cells (ov u) 37)
     have fD:Fr (fun k=>k=B) wg wD:=by rw[hwD];exact(Fr.of_below (S:=fun k=>k=B) ba).setCell (p:=⟨B,6,none⟩) (fun _=>rfl) _
     refine⟨(fD.block gs (Cq GG.out.1) (fun e=>HD.out.1 e.symm)).trans GG.out.1,by rw[hwD];exact aI _ _ 6 _ _ _ ((ba.block B (Cq GG.out.2)).trans GG.out.2),(H2.out.2.2.1.below BG.out).fr fD (fun e=>HD.out.2.1 e.symm) fun b cs hb e=>by rw[e] at hb;exact absurd (ak hb GG.out.2) (by decide),(H2.out.2.2.2.trans (Fr.of_below (S:=fun _=>False) BG.out) fun _ _ x=>x.elim).trans fD fun k hk e=>by have:=HW.out.2;omega⟩);clear hwD e6 ef e1;(with_reducible refine(EU.out (by trivial) wD ZY.out.2.2.1).mono ?_);rintro e w3 ⟨⟨bb,rfl⟩,k1,k2⟩;have G3:=Hj ((k2.block gs (Cq ZY.out.1) (fun e=>HD.out.2.2 e.symm)).trans ZY.out.1);have E3:=Hj ((k2.block B (Cq ZY.out.2.1) HD.out.2.1).trans ZY.out.2.1);have T3:=Hj k1;have F3:Hid (Fr (fun k=>k=gs∨k=gt) w w3):=Hj ((ZY.out.2.2.2.mono fun _ _ h=>.inl h).trans k2 fun _ _ h=>.inr h);clear k1 k2)
   | fail)
  obtain⟨A0,n0,c0',hvv⟩:∃A n c,(⟨v.kind,v.space,v.name,v.ver,A,n,c⟩:OV)=⟨v.kind,v.space,v.name,v.ver,u.A,u.n,u.c⟩:=⟨u.A,u.n,u.c,rfl⟩
  have D0':Hid (OB w 0 (sl (⟨v.kind,v.space,v.name,v.ver,A0,n0,c0'⟩:OV)) dat∧n0=dat.length∧n0≤1000000):=Hj (by injection hvv with _ _ _ _ e1 e2 e3;rw[e1,e2,e3];exact D0.out)
  rw[←hvv] at E3
  clear hvv D0
  obtain⟨d,hd⟩:∃d:Bool,d=true:=⟨_,rfl⟩
  rw[←hd] at E3 T3 Dk
  have HDd:=Hj hd
  clear hd
 all_goals
  have II:=HEv3.out w3 F3.out
  have HEv:=Hj II
  have hrb:RB w3 A0 n0 dat:=by
   have h:=HV.out.PN (F3.out.mono fun _ _ h=>h.elim .inl fun h=>.inr (.inl h)) D0'.out.1
   obtain⟨A1,c1,e1,-,-,h1⟩:=h.form
   unfold sl at e1
   injection e1 with e1 e2 e3
   have e1':A0=A1:=e1
   have e2':n0=dat.length:=e2
   rw[e1',e2']
   exact h1
  have OW:Hid (Cl 46 #[.agg #[.int .i64 v.kind,.string v.space,.string v.name,.int .i64 v.ver,.slice A0 n0 c0']] w3.drew fun e w'=>∃A1 c1,e=.returned (.agg #[.int .i64 v.kind,.string v.space,.string v.name,.int .i64 v.ver,.slice A1 n0 c1])∧OB w' w3.heap.size (.slice A1 n0 c1) dat∧Bw w3 w'):=Hj ((lQ ⟨v.kind,v.space,v.name,v.ver,A0,n0,c0'⟩ w3.drew dat (hrb.keep (Kz (bV (aj _ _)))) D0'.out.2.2).mono fun e w' ⟨A1,c1,k1,k2,k3⟩=>⟨A1,c1,k1,k2,(bV (aj _ w3)).trans k3⟩)
  have KB:Hid (∀W,Bw w3 W→W.cell? ⟨gs,4,none⟩=some ev∧VP W B (o.ver:Int) d ⟨v.kind,v.space,v.name,v.ver,A0,n0,c0'⟩):=Hj fun W hW=>⟨Kq 4 ((hW.block gs (Cq G3.out)).trans G3.out),VP.of ((hW.block B (Cq E3.out)).trans E3.out)⟩
  obtain⟨Xc,a0,a1,a2,a3,a4,a5,a6⟩:=KB.out w3 (aj _ _)
  clear II hrb
  go_wp2
  refine wp_region_noPanic ?_
  refine wp_region_held_drew (S:=(fun w'=>w'.cell? ⟨B,0,none⟩=some (.int .i64 (o.ver:Int))∧w'.cell? ⟨B,1,none⟩=some (.bool d)∧w'.cell? ⟨B,2,none⟩=some (.int .i64 v.kind)∧w'.cell? ⟨B,3,none⟩=some (.string v.space)∧w'.cell? ⟨B,4,none⟩=some (.string v.name)∧w'.cell? ⟨B,5,none⟩=some (.int .i64 v.ver)∧w'.cell? ⟨B,6,none⟩=some (.slice A0 n0 c0'))) (by kernel_rfl) ?_ (fun hHeld=> ?_)
  ·exact (KB.out w3.drew (bV (aj _ _))).2
  refine tk 0 hHeld ?_
  try simp only[pa]
  refine tk 1 hHeld ?_
  try simp only[pa]
  refine tk 2 hHeld ?_
  try simp only[pa]
  refine tk 3 hHeld ?_
  try simp only[pa]
  refine tk 5 hHeld ?_
  try simp only[pa]
  refine tk 6 hHeld ?_
  try simp only[pa]
  refine tk 7 hHeld ?_
  try simp only[pa]
  refine tk 8 hHeld ?_
  try simp only[pa]
  refine tk 9 hHeld ?_
  try simp only[pa]
  refine tk 10 hHeld ?_
  try simp only[pa]
  refine PO 4 11 rfl rfl (fun K hK=> ?_) (fun K hK=> ?_)
  focus
   go_simp
   refine hK.out _ _ hHeld (fun hHeld=> ?_)
   clear hK K
   try simp only[pa]
   refine mD 11 rfl (fun K hK=> ?_)
   go_simp
   refine OW.out.mono ?_
   rintro e wc ⟨A9,c9,rfl,k1,k2⟩
   have O9:=Hj k1
   have BC:=Hj k2
   obtain⟨y4,-⟩:=KB.out wc k2
   have q4:=fun o=>(KB.out (wc.alloc o) (k2.alloc k2.size o)).1
   clear k1 k2
   refine hK.out _ _ (KB.out wc BC.out).2 (fun hHeld=> ?_)
   clear hK K
   refine tk 12 hHeld ?_
   try simp only[pa]
   refine mD 13 rfl (fun K hK=> ?_)
   go_simp
   refine hK.out _ _ (KB.out _ (BC.out.alloc BC.out.size _)).2 (fun hHeld=> ?_)
  rotate_right
  focus
   go_simp
   refine OW.out.mono ?_
   rintro e wc ⟨A9,c9,rfl,k1,k2⟩
   have O9:=Hj k1
   have BC:=Hj k2
   obtain⟨y4,-⟩:=KB.out wc k2
   have q4:=fun o=>(KB.out (wc.alloc o) (k2.alloc k2.size o)).1
   clear k1 k2
   refine hK.out _ _ (KB.out wc BC.out).2 (fun hHeld=> ?_)
   clear hK K
   refine tk 12 hHeld ?_
   try simp only[pa]
   refine PO 4 13 rfl rfl (fun K hK=> ?_) (fun K hK=> ?_)
   focus
    go_simp
    refine hK.out _ _ hHeld (fun hHeld=> ?_)
    clear hK K
    try simp only[pa]
    refine mD 13 rfl (fun K hK=> ?_)
    go_simp
    refine hK.out _ _ (KB.out _ (BC.out.alloc BC.out.size _)).2 (fun hHeld=> ?_)
   rotate_right
   focus
    go_simp
    refine hK.out _ _ (KB.out _ (BC.out.alloc BC.out.size _)).2 (fun hHeld=> ?_)
    clear hK K
    try simp only[pa]
    refine mD 4 rfl (fun K hK=> ?_)
    go_simp
    refine hK.out _ _ hHeld (fun hHeld=> ?_)
  all_goals
   clear hK K
   try simp only[pa]
   refine mD 14 rfl (fun K hK=> ?_)
   refine Aa rfl (.tmp 48) (.tmp 57) (by rfl) (ah.alloc (HEv.out.below BC.out) _) (by rfl) (Src.ev wc d o.ver ⟨v.kind,v.space,v.name,v.ver,A9,n0,c9⟩) (by rfl) HYn.out (bU _) ?_
   intro v8 w8 xJ EN Xd
   obtain⟨A8,n8,c8,rfl⟩:∃A n c,v8=.slice A n c:=let ⟨A,c,e,_⟩:=ah.form xJ;⟨A,_,c,e⟩
   have bc:=BC.out.alloc BC.out.size (Um (o.ver:Int) d ⟨v.kind,v.space,v.name,v.ver,A9,n0,c9⟩)
   have g8:=ET G3.out HEv.out bc EN
   have z4:w8.cell? ⟨gs,4,none⟩=some ev:=Kq 4 g8
   have zf:w8.frozen? ⟨gs,4,none⟩=false:=Kj g8
   have e8:w8.heap[B]?=some (Um (o.ver:Int) d ⟨v.kind,v.space,v.name,v.ver,A0,n0,c0'⟩):=((((Fr.of_below (S:=fun k=>ev.ownBlock=some k) bc).trans (Fr.bF EN) fun k _ hk=>hk.symm).block B (Cq E3.out) fun e=>by have:=(ah.lt HV.out.evs B e).2;have:=HW.out.2;omega).trans E3.out)
   have R8:=Hj (Dk.out w3 _ w8 A9 n0 c9 _ ⟨G3.out,T3.out,F3.out⟩ D0'.out.2.1 bc (ah.alloc O9.out _) xJ EN Xd)
   have E8:=Hj e8
   clear xJ EN Xd bc g8 e8
   refine hK.out _ _ (VP.of E8.out) (fun hHeld=> ?_)
   clear hK K
   try simp only[pa]
   refine tk 15 hHeld ?_
   try simp only[pa]
   refine tk 16 hHeld ?_
   try simp only[pa]
   refine mD 17 rfl (fun K hK=> ?_)
   go_simp
   refine hK.out _ _ (VP.of ((Below.heap_setCell w8 ⟨gs,4,none⟩ _ B (fun e=>HD.out.1 e)).trans E8.out)) (fun hHeld=> ?_)
   clear hK K
   refine wpAnyH_done (by kernel_rfl) ?_ _
   refine NoPanic.normal ?_
   go_wp2
   have hd:=HDd.out
   subst hd
   exact bodyPost_end (fM rfl _ _ _) rfl ⟨rfl,R8.out⟩
end
end Go.Proofs.YtdhbpajamlfacaaGreatDoor
