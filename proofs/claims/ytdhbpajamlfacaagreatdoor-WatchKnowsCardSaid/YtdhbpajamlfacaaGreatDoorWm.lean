/- Layer 21 (watch): take. -/
import Derived.Test.YtdhbpajamlfacaaGreatDoorWi
namespace Go.Proofs.YtdhbpajamlfacaaGreatDoor
open Go.RowKit SO
def lC (kind:Int) (space:ByteArray) (all:Bool) (K:List (ByteArray×aH)) (e:Bool×aH):List (ByteArray×aH):=if Mc kind space all e.2=true then (if e.1=true then rem aJ (wkey e.2.space e.2.name) K else ins aJ (wkey e.2.space e.2.name) e.2 K) else K
def iU (d:Bool) (kind:Int) (space:ByteArray) (all:Bool) (l:List aH) (e:Bool×aH):List aH:=if Mc kind space all e.2=true∧e.1=d then l++[e.2] else l
theorem Sf.trans {w w' w3:World} (h1:Sf w w') (h2:Sf w' w3):Sf w w3:=by
 obtain⟨X,f1,t1⟩:=h1
 obtain⟨Y,f2,t2⟩:=h2
 refine⟨fun k=>X k∨Y k,(f1.mono fun _ _ h=>.inl h).trans f2 fun _ _ h=>.inr h,fun k cs T hk hc=> ?_⟩
 by_cases hx:X k
 ·exact t1 k cs T hx hc
 ·exact t2 k cs T (hk.resolve_left hx) ((f1.block k (Cq hc) hx).trans hc)
theorem Sf.drew {w w':World} (h:Sf w.drew w'):Sf w w':=let ⟨X,h1,h2⟩:=h;⟨X,h1.Fz,h2⟩
theorem oD {w4 w5 w8:World} {gr base:Nat} {cs:Array Value} {xv:Value} {os:List OV} (hr:w4.heap[gr]?=some (.cells cs 43 (0,0))) (hx:OL w4 base xv os) (hb:Below w4.heap.size w4 w5) (hg:w5.grownBy w8 xv.ownBlock):w8.heap[gr]?=some (.cells cs 43 (0,0)):=by
 refine(((Fr.of_below (S:=fun k=>xv.ownBlock=some k) hb).trans (Fr.aU hg) fun k _ hk=>hk.symm).block gr (Cq hr) fun e=> ?_).trans hr
 obtain⟨_,hc⟩:=ak hx e
 exact absurd (aj hc hr) (by decide)
theorem nV {ops:Array Oper} {o:Oper} {a:Act} {w:World} {K:Act→World→Prop} {Q:Exit→Act→World→Prop} {E:Prop} (hgd:o.guard=none) (s x:Operand)
  (ho:o.op=.call {callee:=.builtin .append,args:=#[s,x],argTypes:=#[41,41]})
  {base:Nat} {v:Value} {l:List OV} (hown:OL w base v l) (hs:a.eval s=v)
  {xv:Value} {u:OV} (hsrc:Src Tryz.prog 5 41 xv 1 (kY u) w) (hx:a.eval x=xv) (hbytes:l.length≤900000) (hbase:base≤w.heap.size)
  (h:∀v' w',OL w' base v' (l++[u])→w.grownBy w' v.ownBlock→(v'.ownBlock=v.ownBlock∨v'.ownBlock=some w.heap.size)→K (a.put o.dst v') w'):
  if Region.wanted o (yielded ops a.tmps)=true then Oper.wp Tryz.prog o a w K Q else E:=by
 obtain⟨i0,hi,hz0,hz1,hz2⟩:=ku sJ
 refine bH hgd s x 41 41 ho i0 _ 72 Tryz.underlying41 hi hz0 hz1 hz2 rfl (by omega) hs hown xv 1 _ hx hsrc (by unfold maxLen;omega) (by omega) hbase fun v' w' h1 h2 h3=>h v' w' ?_ h2 h3
 unfold OL
 rw[tZ,List.length_append]
 exact h1
section
variable {P:Nat→Prop} {ws w:World} {gw gt gr cur:Nat} {kind:Int} {space:ByteArray} {all an:Bool} {K:List (ByteArray×aH)} {lp ld:List aH}
set_option maxHeartbeats 4000000 in
set_option maxRecDepth 100000 in
theorem takeW (h:TI P ws w gw gt gr kind space all cur K an lp ld) (d:Bool) (r:Int) (v:OV) (o:aH) (hv:dI w v o) (hn:v.n≤1000000) (hs:v.space.size≤1000) (hm:v.name.size≤1000) (hK:K.length≤100000) (hp:lp.length≤100000) (hd:ld.length≤100000):
  Calls Tryz.prog 40 #[.pointer (some ⟨gw,0,none⟩),.pointer (some ⟨gr,0,none⟩),.agg #[.int .i64 r,.bool d,.int .i64 v.kind,.string v.space,.string v.name,.int .i64 v.ver,.slice v.A v.n v.c]] w fun e w'=>e=.returned (.tuple #[])∧TI P ws w' gw gt gr kind space all cur (lC kind space all K (d,o)) an (iU false kind space all lp (d,o)) (iU true kind space all ld (d,o))∧Sf w w':=by
 obtain⟨w2,hw2⟩:∃W,W=(w.alloc (.cells #[.int .i64 r,.bool d,.int .i64 v.kind,.string v.space,.string v.name,.int .i64 v.ver,.slice v.A v.n v.c] 99)).alloc (.cells #[.int .i64 v.kind,.string v.space,.string v.name,.int .i64 v.ver,.slice v.A v.n v.c] 37):=⟨_,rfl⟩
 obtain⟨B,hB⟩:∃B,B=w.heap.size:=⟨_,rfl⟩
 obtain⟨k1,k2,k3⟩:=aC w (.cells #[.int .i64 r,.bool d,.int .i64 v.kind,.string v.space,.string v.name,.int .i64 v.ver,.slice v.A v.n v.c] 99) (.cells #[.int .i64 v.kind,.string v.space,.string v.name,.int .i64 v.ver,.slice v.A v.n v.c] 37)
 rw[←hw2] at k1 k2 k3
 rw[←hB] at k1 k2
 have HK:Hid (∀W,Below w2.heap.size w2 W→W.heap[B]?=some (.cells #[.int .i64 r,.bool d,.int .i64 v.kind,.string v.space,.string v.name,.int .i64 v.ver,.slice v.A v.n v.c] 99 (0,0))∧W.heap[B+1]?=some (.cells #[.int .i64 v.kind,.string v.space,.string v.name,.int .i64 v.ver,.slice v.A v.n v.c] 37 (0,0))):=Hj fun W hW=>
  ⟨(hW.block _ (Cq k1)).trans k1,(hW.block _ (Cq k2)).trans k2⟩
 have HB:Hid (∀W,Below w2.heap.size w2 W→Below w.heap.size w W):=Hj fun W hW=>k3.trans (hW.mono k3.size)
 have HFo:=Hj (QD (h.below k3).row v)
 have hfol:xk kind space all v=Mc kind space all o:=by unfold xk Mc;rw[hv.kind,hv.space]
 have HT:Hid (∀W,Below w.heap.size w W→TI P ws W gw gt gr kind space all cur K an lp ld∧dI W v o):=Hj fun W hW=>⟨h.below hW,hv.below hW⟩
 have CY:Hid (∀W,TI P ws W gw gt gr kind space all cur K an lp ld→Calls Tryz.prog 86 #[.pointer (some ⟨gt,0,none⟩),(.string (wkey v.space v.name))] W fun e w'=>(∃b,e=.returned (.bool b))∧(TI P ws w' gw gt gr kind space all cur (rem aJ (wkey v.space v.name) K) an lp ld∧Sf W w')∧Fr (fun k=>k=gt) W w'):=Hj fun W hW=>(hW.tab.del _ (by omega)).mono fun e w' ⟨h1,h2,h3⟩=>⟨h1,hW.turn h3 h2,h3⟩
 have rM:Hid (∀W A c,TI P ws W gw gt gr kind space all cur K an lp ld→dI W (⟨v.kind,v.space,v.name,v.ver,A,v.n,c⟩:OV) o→(∀k,(Value.slice A v.n c).ownBlock=some k→ws.heap.size≤k)→Calls Tryz.prog 84 #[.pointer (some ⟨gt,0,none⟩),(.string (wkey v.space v.name)),.agg #[.int .i64 v.kind,.string v.space,.string v.name,.int .i64 v.ver,.slice A v.n c]] W fun e w'=>(∃b,e=.returned (.bool b))∧(TI P ws w' gw gt gr kind space all cur (ins aJ (wkey v.space v.name) o K) an lp ld∧Sf W w')∧Fr (fun k=>k=gt) W w'):=Hj fun W A c hW hv' hp'=>(hW.tab.put hv' (fun k hk=>.inr (hp' k hk)) _ (by omega)).mono fun e w' ⟨h1,h2,h3⟩=>⟨h1,hW.turn h3 h2,h3⟩
 have Fj:Hid (∀W,Below w.heap.size w W→Calls Tryz.prog 48 #[.agg #[.int .i64 v.kind,.string v.space,.string v.name,.int .i64 v.ver,.slice v.A v.n v.c]] W fun e w'=>∃A1 c1,e=.returned (.agg #[.int .i64 v.kind,.string v.space,.string v.name,.int .i64 v.ver,.slice A1 v.n c1])∧dI w' (⟨v.kind,v.space,v.name,v.ver,A1,v.n,c1⟩:OV) o∧Below W.heap.size W w'∧∀k,(Value.slice A1 v.n c1).ownBlock=some k→ws.heap.size≤k):=Hj fun W hW=>(BJ v W o.data (hv.below hW).rb hn).mono fun e w' ⟨A1,c1,h1,h2,h3⟩=>⟨A1,c1,h1,⟨hv.kind,hv.space,hv.name,hv.ver,hv.num,ah.mono h2 fun _ _=>Nat.zero_le _⟩,h3,fun k hk=>Cz (Cz h.fr.size hW.size) (ah.lt h2 k hk).1⟩
 have xR:Hid (∀W,Calls Tryz.prog 54 #[.string v.space,.string v.name] W fun e w'=>e=.returned (.string (wkey v.space v.name))∧w'=W):=Hj fun W=>aaf v.space v.name W hs hm
 have HW:=Hj (And.intro hw2 hB)
 have HL:=Hj (And.intro hp hd)
 have hks:wkey v.space v.name=wkey o.space o.name:=by rw[hv.space,hv.name]
 have HKs:=Hj hks
 have HFl:=Hj hfol
 have KC:Hid (∀W,TI P ws W gw gt gr kind space all cur K an lp ld→W.cell? ⟨gw,3,none⟩=some (.pointer (some ⟨gt,0,none⟩))):=Hj fun W hW=>Kq 3 hW.row
 clear h hv hn hs hm hK hp hd hw2 hB k1 k2 k3 hfol hks
 obtain⟨b,hb⟩:∃b,b=Mc kind space all o:=⟨_,rfl⟩
 have HFb:=Hj hb
 rw[HFl.out,←HFb.out] at HFo
 clear hb
 go_enter Tryz.func40,Tryz.ntmps40
 cases b with
 | false=>
  go_wp2_with (first
   | (go_at_call 85;rw[←HW.out.1];((with_reducible refine HFo.out.mono ?_);rintro e w3 ⟨rfl,hb3⟩;have B3:=Hj hb3;clear hb3))
   | fail)
  refine bodyPost_ret (results_none rfl _ _ _) rfl ⟨rfl,?_,Sf.of_below (HB.out w3 B3.out)⟩
  have:=HFb.out
  unfold lC iU
  simp only[←this]
  exact(HT.out w3 (HB.out w3 B3.out)).1
 | true=>
  have hB0:gt≠B+1:=fun e=>by
   obtain⟨p,ht⟩:=(HT.out w (Below.refl _ _)).1.tab.row
   have:=(Cq ht)
   have:=HW.out.2
   omega
  have HB0:=Hj hB0
  clear hB0
  cases d with
  | true=>
   go_wp2_with (first
    | (go_at_call 85;rw[←HW.out.1];((with_reducible refine HFo.out.mono ?_);rintro e w3 ⟨rfl,hb3⟩;have B3:=Hj hb3;rw[←HW.out.2];obtain⟨x0,x1⟩:=HK.out w3 hb3;have X1:=Hj x1;have T3:=Hj (HT.out w3 (HB.out w3 hb3));have c1:w3.cell? ⟨B,1,none⟩=some (.bool _):=Kq 1 x0;obtain⟨b0,b1,b2,b3,b4⟩:VB w3 (B+1) v:=VB.aG x1;have j3:=KC.out w3 T3.out.1;clear hb3 x0 x1))
    | fail)
   go_region_held3 (fun w'=>w'.cell? ⟨gw,3,none⟩=some (.pointer (some ⟨gt,0,none⟩))∧w'.cell? ⟨B+1,1,none⟩=some (.string v.space)∧w'.cell? ⟨B+1,2,none⟩=some (.string v.name)) (first | exact⟨by assumption,by assumption,by assumption⟩ | go_keep) (first
    | (go_at_call 54;((with_reducible refine(xR.out _).mono ?_);rintro e w' ⟨rfl,rfl⟩))
    | (go_at_call 86;((with_reducible refine(CY.out _ (T3.out.1.below (Below.drew (Below.refl _ _)))).mono ?_);rintro e w4 ⟨⟨bb,rfl⟩,⟨h1,h2⟩,h3⟩;have T4:=Hj h1;have S4:Hid (Sf w w4):=Hj ((Sf.of_below (HB.out w3 B3.out)).trans h2.drew);have X4:=Hj ((h3.block (B+1) (Cq X1.out) fun e=>HB0.out e.symm).trans X1.out);obtain⟨d0,d1,d2,d3,d4⟩:VB w4 (B+1) v:=VB.aG X4.out;have j4:w4.cell? ⟨gw,3,none⟩=some (.pointer (some ⟨gt,0,none⟩)):=Kq 3 h1.row;clear h1 h2 h3))
    | fail)
   obtain⟨pv,dv,hr,ho1,⟨os,hx1,hx2,hx3⟩,hap⟩:=T4.out.rep
   have r2:w4.cell? ⟨gr,2,none⟩=some dv:=Kq 2 hr
   have q2:∀o,(w4.alloc o).cell? ⟨gr,2,none⟩=some dv:=fun o=>Kz ((Below.refl _ w4).alloc Kv o) _ _ r2
   have HX:=Hj hx1
   have HR:=Hj hr
   have HD:Hid ((os.map fun x=>x.1).length≤900000):=Hj (by rw[List.length_map];have:=congrArg List.length hx2;rw[List.length_map] at this;have:=HL.out.2;omega)
   have HP:Hid (∀w8 v8,OL w8 ws.heap.size v8 (os.map (fun x=>x.1)++[v])→(w4.alloc (.cells #[.int .i64 v.kind,.string v.space,.string v.name,.int .i64 v.ver,.slice v.A v.n v.c] 37)).drew.grownBy w8 dv.ownBlock→(v8.ownBlock=dv.ownBlock∨v8.ownBlock=some (w4.alloc (.cells #[.int .i64 v.kind,.string v.space,.string v.name,.int .i64 v.ver,.slice v.A v.n v.c] 37)).drew.heap.size)→TI P ws (w8.setCell ⟨gr,2,none⟩ v8) gw gt gr kind space all cur (rem aJ (wkey v.space v.name) K) an lp (ld++[o])∧Sf w4 (w8.setCell ⟨gr,2,none⟩ v8)):=Hj fun w8 v8 h1 h2 h3=>T4.out.pushD hr hx1 hx2 hx3 ho1 (fun k h1 h2=>hap k h2 h1) (aB ((Below.refl _ w4).alloc Kv _)) h2 h1 h3 (S4.out.Rj (HT.out w (Below.refl _ _)).2)
   clear hx1 hx2 hx3 ho1 hap hr
   go_wp2
   go_region_law (first
    | (refine nV rfl (.tmp 29) (.tmp 31) (by rfl) (ah.below HX.out (aB ((Below.refl _ w4).alloc Kv _))) (by rfl) (vK (cp:=1) (v:=v) (heap_alloc_new w4 _)) (by rfl) HD.out (by have:=T4.out.fr.size;simp;omega) ?_;intro v8 w8 vw CG UL;obtain⟨A8,n8,c8,rfl⟩:∃A n c,v8=.slice A n c:=(let ⟨A,c,e,_⟩:=ah.form vw;⟨A,_,c,e⟩);have z2:w8.cell? ⟨gr,2,none⟩=some dv:=Kq 2 (oD HR.out HX.out (aB ((Below.refl _ w4).alloc Kv _)) CG);have zf:w8.frozen? ⟨gr,2,none⟩=false:=Kj (oD HR.out HX.out (aB ((Below.refl _ w4).alloc Kv _)) CG);have T8:=Hj (HP.out w8 _ vw CG UL);clear vw CG UL)
    | fail)
   all_goals
    go_wp2
    refine bodyPost_ret (results_none rfl _ _ _) rfl ⟨rfl,?_,S4.out.trans T8.out.2⟩
    have:=HFb.out
    unfold lC iU
    simp only[←this]
    rw[←HKs.out]
    exact T8.out.1
  | false=>
   go_wp2_with (first
    | (go_at_call 85;rw[←HW.out.1];((with_reducible refine HFo.out.mono ?_);rintro e w3 ⟨rfl,hb3⟩;have B3:=Hj hb3;rw[←HW.out.2];obtain⟨x0,x1⟩:=HK.out w3 hb3;have X1:=Hj x1;have T3:=Hj (HT.out w3 (HB.out w3 hb3));have c1:w3.cell? ⟨B,1,none⟩=some (.bool _):=Kq 1 x0;obtain⟨b0,b1,b2,b3,b4⟩:VB w3 (B+1) v:=VB.aG x1;have j3:=KC.out w3 T3.out.1;clear hb3 x0 x1))
    | fail)
   go_region_held3 (fun w'=>w'.cell? ⟨gw,3,none⟩=some (.pointer (some ⟨gt,0,none⟩))∧w'.cell? ⟨B+1,0,none⟩=some (.int .i64 v.kind)∧w'.cell? ⟨B+1,1,none⟩=some (.string v.space)∧w'.cell? ⟨B+1,2,none⟩=some (.string v.name)∧w'.cell? ⟨B+1,3,none⟩=some (.int .i64 v.ver)∧w'.cell? ⟨B+1,4,none⟩=some (.slice v.A v.n v.c)) (first | exact⟨by assumption,by assumption,by assumption,by assumption,by assumption,by assumption⟩ | go_keep) (first
    | (go_at_call 54;((with_reducible refine(xR.out _).mono ?_);rintro e w' ⟨rfl,rfl⟩))
    | (go_at_call 48;((with_reducible refine(Fj.out w3.drew (aB (HB.out w3 B3.out))).mono ?_);rintro e wc ⟨A1,c1',rfl,h1,h2,h5⟩;have I5:=Hj (And.intro h1 h5);have BC:Hid (Below w3.heap.size w3 wc):=Hj ((aB (Below.refl _ w3)).trans h2);have XC:=Hj ((BC.out.block (B+1) (Cq X1.out)).trans X1.out);obtain⟨e0,e1,e2,e3,e4⟩:VB wc (B+1) v:=VB.aG XC.out;have e5:=KC.out wc (T3.out.1.below BC.out);clear h1 h2 h5))
    | (go_at_call 84;((with_reducible refine(rM.out wc A1 c1' (T3.out.1.below BC.out) I5.out.1 I5.out.2).mono ?_);rintro e w4 ⟨⟨bb,rfl⟩,⟨h1,h2⟩,h3⟩;have T4:=Hj h1;have S4:Hid (Sf w w4):=Hj ((Sf.of_below ((HB.out w3 B3.out).trans (BC.out.mono (HB.out w3 B3.out).size))).trans h2);have X4:=Hj ((h3.block (B+1) (Cq XC.out) fun e=>HB0.out e.symm).trans XC.out);obtain⟨d0,d1,d2,d3,d4⟩:VB w4 (B+1) v:=VB.aG X4.out;have j4:w4.cell? ⟨gw,3,none⟩=some (.pointer (some ⟨gt,0,none⟩)):=Kq 3 h1.row;clear h1 h2 h3))
    | fail)
   obtain⟨pv,dv,hr,⟨os,hx1,hx2,hx3⟩,ho1,hap⟩:=T4.out.rep
   have r2:w4.cell? ⟨gr,1,none⟩=some pv:=Kq 1 hr
   have q2:∀o,(w4.alloc o).cell? ⟨gr,1,none⟩=some pv:=fun o=>Kz ((Below.refl _ w4).alloc Kv o) _ _ r2
   have HX:=Hj hx1
   have HR:=Hj hr
   have HD:Hid ((os.map fun x=>x.1).length≤900000):=Hj (by rw[List.length_map];have:=congrArg List.length hx2;rw[List.length_map] at this;have:=HL.out.1;omega)
   have HP:Hid (∀w8 v8,OL w8 ws.heap.size v8 (os.map (fun x=>x.1)++[v])→(w4.alloc (.cells #[.int .i64 v.kind,.string v.space,.string v.name,.int .i64 v.ver,.slice v.A v.n v.c] 37)).drew.grownBy w8 pv.ownBlock→(v8.ownBlock=pv.ownBlock∨v8.ownBlock=some (w4.alloc (.cells #[.int .i64 v.kind,.string v.space,.string v.name,.int .i64 v.ver,.slice v.A v.n v.c] 37)).drew.heap.size)→TI P ws (w8.setCell ⟨gr,1,none⟩ v8) gw gt gr kind space all cur (ins aJ (wkey v.space v.name) o K) an (lp++[o]) ld∧Sf w4 (w8.setCell ⟨gr,1,none⟩ v8)):=Hj fun w8 v8 h1 h2 h3=>T4.out.pushP hr hx1 hx2 hx3 ho1 hap (aB ((Below.refl _ w4).alloc Kv _)) h2 h1 h3 (S4.out.Rj (HT.out w (Below.refl _ _)).2)
   clear hx1 hx2 hx3 ho1 hap hr
   go_wp2
   go_region_law (first
    | (refine nV rfl (.tmp 51) (.tmp 53) (by rfl) (ah.below HX.out (aB ((Below.refl _ w4).alloc Kv _))) (by rfl) (vK (cp:=1) (v:=v) (heap_alloc_new w4 _)) (by rfl) HD.out (by have:=T4.out.fr.size;simp;omega) ?_;intro v8 w8 vw CG UL;obtain⟨A8,n8,c8,rfl⟩:∃A n c,v8=.slice A n c:=(let ⟨A,c,e,_⟩:=ah.form vw;⟨A,_,c,e⟩);have z2:w8.cell? ⟨gr,1,none⟩=some pv:=Kq 1 (oD HR.out HX.out (aB ((Below.refl _ w4).alloc Kv _)) CG);have zf:w8.frozen? ⟨gr,1,none⟩=false:=Kj (oD HR.out HX.out (aB ((Below.refl _ w4).alloc Kv _)) CG);have T8:=Hj (HP.out w8 _ vw CG UL);clear vw CG UL)
    | fail)
   all_goals
    refine bodyPost_end (results_none rfl _ _ _) rfl ⟨rfl,?_,S4.out.trans T8.out.2⟩
    have:=HFb.out
    unfold lC iU
    simp only[←this]
    rw[←HKs.out]
    exact T8.out.1
end
section
variable {w w0:World} {Q:Nat→Prop} {g gs gw gt cur:Nat} {m:DM} {L:LM} {M:aY} {kind:Int} {space:ByteArray} {all:Bool} {K:List (ByteArray×aH)}
theorem OS.BU {base:Nat} {v:Value} {os:List OV} {l:List (ByteArray×aH)} (ho:OL w base v os) (hl:os.length=l.length) (hO:uU w base os l):OS w base v (l.map fun x=>x.2):=by
 refine⟨os.zip (l.map fun x=>x.2),?_,?_,fun x hx=> ?_⟩
 ·rw [List.map_fst_zip (by rw[List.length_map];omega)];exact ho
 ·rw [List.map_snd_zip (by rw[List.length_map];omega)]
 ·obtain ⟨i,hi⟩:=List.mem_iff_getElem?.1 hx
  obtain⟨h1,h2⟩:=List.getElem?_zip_eq_some.1 hi
  rw[List.getElem?_map] at h2
  cases hy:l[i]? with
  | none=>rw[hy] at h2;cases h2
  | some y=>
   rw[hy] at h2
   injection h2 with h2
   obtain⟨v,k1,k2,-⟩:=hO i y hy
   rw[k1] at h1
   injection h1 with h1
   rw[←h1,←h2]
   exact k2
/-- What is listed. -/
def mF (M:aY) (kind:Int) (space:ByteArray) (all:Bool):List aH:=(span aJ (bF (dZ kind (if all then ⟨#[]⟩ else space))) (bF (yP kind (if all then ⟨#[]⟩ else space))) M.tab).map fun x=>x.2
set_option maxRecDepth 100000 in
theorem Uw (h:SW w0 w Q g m gs L M) (hw:fA w gw gt kind space all cur) (hk:kind≤9223372036854775807) (hs:space.size≤1000) (hl:M.tab.length≤100000) (hn:all=false∨(kind≠5∧kind≠6)):
  Calls Tryz.prog 83 #[.pointer (some ⟨gw,0,none⟩),.pointer (some ⟨gs,0,none⟩)] w fun e w'=>∃v,e=.returned v∧OS w' w.heap.size v (mF M kind space all)∧Below w.heap.size w w':=by
 have HL:Hid (∀W,Below w.heap.size w W→Calls Tryz.prog 15 #[.pointer (some ⟨gs,0,none⟩),.int .i64 kind,.string (if all then ⟨#[]⟩ else space)] W fun e w'=>∃v,e=.returned v∧OS w' w.heap.size v (mF M kind space all)∧Below W.heap.size W w'):=Hj fun W hW=>(DY kind _ (h.below hW) hk (by split<;>first | exact hs | decide) hl).mono fun e w' ⟨v,os,h1,h2,h3,h4,h5⟩=>⟨v,h1,OS.BU (h2.mono fun k hk=>Cz hW.size (ah.lt h2 k hk).1) h3 (fun i x hx=>let ⟨u,a,b,c⟩:=h4 i x hx;⟨u,a,b,fun k hk=>Cz hW.size (c k hk)⟩),h5⟩
 have c0:w.cell? ⟨gw,0,none⟩=some (.int .i64 kind):=Kq 0 hw
 have c1:w.cell? ⟨gw,1,none⟩=some (.string space):=Kq 1 hw
 have c2:w.cell? ⟨gw,2,none⟩=some (.bool all):=Kq 2 hw
 clear h hw hk hs hl
 cases all with
 | false=>
  have HL2:Hid (∀W,Below w.heap.size w W→Calls Tryz.prog 15 #[.pointer (some ⟨gs,0,none⟩),.int .i64 kind,.string space] W fun e w'=>∃v,e=.returned v∧OS w' w.heap.size v (mF M kind space false)∧Below W.heap.size W w'):=HL
  go_enter Tryz.func83,Tryz.ntmps83
  go_wp2
  go_region_held3 (fun w'=>w'.cell? ⟨gw,0,none⟩=some (.int .i64 kind)∧w'.cell? ⟨gw,1,none⟩=some (.string space)) (first | exact⟨by assumption,by assumption⟩ | go_keep) (first
   | (go_at_call 15;((with_reducible refine(HL2.out w.drew (Below.drew (Below.refl _ _))).mono ?_);rintro e w2 ⟨v,rfl,ho,hb⟩;have k0:w2.cell? ⟨gw,0,none⟩=some (.int .i64 kind):=Kz hb _ _ c0;have k1:w2.cell? ⟨gw,1,none⟩=some (.string space):=Kz hb _ _ c1;have HO:=Hj (And.intro ho hb);clear ho hb))
   | fail)
  all_goals
   go_wp2
   go_ret
   exact⟨v,rfl,HO.out.1,(Below.drew (Below.refl _ _)).trans HO.out.2⟩
 | true=>
  have q1:(kind !=5)=true:=bne_iff_ne.2 (hn.resolve_left (by decide)).1
  have q2:(kind !=6)=true:=bne_iff_ne.2 (hn.resolve_left (by decide)).2
  have HL2:Hid (∀W,Below w.heap.size w W→Calls Tryz.prog 15 #[.pointer (some ⟨gs,0,none⟩),.int .i64 kind,.string ⟨#[]⟩] W fun e w'=>∃v,e=.returned v∧OS w' w.heap.size v (mF M kind space true)∧Below W.heap.size W w'):=HL
  clear hn
  go_enter Tryz.func83,Tryz.ntmps83
  go_wp2_with (first
   | (go_at_call 15;((with_reducible refine(HL2.out w (Below.refl _ _)).mono ?_);rintro e w2 ⟨v,rfl,ho,hb⟩;have HO:=Hj (And.intro ho hb);clear ho hb))
   | fail)
  go_ret
  exact⟨v,rfl,HO.out.1,HO.out.2⟩
end
/-- One object more is known. -/
def nY (K:List (ByteArray×aH)) (o:aH):List (ByteArray×aH):=ins aJ (wkey o.space o.name) o K
theorem rC:(Tryz.prog.info? 43).map (·.size)=some 3:=by kernel_rfl
theorem st3 {w:World} {B:Nat} {T:TypeId} {c0 c1 c2 x0 x1 x2:Value} (h:w.heap[B]?=some (.cells #[c0,c1,c2] T (0,0))):(((w.setCell ⟨B,0,none⟩ x0).setCell ⟨B,1,none⟩ x1).setCell ⟨B,2,none⟩ x2).heap[B]?=some (.cells #[x0,x1,x2] T (0,0)):=by
 have h0:(w.setCell ⟨B,0,none⟩ x0).heap[B]?=some (.cells #[x0,c1,c2] T (0,0)):=by simpa using heap_setCell_same _ _ 0 _ _ x0 h
 have h1:((w.setCell ⟨B,0,none⟩ x0).setCell ⟨B,1,none⟩ x1).heap[B]?=some (.cells #[x0,x1,c2] T (0,0)):=by simpa using heap_setCell_same _ _ 1 _ _ x1 h0
 simpa using heap_setCell_same _ _ 2 _ _ x2 h1
theorem OS.mono {w:World} {b b':Nat} {v:Value} {l:List aH} (h:OS w b v l) (hb:b'≤b):OS w b' v l:=let ⟨os,h1,h2⟩:=h;⟨os,ah.mono h1 fun k hk=>Cz hb (ah.lt h1 k hk).1,h2⟩
section
variable {P:Nat→Prop} {w w0:World} {Q:Nat→Prop} {g gs gw gt cur:Nat} {m:DM} {L:LM} {M:aY} {kind:Int} {space:ByteArray} {all:Bool}
theorem xH:∀(l:List aH) (K:List (ByteArray×aH)),(l.foldl nY K).length≤K.length+l.length
 | [],K=>Nat.le_refl _
 | o::l,K=>by
  have h1:=xH l (nY K o)
  have h2:(nY K o).length≤K.length+1:=by unfold nY;rw[je];split<;>omega
  rw[List.foldl_cons,List.length_cons]
  omega
set_option maxHeartbeats 4000000 in
set_option maxRecDepth 100000 in
theorem anewW (h:SW w0 w Q g m gs L M) (hw:fA w gw gt kind space all cur) (hK:KT w P gt []) (hk:kind≤9223372036854775807) (hs:space.size≤1000) (hl:M.tab.length≤100000) (hn:all=false∨(kind≠5∧kind≠6)):
  Calls Tryz.prog 38 #[.pointer (some ⟨gw,0,none⟩),.pointer (some ⟨gs,0,none⟩)] w fun e w'=>∃pv eX,e=.returned (.agg #[.bool true,pv,.slice none 0 0])∧OS w' w.heap.size pv (mF M kind space all)∧fA w' gw eX kind space all cur∧KT w' (fun k=>w.heap.size≤k) eX ((mF M kind space all).foldl nY [])∧Fr (fun k=>k=gw) w w'∧w.heap.size≤eX:=by
 obtain⟨w1,hw1⟩:∃W,W=w.alloc (.cells #[.bool false,.slice none 0 0,.slice none 0 0] 43):=⟨_,rfl⟩
 have hb1:Below w.heap.size w w1:=by rw[hw1];exact(Below.refl _ w).alloc Kv _
 have hr1:w1.heap[w.heap.size]?=some (.cells #[.bool false,.slice none 0 0,.slice none 0 0] 43 (0,0)):=by rw[hw1];exact heap_alloc_new w _
 have hrw:=(hb1.block gw (Cq hw)).trans hw
 obtain⟨l,hl2⟩:∃l,l=mF M kind space all:=⟨_,rfl⟩
 have xM:=Hj (Uw (h.below hb1) hrw hk hs hl hn)
 rw[←hl2] at xM ⊢
 have HO:Hid (∀o∈l,o.data.length≤1000000∧o.space.size≤1000∧o.name.size≤1000):=Hj fun o ho=>by
  rw[hl2] at ho
  obtain⟨x,hx,rfl⟩:=List.mem_map.1 ho
  have:=(h.ok.tab.each x (List.mem_filter.1 hx).1).2.1
  have hd:=this.data
  obtain⟨p1,p2,p3,p4,p5⟩:=this.parts
  exact⟨by omega,by omega,by omega⟩
 have HN:Hid (l.length≤100000):=Hj (by rw[hl2];unfold mF;rw[List.length_map];exact Cz (List.length_filter_le _ _) hl)
 have HW:=Hj hw1
 have HB1:=Hj hb1
 have HR1:=Hj hr1
 have HRW:=Hj hw
 have HKT:=Hj hK
 clear h hw hK hk hs hl hn hw1 hb1 hr1 hrw hl2
 go_enter Tryz.func38,Tryz.ntmps38
 go_wp2_with (first
  | (go_at_call 83;rw[←HW.out];((with_reducible refine xM.out.mono ?_);rintro e w2 ⟨v,rfl,ho,hb⟩;obtain⟨A,c,rfl,hc1,hc2⟩:=ho.form;have HOs:=Hj ho;have B2:=Hj hb;have q3:∀o,(w2.alloc o).cell? ⟨gw,3,none⟩=some (.pointer (some ⟨gt,0,none⟩)):=(fun o=>Kz ((HB1.out.trans (hb.mono HB1.out.size)).alloc (HB1.out.trans (hb.mono HB1.out.size)).size o) _ _ (Kq 3 HRW.out));clear ho hb))
  | (go_at_call 28;obtain⟨w3,hw3⟩:∃W,W=w2.alloc (.cells #[.bool true,.slice A l.length c,.slice none 0 0] 43):=⟨_,rfl⟩;rw[←hw3];have b3:Below w2.heap.size w2 w3:=(by rw[hw3];exact(Below.refl _ w2).alloc Kv _);have r3:w3.heap[w2.heap.size]?=some (.cells #[.bool true,.slice A l.length c,.slice none 0 0] 43 (0,0)):=(by rw[hw3];exact heap_alloc_new w2 _);obtain⟨gr,hgr⟩:∃q,q=w2.heap.size:=⟨_,rfl⟩;rw[←hgr] at r3 ⊢;((with_reducible refine(Jm w3).mono ?_);rintro e w4 ⟨rfl,ht,hb⟩;obtain⟨eX,hgt2⟩:∃q,q=w3.heap.size:=⟨_,rfl⟩;rw[←hgt2] at ht ⊢;have HT4:=Hj ht;have r4:=(hb.block gr (Cq r3)).trans r3;have B4:=Hj (b3.trans (hb.mono b3.size));have R4:=Hj r4;have HG:=Hj (And.intro hgr hgt2);have HS3:=Hj (And.intro (Cq r3) hb.size);have bw:=(HB1.out.trans (B2.out.mono HB1.out.size)).trans (B4.out.mono (HB1.out.trans (B2.out.mono HB1.out.size)).size);have BW:=Hj bw;have rw4:=(bw.block gw (Cq HRW.out)).trans HRW.out;have RW4:=Hj rw4;have p3:w4.cell? ⟨gw,3,none⟩=some (.pointer (some ⟨gt,0,none⟩)):=Kq 3 rw4;have pf:w4.frozen? ⟨gw,3,none⟩=false:=Kj rw4;have p1:w4.cell? ⟨gr,1,none⟩=some (.slice A l.length c):=Kq 1 r4;clear ht hb hw3 b3 r3 r4 hgr hgt2 rw4 bw))
  | fail)
 obtain⟨w5,hw5⟩:∃W,W=w4.setCell ⟨gw,3,none⟩ (.pointer (some ⟨eX,0,none⟩)):=⟨_,rfl⟩
 rw[←hw5]
 have hz:gw<w.heap.size:=(Cq HRW.out)
 have hf5:Fr (fun k=>k=gw) w4 w5:=by rw[hw5];exact(Fr.refl (fun k=>k=gw) w4).setCell (p:=⟨gw,3,none⟩) (fun _=>rfl) _
 have hs5:Sf w4 w5:=Sf.aG hf5 RW4.out (.inr (.inr (.inr rfl)))
 have hG1:w1.heap.size=w.heap.size+1:=by rw[HW.out];simp
 have hG2:=B2.out.size
 have hG3:=B4.out.size
 obtain⟨hG4,hG5⟩:=HG.out
 obtain⟨hG6,hG7⟩:=HS3.out
 have hgt:gt<w.heap.size:=let ⟨_,h⟩:=HKT.out.row;(Cq h)
 have R5:Hid (fA w5 gw eX kind space all cur):=Hj (by rw[hw5];exact heap_setCell_same _ _ 3 _ _ _ RW4.out)
 have K5:Hid (KT w5 (fun k=>w.heap.size≤k) eX []):=Hj (hs5.tab ⟨_,[],HT4.out,rfl,fun x hx=>(by cases hx),List.Pairwise.nil⟩ (hf5.block eX (by obtain⟨_,h,_⟩:=HT4.out;exact(Cq h)) (by omega)))
 have O5:Hid (OS w5 w1.heap.size (.slice A l.length c) l):=Hj (hs5.os (HOs.out.below B4.out) fun k hk=>hf5.block k ((HOs.out.below B4.out).own hk).2.1 fun e=>by have:=(HOs.out.own hk).1;omega)
 have F5:Hid (Fr (fun k=>k=gw) w w5):=Hj ((Fr.of_below BW.out).trans hf5 fun _ _ x=>x)
 have G5:Hid (w5.heap[gr]?=some (.cells #[.bool true,.slice A l.length c,.slice none 0 0] 43 (0,0))):=Hj ((hf5.block gr (Cq R4.out) (by omega)).trans R4.out)
 have Z5:Hid (w5.heap[w.heap.size]?=some (.cells #[.bool false,.slice none 0 0,.slice none 0 0] 43 (0,0))):=Hj ((hf5.block _ (by omega) (by omega)).trans ((B4.out.block _ (by omega)).trans ((B2.out.block _ (by omega)).trans HR1.out)))
 have T5:Hid (KT w5 P gt []):=Hj (hs5.tab (HKT.out.below BW.out) (hf5.block gt (by omega) fun e=>by subst e;obtain⟨_,h⟩:=HKT.out.row;exact absurd (aj h HRW.out) (by decide)))
 have N5:Hid (gw≠eX∧gr≠eX∧w.heap.size≠eX∧gt≠eX∧w1.heap.size≤eX∧w.heap.size≤w5.heap.size):=Hj ⟨by omega,by omega,by omega,by omega,by omega,F5.out.size⟩
 have HCop:Hid (∀W (u:OV) (o:aH),dI W u o→o∈l→Calls Tryz.prog 48 #[.agg #[.int .i64 u.kind,.string u.space,.string u.name,.int .i64 u.ver,.slice u.A u.n u.c]] W fun e w'=>∃A1 c1,e=.returned (.agg #[.int .i64 u.kind,.string u.space,.string u.name,.int .i64 u.ver,.slice A1 u.n c1])∧dI w' (⟨u.kind,u.space,u.name,u.ver,A1,u.n,c1⟩:OV) o∧Below W.heap.size W w'∧∀k,(Value.slice A1 u.n c1).ownBlock=some k→W.heap.size≤k):=Hj fun W u o hu ho=>(BJ u W o.data hu.rb (by rw[hu.num];exact(HO.out o ho).1)).mono fun e w' ⟨A1,c1,h1,h2,h3⟩=>⟨A1,c1,h1,⟨hu.kind,hu.space,hu.name,hu.ver,hu.num,ah.mono h2 fun _ _=>Nat.zero_le _⟩,h3,fun k hk=>(ah.lt h2 k hk).1⟩
 have xR:Hid (∀W (u:OV) (o:aH),dI W u o→o∈l→∀W',Calls Tryz.prog 54 #[.string u.space,.string u.name] W' fun e w'=>e=.returned (.string (wkey o.space o.name))∧w'=W'):=Hj fun W u o hu ho W'=>by
  have:=aaf u.space u.name W' (by rw[hu.space];exact(HO.out o ho).2.1) (by rw[hu.name];exact(HO.out o ho).2.2)
  rwa [hu.space,hu.name] at this ⊢
 clear hw5 hz hf5 hs5 hG1 hG2 hG3 hG4 hG5 hG6 hG7 hgt p3 pf p1 q3 hc1 hc2
 obtain⟨n,hn⟩:∃n,n=l.length:=⟨_,rfl⟩
 rw[←hn]
 have HNl:=Hj hn
 clear hn
 go_loopg [30] n (fun gk s30 wr=>∃i:Nat,s30=.int .i64 (i:Int)∧i+gk=n∧KT wr (fun k=>w.heap.size≤k) eX ((l.take i).foldl nY [])∧Fr (fun k=>k=eX) w5 wr)
 case atStart=>exact⟨0,rfl,by omega,K5.out,Fr.refl _ _⟩
 case round=>
  obtain⟨i,rfl,hi,hk,hf⟩:=hrel
  have HK:=Hj hk
  have HF:=Hj hf
  have HI:=Hj hi
  obtain⟨p5,hp5⟩:=K5.out.row
  have hsr:Sf w5 wr:=Sf.aG hf hp5 (.inl rfl)
  have HSr:=Hj hsr
  by_cases hlt:i<n
  ·obtain ⟨os,h1,h2,h3⟩:=hsr.os O5.out fun k hk=>hf.block k (O5.out.own hk).2.1 fun e=>by obtain⟨_,hc⟩:=(O5.out.own hk).2.2;rw[e] at hc;exact absurd (aj hc hp5) (by decide)
   have hlen:os.length=l.length:=by rw[←h2,List.length_map]
   have XB:i<os.length:=by rw[hlen,←HNl.out];exact hlt
   obtain⟨b,o,rfl,-,hcell⟩:=GV h1 (by rw[List.length_map];omega)
   obtain⟨x,hx⟩:∃x,x=os[i]:=⟨_,rfl⟩
   have hxi:os[i]?=some x:=by rw[hx];exact List.getElem?_eq_getElem XB
   have hxv:(os.map fun x=>x.1)[i]?=some x.1:=by rw[List.getElem?_map,hxi];rfl
   have hxl:l[i]?=some x.2:=by rw[←h2,List.getElem?_map,hxi];rfl
   obtain⟨u,ob⟩:=x
   have hmem:ob∈l:=List.mem_of_getElem? hxl
   have HM:=Hj hmem
   have HU:=Hj (h3 _ (List.mem_of_getElem? hxi))
   have HTk:Hid ((l.take (i+1)).foldl nY []=nY ((l.take i).foldl nY []) ob):=Hj (by
    obtain⟨g1,g2⟩:=List.getElem?_eq_some_iff.1 hxl
    rw[List.take_succ_eq_append_getElem g1,g2,List.foldl_append];rfl)
   have e0:=fun j y=>hcell i u hxv j y
   have c0:wr.cell? ⟨b,o+i*5,none⟩=some (.int .i64 u.kind):=e0 0 _ rfl
   have c1:wr.cell? ⟨b,o+i*5+1,none⟩=some (.string u.space):=e0 1 _ rfl
   have c2:wr.cell? ⟨b,o+i*5+2,none⟩=some (.string u.name):=e0 2 _ rfl
   have c3:wr.cell? ⟨b,o+i*5+3,none⟩=some (.int .i64 u.ver):=e0 3 _ rfl
   have c4:wr.cell? ⟨b,o+i*5+4,none⟩=some (.slice u.A u.n u.c):=e0 4 _ rfl
   have i0:(0:Int)≤(i:Int):=Int.natCast_nonneg i
   have i1:(i:Int)<(n:Int):=Int.ofNat_lt.2 hlt
   have i2:(i:Int)≤100000:=by have:=HN.out;have:=HNl.out;omega
   have CP:=Hj hlt
   have rM:Hid (∀W A c,KT W (fun k=>w.heap.size≤k) eX ((l.take i).foldl nY [])→dI W (⟨u.kind,u.space,u.name,u.ver,A,u.n,c⟩:OV) ob→(∀k,(Value.slice A u.n c).ownBlock=some k→w.heap.size≤k)→Calls Tryz.prog 84 #[.pointer (some ⟨eX,0,none⟩),(.string (wkey ob.space ob.name)),.agg #[.int .i64 u.kind,.string u.space,.string u.name,.int .i64 u.ver,.slice A u.n c]] W fun e w'=>(∃b,e=.returned (.bool b))∧KT w' (fun k=>w.heap.size≤k) eX ((l.take (i+1)).foldl nY [])∧Fr (fun k=>k=eX) W w'):=Hj fun W A c hW hv' hp'=>by
    rw[HTk.out]
    exact hW.put hv' hp' _ (Cz (xH _ _) (by rw[List.length_take];have:=HN.out;simp only[List.length_nil];omega))
   clear hk hf hi hp5 hsr hlt h1 h2 h3 hlen XB hcell hx hxi hxv hxl hmem e0
   go_wp2
   obtain⟨w6,hw6⟩:∃W,W=wr.alloc (.cells #[.int .i64 u.kind,.string u.space,.string u.name,.int .i64 u.ver,.slice u.A u.n u.c] 37):=⟨_,rfl⟩
   obtain⟨B6,WQ⟩:∃q,q=wr.heap.size:=⟨_,rfl⟩
   rw[←hw6,←WQ]
   have b6:Below wr.heap.size wr w6:=by rw[hw6];exact(Below.refl _ wr).alloc Kv _
   have x6:w6.heap[B6]?=some (.cells #[.int .i64 u.kind,.string u.space,.string u.name,.int .i64 u.ver,.slice u.A u.n u.c] 37 (0,0)):=by rw[hw6,WQ];exact heap_alloc_new wr _
   have rr:wr.heap[gw]?=_:=(HF.out.block gw (Cq R5.out) N5.out.1).trans R5.out
   have rr6:=(b6.block gw (Cq rr)).trans rr
   have RR6:=Hj rr6
   have j3:w6.cell? ⟨gw,3,none⟩=some (.pointer (some ⟨eX,0,none⟩)):=Kq 3 rr6
   obtain⟨b0,b1,b2,b3,b4⟩:VB w6 B6 u:=VB.aG x6
   have B6':=Hj b6
   have X6:=Hj x6
   have YQ:Hid (B6≠eX):=Hj (by obtain⟨_,h⟩:=HK.out.row;have:=(Cq h);omega)
   clear hw6 WQ b6 x6 rr rr6 c0 c1 c2 c3 c4
   go_region_held3 (fun w'=>w'.cell? ⟨gw,3,none⟩=some (.pointer (some ⟨eX,0,none⟩))∧w'.cell? ⟨B6,0,none⟩=some (.int .i64 u.kind)∧w'.cell? ⟨B6,1,none⟩=some (.string u.space)∧w'.cell? ⟨B6,2,none⟩=some (.string u.name)∧w'.cell? ⟨B6,3,none⟩=some (.int .i64 u.ver)∧w'.cell? ⟨B6,4,none⟩=some (.slice u.A u.n u.c)) (first | exact⟨by assumption,by assumption,by assumption,by assumption,by assumption,by assumption⟩ | go_keep) (first
    | (go_at_call 54;((with_reducible refine(xR.out wr u ob HU.out HM.out _).mono ?_);rintro e w' ⟨rfl,rfl⟩))
    | (go_at_call 48;((with_reducible refine(HCop.out w6.drew u ob (HU.out.below (aB B6'.out)) HM.out).mono ?_);rintro e wc ⟨A1,c1',rfl,h1,h2,h5⟩;have I5:=Hj (And.intro h1 fun k hk=>Cz (Cz F5.out.size (Cz HF.out.size B6'.out.size)) (h5 k hk));have BC:Hid (Below w6.heap.size w6 wc):=Hj ((aB (Below.refl _ w6)).trans h2);obtain⟨e0,e1,e2,e3,e4⟩:VB wc B6 u:=VB.aG ((BC.out.block B6 (Cq X6.out)).trans X6.out);have e5:wc.cell? ⟨gw,3,none⟩=some (.pointer (some ⟨eX,0,none⟩)):=Kq 3 ((BC.out.block gw (Cq RR6.out)).trans RR6.out);have XC:=Hj ((BC.out.block B6 (Cq X6.out)).trans X6.out);have RC:=Hj ((BC.out.block gw (Cq RR6.out)).trans RR6.out);clear h1 h2 h5))
    | (go_at_call 84;((with_reducible refine(rM.out wc A1 c1' ((HK.out.below B6'.out).below BC.out) I5.out.1 I5.out.2).mono ?_);rintro e w7 ⟨⟨bb,rfl⟩,h1,h3⟩;have T7:=Hj h1;have F7:=Hj h3;obtain⟨d0,d1,d2,d3,d4⟩:VB w7 B6 u:=VB.aG ((h3.block B6 (Cq XC.out) YQ.out).trans XC.out);have d5:w7.cell? ⟨gw,3,none⟩=some (.pointer (some ⟨eX,0,none⟩)):=Kq 3 ((h3.block gw (Cq RC.out) N5.out.1).trans RC.out);clear h1 h3))
    | fail)
   go_wp2
   go_roundg (gk-1)
   case measure=>have:=HI.out;have:=CP.out;omega
   case rel=>exact⟨i+1,by go_num,by have:=HI.out;have:=CP.out;omega,T7.out,(HF.out.trans (Fr.of_below (S:=fun _=>False) (B6'.out.trans (BC.out.mono B6'.out.size))) fun _ _ x=>x.elim).trans F7.out fun _ _ x=>x⟩
  ·obtain rfl:i=n:=by omega
   obtain⟨wa,rfl⟩:∃W,W=wr:=⟨_,rfl⟩
   have hkn:KT wa P gt []:=hsr.tab T5.out (hf.block gt (by obtain⟨_,h⟩:=T5.out.row;exact(Cq h)) N5.out.2.2.2.1)
   have yQ:Hid (Calls Tryz.prog 47 #[.pointer (some ⟨gt,0,none⟩)] wa fun e w'=>∃A c,e=.returned (.slice A 0 c)∧Below wa.heap.size wa w'):=Hj (by
    obtain⟨sh,xs,h1,h2,-⟩:=hkn
    obtain rfl:xs=[]:=List.map_eq_nil_iff.1 h2.symm
    refine(FK gt sh _ wa h1 (Nat.zero_le _)).mono ?_
    rintro e w' ⟨kv,rfl,hrow,hb⟩
    obtain⟨A,c,rfl,-,-⟩:=(ah.vO hrow).form
    exact⟨A,c,rfl,hb⟩)
   have hos:OS wa w1.heap.size (.slice A l.length c) l:=hsr.os O5.out fun k hk=>hf.block k (O5.out.own hk).2.1 fun e=>by obtain⟨_,hc⟩:=(O5.out.own hk).2.2;rw[e] at hc;exact absurd (aj hc hp5) (by decide)
   have HOr:=Hj hos
   have hgr:=(hf.block gr (Cq G5.out) N5.out.2.1).trans G5.out
   have Jp:=(hf.block _ (Cq Z5.out) N5.out.2.2.1).trans Z5.out
   have hwr:fA wa gw eX kind space all cur:=(hf.block gw (Cq R5.out) N5.out.1).trans R5.out
   have mW:=Hj (And.intro hgr (And.intro Jp hwr))
   obtain⟨Z,hZ⟩:∃z,z=w.heap.size:=⟨_,rfl⟩
   have HZ:=Hj hZ
   rw[←hZ]
   clear hk hf hi hlt hp5 hsr hkn hos hgr Jp hwr hZ
   go_wp2_with (first
    | (go_at_call 47;((with_reducible refine yQ.out.mono ?_);rintro e wk ⟨A2,c2,rfl,hb⟩;have BK:=Hj hb;clear hb))
    | fail)
   go_loopg [50] 0 (fun _ s50 wq=>s50=.int .i64 0∧wq=wk)
   case atStart=>exact⟨rfl,rfl⟩
   case round=>
    obtain⟨rfl,hw⟩:=hrel
    rw[hw]
    clear hw
    obtain⟨hgr,Jp,hwr⟩:=mW.out
    have hz:Z<wa.heap.size:=by have:=(Cq Jp);rw[HZ.out];exact this
    have hgk:=(BK.out.block gr (Cq hgr)).trans hgr
    have XD:=(BK.out.block _ (Cq Jp)).trans Jp
    rw[←HZ.out] at XD
    have g0:wk.cell? ⟨gr,0,none⟩=some (.bool true):=Kq 0 hgk
    have g1:wk.cell? ⟨gr,1,none⟩=some (.slice A l.length c):=Kq 1 hgk
    have g2:wk.cell? ⟨gr,2,none⟩=some (.slice none 0 0):=Kq 2 hgk
    have z0:wk.cell? ⟨Z,0,none⟩=some (.bool false):=Kq 0 XD
    have z1:wk.cell? ⟨Z,1,none⟩=some (.slice none 0 0):=Kq 1 XD
    have z2:wk.cell? ⟨Z,2,none⟩=some (.slice none 0 0):=Kq 2 XD
    have zf:∀j,wk.frozen? ⟨Z,j,none⟩=false:=fun j=>Kj XD
    rw[←HNl.out] at g1
    clear hgr Jp hwr hgk
    go_wp2
    obtain⟨wf,hwf⟩:∃W,W=((wk.setCell ⟨Z,0,none⟩ (.bool true)).setCell ⟨Z,1,none⟩ (.slice A i c)).setCell ⟨Z,2,none⟩ (.slice none 0 0):=⟨_,rfl⟩
    rw[←hwf]
    have hF:Fr (fun k=>k=Z) wk wf:=by rw[hwf];exact(((Fr.refl (fun k=>k=Z) wk).setCell (p:=⟨Z,0,none⟩) (fun _=>rfl) _).setCell (p:=⟨Z,1,none⟩) (fun _=>rfl) _).setCell (p:=⟨Z,2,none⟩) (fun _=>rfl) _
    have hS:Sf wk wf:=Sf.aG hF XD (.inr (.inl rfl))
    have hr3:wf.heap[Z]?=some (.cells #[.bool true,.slice A i c,.slice none 0 0] 43 (0,0)):=by rw[hwf];exact st3 XD
    have hb:=BK.out
    have hgw:gw≠Z:=by have:=(Cq HRW.out);have:=HZ.out;omega
    have hgt:eX≠Z:=by have:=N5.out.2.2.1;have:=HZ.out;omega
    have hk:=(HK.out.below hb)
    rw[List.take_of_length_le (by rw[←HNl.out];exact Nat.le_refl _)] at hk
    have ho:=HOr.out.below hb
    have hwr:=(hb.block gw (Cq mW.out.2.2)).trans mW.out.2.2
    have hzl:=HZ.out
    have hw1:w.heap.size<w1.heap.size:=(Cq HR1.out)
    have ho2:OS wf w.heap.size (.slice A i c) l:=by
     rw[HNl.out]
     exact(hS.os ho fun k hk=>hF.block k (ho.own hk).2.1 fun e=>by have:=(ho.own hk).1;omega).mono (by omega)
    refine bodyPost_ret (kP _ rfl rfl hr3 Tryz.underlying43 rC) rfl ⟨_,eX,rfl,ho2,(hF.block gw (Cq hwr) hgw).trans hwr,hS.tab hk (hF.block eX (by obtain⟨_,h⟩:=hk.row;exact(Cq h)) hgt),?_,by have:=N5.out.2.2.2.2.1;omega⟩
    have h1:=F5.out.trans HF.out fun k hk e=>by have:=N5.out.2.2.2.2.1;omega
    exact(h1.trans (Fr.of_below (S:=fun _=>False) hb) fun _ _ x=>x.elim).trans hF fun k hk e=>by omega
end
end Go.Proofs.YtdhbpajamlfacaaGreatDoor
