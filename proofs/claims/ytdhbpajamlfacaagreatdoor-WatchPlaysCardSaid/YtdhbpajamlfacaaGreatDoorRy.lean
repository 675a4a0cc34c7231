/- The document's writer (layer 8) by its lengths: a writer in memory; put, Do, Done; a change's text. -/
import Derived.Test.YtdhbpajamlfacaaGreatDoorRt
set_option maxHeartbeats 4000000
set_option maxRecDepth 100000
namespace Go.Proofs.YtdhbpajamlfacaaGreatDoor
open Go.RowKit
/-- v owns a row of slices of those many bytes each. -/
def nM (w:World) (B:Nat) (v:Value) (ns:List Nat):Prop:=∃ws:List (Nat×Value),ah w B 35 1 v ns.length (ws.map fun x=>x.2)∧ws.map (fun x=>x.1)=ns∧∀x∈ws,LB w B x.2 x.1
theorem LB.kept {w w':World} {B n g:Nat} {v:Value} {cs:Array Value} {T:TypeId} {f:Nat×Nat} (h:LB w B v n) (hg:w.heap[g]?=some (.cells cs T f)) (hT:T≠5) (hf:Fr (fun q=>q=g) w w'):LB w' B v n:=by
 obtain⟨l,e,h⟩:=h
 refine⟨l,e,ah.kept h hf fun q hq x=> ?_⟩
 subst x
 obtain⟨cur,hc⟩:=au h hq
 exact hT (ak hg hc)
section
variable {w w':World} {B:Nat} {v:Value} {ns:List Nat}
theorem nM.nil (w:World) (B:Nat):nM w B (.slice none 0 0) []:=⟨[],ah.nil _ _ _ _,rfl,fun _ h=>by cases h⟩
theorem nM.form (h:nM w B v ns):∃A c,v=.slice A ns.length c:=let ⟨_,h,_⟩:=h;let ⟨A,c,e,_⟩:=h.form;⟨A,c,e⟩
theorem nM.below (h:nM w B v ns) (hb:Bw w w'):nM w' B v ns:=let ⟨ws,h1,h2,h3⟩:=h;⟨ws,h1.below hb,h2,fun x hx=>(h3 x hx).below hb⟩
theorem nM.kept {g:Nat} {cs:Array Value} {T:TypeId} {f:Nat×Nat} (h:nM w B v ns) (hg:w.heap[g]?=some (.cells cs T f)) (h1:T≠5) (h2:T≠35) (hf:Fr (fun q=>q=g) w w'):nM w' B v ns:=by
 obtain⟨ws,k1,k2,k3⟩:=h
 refine⟨ws,ah.kept k1 hf fun q hq x=> ?_,k2,fun x hx=>(k3 x hx).kept hg h1 hf⟩
 subst x
 obtain⟨cur,hc⟩:=au k1 hq
 exact h2 (ak hg hc)
theorem nM.src {A:Option Addr} {c:Nat} (h:nM w B (.slice A ns.length c) ns):∃ws:List (Nat×Value),ws.length=ns.length∧ws.map (fun x=>x.1)=ns∧(∀x∈ws,LB w B x.2 x.1)∧Src Tryz.prog 1 130 (.slice A ns.length c) ns.length (ws.map fun x=>x.2) w:=by
 obtain⟨ws,h1,h2,h3⟩:=h
 refine⟨ws,by have:=h1.1;simpa using this,h2,h3,yS h1 fun x hx=> ?_⟩
 obtain⟨y,hy,rfl⟩:=bW.1 hx
 obtain⟨A',c',_,e,_⟩:=(h3 y hy).form
 exact⟨_,_,_,e⟩
end
/-- Block g is a writer with k open elements (none or one); how many bytes the elements have that stand in the outer and the inner row. -/
structure Py (w:World) (B g k:Nat) (n0 n1:List Nat) (At:Option Addr) (ct:Nat) (Ar:Option Addr) (cr:Nat) (r0 r1:Value):Prop where
 cells:w.heap[g]?=some (.cells #[.slice At k ct,.slice Ar 2 cr,.int .i64 0] 271 (0,0))
 tags:k=0∨(k=1∧ah w B 3 1 (.slice At k ct) 1 [.int .i64 48])
 rows:ah w B 130 1 (.slice Ar 2 cr) 2 [r0,r1]
 row0:nM w B r0 n0
 Oe:nM w B r1 n1
 own:B≤g
section
variable {w w':World} {B g k:Nat} {n0 n1:List Nat} {At:Option Addr} {ct:Nat} {Ar:Option Addr} {cr:Nat} {r0 r1:Value}
theorem Py.lt (h:Py w B g k n0 n1 At ct Ar cr r0 r1):g<w.heap.size:=(Cq h.cells)
theorem Py.below (h:Py w B g k n0 n1 At ct Ar cr r0 r1) (hb:Bw w w'):Py w' B g k n0 n1 At ct Ar cr r0 r1:=
 ⟨(hb.block _ h.lt).trans h.cells,h.tags.imp id fun⟨e,h⟩=>⟨e,h.below hb⟩,h.rows.below hb,h.row0.below hb,h.Oe.below hb,h.own⟩
/-- A row is put into its place. -/
theorem Py.put (h:Py w B g k n0 n1 At ct Ar cr r0 r1) {w7:World} (hb:Bw w w7) {v:Value} {ns:List Nat} (hv:nM w7 B v ns) {b o:Nat} (hA:Ar=some ⟨b,o,none⟩) (i:Nat) (hi:i<2):
  Py (w7.setCell ⟨b,o+i,none⟩ v) B g k (if i=0 then ns else n0) (if i=0 then n1 else ns) At ct Ar cr (if i=0 then v else r0) (if i=0 then r1 else v)∧Below B w (w7.setCell ⟨b,o+i,none⟩ v):=by
 have h7:=h.below hb
 subst hA
 obtain⟨cur,hc⟩:=au h7.rows (k:=b) rfl
 have hF:=(Fr.refl (fun q=>q=b) w7).setCell (p:=⟨b,o+i,none⟩) (fun _=>rfl) v
 have hrows:=(h7.rows.setAt v (k:=i) (by simpa using hi)).2
 have e1:[r0,r1].set i v=[if i=0 then v else r0,if i=0 then r1 else v]:=by
  have:i=0∨i=1:=by omega
  rcases this with e | e<;>subst e<;>rfl
 rw[e1] at hrows
 have hgb:g≠b:=fun e=>by subst e;exact absurd (ak h7.cells hc) (by decide)
 have hbB:=(ah.lt h7.rows b rfl).1
 refine⟨⟨(hF.block _ h7.lt hgb).trans h7.cells,h7.tags.imp id fun⟨e,ht⟩=>⟨e,ah.kept ht hF fun q hq x=>by obtain⟨cur',hc'⟩:=au ht hq;subst x;exact absurd (ak hc' hc) (by decide)⟩,hrows,?_,?_,h.own⟩,(hb.mono ?_).trans (hF.below (B:=B) (by have:=h7.lt;have:=h.own;omega) fun q _ e=>by subst e;exact hbB)⟩
 ·split
  ·exact hv.kept hc (by decide) (by decide) hF
  ·exact h7.row0.kept hc (by decide) (by decide) hF
 ·split
  ·exact h7.Oe.kept hc (by decide) (by decide) hF
  ·exact hv.kept hc (by decide) (by decide) hF
 ·have:=h.lt;have:=h.own;omega
theorem add_w (h:Py w B g k n0 n1 At ct Ar cr r0 r1) (A:Option Addr) (n c:Nat) (hx:LB w B (.slice A n c) n) (hl:n0.length≤100∧n1.length≤100):
 Cl 230 #[pt g,.slice A n c] w fun e w'=>e=.returned (.tuple #[])∧∃r0' r1',Py w' B g k (if k=0 then n0++[n] else n0) (if k=0 then n1 else n1++[n]) At ct Ar cr r0' r1'∧Below B w w':=by
 have hk2:k<2:=by rcases h.tags with e | e<;>omega
 obtain⟨b,o,cq,e,hbB,hbl,hcr⟩:=ah.cells h.rows (by simp)
 cases e
 obtain⟨ri,sW⟩:∃ri,ri=if k=0 then r0 else r1:=⟨_,rfl⟩
 obtain⟨ns,hns⟩:∃ns,ns=if k=0 then n0 else n1:=⟨_,rfl⟩
 have hrow:nM w B ri ns:=by
  rw[sW,hns]
  split
  ·exact h.row0
  ·exact h.Oe
 have hnl:ns.length≤100:=by rw[hns];split<;>omega
 have hcell:w.cell? ⟨b,o+k,none⟩=some ri:=hcr k ri (by
  have:k=0∨k=1:=by omega
  rcases this with e | e<;>subst e<;>rw[sW]<;>rfl)
 obtain⟨ws,ho,hws,hwe⟩:=hrow
 obtain⟨Ai,ci,e,-⟩:=ho.form
 subst e
 have hfz:=(h.rows.setAt (.slice none 0 0) (k:=k) (by simpa using hk2)).1
 have KW:Hid (∀W,Bw w W→W.cell? ⟨g,1,none⟩=some (.slice (some ⟨b,o,none⟩) 2 cr)∧W.cell? ⟨b,o+k,none⟩=some (.slice Ai ns.length ci)∧W.cell? ⟨g,0,none⟩=some (.slice At k ct)):=Hj fun W hW=>
  ⟨Kq 1 (h.below hW).cells,Kz hW _ _ hcell,Kq 0 (h.below hW).cells⟩
 have KF:Hid (∀W,Bw w W→W.frozen? ⟨b,o+k,none⟩=false):=Hj fun W hW=>((h.below hW).rows.setAt (.slice none 0 0) (k:=k) (by simpa using hk2)).1
 have KS:Hid (∀W,Bw w W→Src Tryz.prog 1 130 (.slice Ai ns.length ci) ns.length (ws.map fun x=>x.2) W):=Hj fun W hW=>yS (ho.below hW) fun x hx=>by
  obtain⟨y,hy,rfl⟩:=bW.1 hx
  obtain⟨A',c',_,e,_⟩:=(hwe y hy).form
  exact⟨_,_,_,e⟩
 have HP:Hid (∀W v,Bw w W→ah W w.heap.size 35 1 v (ns.length+1) ((ws.map fun x=>x.2)++[.slice A n c])→∃r0' r1',Py (W.setCell ⟨b,o+k,none⟩ v) B g k (if k=0 then n0++[n] else n0) (if k=0 then n1 else n1++[n]) At ct (some ⟨b,o,none⟩) cr r0' r1'∧Below B w (W.setCell ⟨b,o+k,none⟩ v)):=Hj fun W v hW hv=>by
  have hR:nM W B v (ns++[n]):=by
   refine⟨ws++[(n,.slice A n c)],?_,by rw[dI,hws];rfl,fun x hx'=> ?_⟩
   ·rw [bP,dI]
    exact hv.mono fun q hq=>by have:=(hv.lt q hq).1;have:=h.lt;have:=h.own;omega
   ·rcases iO.1 hx' with hx' | hx'
    ·exact (hwe x hx').below hW
    ·rw [iq.1 hx'];exact hx.below hW
  obtain⟨z1,z2⟩:=h.put hW hR rfl k hk2
  refine⟨if k=0 then v else r0,if k=0 then r1 else v,?_,z2⟩
  rw[hns] at z1
  by_cases e:k=0
  ·simp only[if_pos e] at z1 ⊢;exact z1
  ·simp only[if_neg e] at z1 ⊢;exact z1
 have k0:(0:Int)≤(k:Int):=by omega
 have k1:(k:Int)<2:=by omega
 have k2:¬(2:Int)≤(k:Int):=by omega
 have HN:=Hj hnl
 obtain⟨x1,x2,x0⟩:=KW.out w (aj _ _)
 clear h hx hl hcr hcell hws hwe ho hfz hns sW hk2 hnl
 generalize ns.length=N at*
 go_enter Tryz.func230,Tryz.ntmps230
 go_wp2
 go_loopg [5] 0 (fun _ s5 wr=>∃j,wr=w.drewN j)
 case atStart=>exact⟨0,rfl⟩
 case round=>
  obtain⟨j,rfl⟩:=hrel
  go_wp2
  go_quiet (fail)
  go_wp2
  have HD:Hid (Bw w (w.drewN (j+nq))):=Hj (below_drewN (aj _ _) _)
  generalize w.drewN (j+nq)=wd at*
  obtain⟨d1,d2,d0⟩:=KW.out wd HD.out
  have e1:=fun o=>(KW.out (wd.alloc o) (HD.out.alloc HD.out.size o)).1
  have e2:=fun o=>(KW.out (wd.alloc o) (HD.out.alloc HD.out.size o)).2.1
  have f1:=fun o o'=>(KW.out ((wd.alloc o).alloc o') ((HD.out.alloc HD.out.size o).alloc (Cz HD.out.size (by simp)) o')).1
  have f2:=fun o o'=>(KW.out ((wd.alloc o).alloc o') ((HD.out.alloc HD.out.size o).alloc (Cz HD.out.size (by simp)) o')).2.1
  go_region_law (first
   | (refine iw rfl (.tmp 35) (.tmp 42) (by rfl) (oN (w:=(wd.alloc (.cells #[] 35)).drew) (q:=wd.heap.size) (base:=wd.heap.size) (aA wd _) (by omega)) (by rfl) (KS.out _ (HD.out.trans ((aJ ((aj _ wd).alloc Kv _)).mono HD.out.size))) (by rfl) (by have:=HN.out;omega) (by simp) ?_;intro v7 w7 aU cu;rw[dV,fP] at aU;obtain⟨A7,c7,rfl,-,-⟩:=aU.form;have B7:Hid (Bw wd w7):=Hj (dH (aJ ((aj _ wd).alloc Kv _)) cu (by omega));obtain⟨y1,y2,y0⟩:=KW.out w7 (HD.out.trans (B7.out.mono HD.out.size));have O7:=Hj aU;have z1:=fun o=>(KW.out (w7.alloc o) (HD.out.trans ((B7.out.alloc B7.out.size o).mono HD.out.size))).1;have z2:=fun o=>(KW.out (w7.alloc o) (HD.out.trans ((B7.out.alloc B7.out.size o).mono HD.out.size))).2.1;clear aU cu)
   | (refine iw rfl (.tmp 35) (.tmp 42) (by rfl) (oN (w:=((wd.alloc (.cells #[] 35)).alloc (.cells #[.slice A n c] 35)).drew) (q:=wd.heap.size) (base:=wd.heap.size) (aP wd (.cells #[] 35) (.cells #[.slice A n c] 35)).1 (by omega)) (by rfl) (KS.out _ (HD.out.trans ((aJ (aP wd (.cells #[] 35) (.cells #[.slice A n c] 35)).2.2).mono HD.out.size))) (by rfl) (by have:=HN.out;omega) (by simp;omega) ?_;intro v7 w7 aU cu;rw[dV,fP] at aU;obtain⟨A7,c7,rfl,-,-⟩:=aU.form;have B7:Hid (Bw wd w7):=Hj (dH (aJ (aP wd (.cells #[] 35) (.cells #[.slice A n c] 35)).2.2) cu (by omega));obtain⟨y1,y2,y0⟩:=KW.out w7 (HD.out.trans (B7.out.mono HD.out.size));have O7:=Hj aU;have z1:=fun o=>(KW.out (w7.alloc o) (HD.out.trans ((B7.out.alloc B7.out.size o).mono HD.out.size))).1;have z2:=fun o=>(KW.out (w7.alloc o) (HD.out.trans ((B7.out.alloc B7.out.size o).mono HD.out.size))).2.1;have X7:=Hj (yT (cp:=1) (kP (wa:=((wd.alloc (.cells #[] 35)).alloc (.cells #[.slice A n c] 35)).drew) (aP wd (.cells #[] 35) (.cells #[.slice A n c] 35)).2.1 cu (by omega)));clear aU cu)
   | (refine iw rfl (.tmp 35) (.tmp 42) (by rfl) (oN (w:=((wd.alloc (.cells #[.slice A n c] 35)).alloc (.cells #[] 35)).drew) (q:=wd.heap.size+1) (base:=wd.heap.size) (aP wd (.cells #[.slice A n c] 35) (.cells #[] 35)).2.1 (by omega)) (by rfl) (KS.out _ (HD.out.trans ((aJ (aP wd (.cells #[.slice A n c] 35) (.cells #[] 35)).2.2).mono HD.out.size))) (by rfl) (by have:=HN.out;omega) (by simp;omega) ?_;intro v7 w7 aU cu;rw[dV,fP] at aU;obtain⟨A7,c7,rfl,-,-⟩:=aU.form;have B7:Hid (Bw wd w7):=Hj (dH (aJ (aP wd (.cells #[.slice A n c] 35) (.cells #[] 35)).2.2) cu (by omega));obtain⟨y1,y2,y0⟩:=KW.out w7 (HD.out.trans (B7.out.mono HD.out.size));have O7:=Hj aU;have z1:=fun o=>(KW.out (w7.alloc o) (HD.out.trans ((B7.out.alloc B7.out.size o).mono HD.out.size))).1;have z2:=fun o=>(KW.out (w7.alloc o) (HD.out.trans ((B7.out.alloc B7.out.size o).mono HD.out.size))).2.1;have X7:=Hj (yT (cp:=1) (kP (wa:=((wd.alloc (.cells #[.slice A n c] 35)).alloc (.cells #[] 35)).drew) (aP wd (.cells #[.slice A n c] 35) (.cells #[] 35)).1 cu (by omega)));clear aU cu)
   | (refine iw rfl (.tmp 43) (.tmp 45) (by rfl) (O7.out.alloc _) (by rfl) (yT (cp:=1) (aA w7 _)) (by rfl) (by have:=HN.out;omega) (by have:=B7.out.size;simp;omega) ?_;intro v8 w8 dB kQ;obtain⟨A8,c8,rfl,-,-⟩:=dB.form;have B8:Hid (Bw w w8):=Hj (HD.out.trans (((B7.out.alloc B7.out.size _).grown kQ (by have:=B7.out.size;simp;omega) fun q hq=>(ah.lt O7.out q hq).1).mono HD.out.size));have O8:=Hj dB;obtain⟨u1,u2,u0⟩:=KW.out w8 B8.out;have uf:=KF.out w8 B8.out;clear dB kQ)
   | (refine iw rfl (.tmp 43) (.tmp 45) (by rfl) O7.out (by rfl) X7.out (by rfl) (by have:=HN.out;omega) B7.out.size ?_;intro v8 w8 dB kQ;obtain⟨A8,c8,rfl,-,-⟩:=dB.form;have B8:Hid (Bw w w8):=Hj (HD.out.trans ((B7.out.grown kQ B7.out.size fun q hq=>(ah.lt O7.out q hq).1).mono HD.out.size));have O8:=Hj dB;obtain⟨u1,u2,u0⟩:=KW.out w8 B8.out;have uf:=KF.out w8 B8.out;clear dB kQ)
   | fail)
  all_goals
   obtain⟨r0',r1',t1,t2⟩:=HP.out w8 _ B8.out (O8.out.mono fun q hq=>Cz HD.out.size (ah.lt O8.out q hq).1)
   exact bodyPost_end (fM rfl _ _ _) rfl ⟨rfl,r0',r1',t1,t2⟩
end
def rV (w:World) (B g k:Nat) (n0 n1:List Nat):Prop:=∃At ct Ar cr r0 r1,Py w B g k n0 n1 At ct Ar cr r0 r1
/-- The rows behind an element more. -/
def p0 (k n:Nat) (n0:List Nat):List Nat:=if k=0 then n0++[n] else n0
def p1 (k n:Nat) (n1:List Nat):List Nat:=if k=0 then n1 else n1++[n]
section
variable {w w':World} {B g k:Nat} {n0 n1:List Nat}
theorem rV.below (h:rV w B g k n0 n1) (hb:Bw w w'):rV w' B g k n0 n1:=let ⟨_,_,_,_,_,_,h⟩:=h;⟨_,_,_,_,_,_,h.below hb⟩
theorem rV.up (h:rV w B g k n0 n1):B≤w.heap.size:=by
 obtain⟨_,_,_,_,_,_,h⟩:=h
 have:=h.lt
 have:=h.own
 omega
theorem rV.err (h:rV w B g k n0 n1):w.cell? ⟨g,2,none⟩=some (.int .i64 0):=let ⟨_,_,_,_,_,_,h⟩:=h;Kq 2 h.cells
theorem add_n (h:rV w B g k n0 n1) (A:Option Addr) (n c:Nat) (hx:LB w B (.slice A n c) n) (hl:n0.length≤100∧n1.length≤100):
 Cl 230 #[pt g,.slice A n c] w fun e w'=>e=.returned (.tuple #[])∧rV w' B g k (p0 k n n0) (p1 k n n1)∧Below B w w':=by
 obtain⟨_,_,_,_,_,_,h⟩:=h
 refine(add_w h A n c hx hl).mono ?_
 rintro e w' ⟨rfl,r0',r1',z1,z2⟩
 exact⟨rfl,⟨_,_,_,_,_,_,z1⟩,z2⟩
theorem XM (h:rV w B g k n0 n1) (tag:Int) (ht0:0≤tag) (ht:tag<256) (A:Option Addr) (n c:Nat) (hb:LR w (.slice A n c) n) (hn:n≤65530) (hl:n0.length≤100∧n1.length≤100):
  Cl 229 #[pt g,.int .i64 tag,.slice A n c] w fun e w'=>e=.returned (.tuple #[])∧rV w' B g k (p0 k (dF n) n0) (p1 k (dF n) n1)∧Below B w w':=by
 have HP:=Hj (XK tag A n c w ht0 ht hb (by omega))
 have HA:=Hj fun W (hW:Bw w W) A' c' hx=>add_n (h.below hW) A' (dF n) c' hx hl
 have HB:=Hj h.up
 have q1:¬65530<(n:Int):=by omega
 clear h hb hl hn ht0 ht
 generalize dF n=E at*
 go_enter Tryz.func229,Tryz.ntmps229
 go_wp2_with (first
  | (go_at_call 125;((refine HP.out.mono ?_);rintro e w1 ⟨A1,c1,rfl,ho1,hb1⟩;have O1:=Hj (ho1.mono HB.out);have B1:=Hj hb1;clear ho1 hb1))
  | (go_at_call 230;((refine(HA.out w1 B1.out A1 c1 O1.out).mono ?_);rintro e w2 ⟨rfl,z1,z2⟩;have Z1:=Hj z1;have Z2:=Hj (Below.trans (B1.out.mono HB.out) z2);clear z1 z2))
  | fail)
 exact bodyPost_end (fM rfl _ _ _) rfl ⟨rfl,Z1.out,Z2.out⟩
theorem SC (kind:Int) (tag:Int) (hk:kind=3∧tag=2∨kind=4∧tag=10) (n:Nat) (hn:n<4611686018427387904) (w:World):
  Cl 231 #[.agg #[.int .i64 kind,.int .i64 (n:Int),.bool false,.slice none 0 0,.string ⟨#[]⟩]] w fun e w'=>∃A c,e=.returned (.tuple #[.int .i64 tag,.slice A (fK n) c,.int .i64 0])∧LR w' (.slice A (fK n) c) (fK n)∧Bw w w':=by
 have HP:=Hj fun W=>Sv n W hn
 clear hn
 obtain⟨z,hz⟩:∃z:Int,z=(n:Int):=⟨_,rfl⟩
 rw[←hz] at HP ⊢
 clear hz
 have B0:=Hj fun o=>(aj w.heap.size w).alloc Kv o
 generalize fK n=m at*
 rcases hk with ⟨rfl,rfl⟩ | ⟨rfl,rfl⟩
 all_goals
  go_enter Tryz.func231,Tryz.ntmps231
  go_wp2_with (first
   | (go_at_call 143;((refine(HP.out _).mono ?_);rintro e w1 ⟨A1,c1,rfl,ho1,hb1⟩;have O1:=Hj ho1.lr;have B1:=Hj ((B0.out _).trans (hb1.mono (by simp)));clear ho1 hb1))
   | fail)
  exact bg (results_tmp3 rfl _ _ _) rfl ⟨A1,c1,rfl,O1.out,B1.out⟩
theorem SE (A:Option Addr) (n c:Nat) (w:World):
  Cl 231 #[.agg #[.int .i64 6,.int .i64 0,.bool false,.slice A n c,.string ⟨#[]⟩]] w fun e w'=>e=.returned (.tuple #[.int .i64 4,.slice A n c,.int .i64 0])∧Bw w w':=by
 have B0:=Hj fun o=>(aj w.heap.size w).alloc Kv o
 have K:∀o,(w.alloc (.cells #[.int .i64 6,.int .i64 0,.bool false,.slice A n c,.string ⟨#[]⟩] o)).cell? ⟨w.heap.size,3,none⟩=some (.slice A n c):=fun o=>Kq 3 (aA w _)
 go_enter Tryz.func231,Tryz.ntmps231
 go_wp2
 go_quiet (fail)
 go_wp2
 exact bg (results_tmp3 rfl _ _ _) rfl ⟨rfl,below_drewN (B0.out _) _⟩
/-- A value that isn't an element's beginning or end. -/
theorem SG (h:rV w B g k n0 n1) (kind N tag:Int) (A:Option Addr) (m c n:Nat) (hk:¬kind=1∧¬kind=2∧¬kind=11) (ht0:0≤tag) (ht:tag<256)
  (hb:∀W,Bw w W→Cl 231 #[.agg #[.int .i64 kind,.int .i64 N,.bool false,.slice A m c,.string ⟨#[]⟩]] W fun e w'=>∃A' c',e=.returned (.tuple #[.int .i64 tag,.slice A' n c',.int .i64 0])∧LR w' (.slice A' n c') n∧Bw W w')
  (hn:n≤65530) (hl:n0.length≤100∧n1.length≤100):
  Cl 195 #[pt g,.agg #[.int .i64 kind,.int .i64 N,.bool false,.slice A m c,.string ⟨#[]⟩]] w fun e w'=>e=.returned (.tuple #[])∧rV w' B g k (p0 k (dF n) n0) (p1 k (dF n) n1)∧Below B w w':=by
 have HB:=Hj hb
 have HA:=Hj fun W (hW:Bw w W) A' c' hx=>XM (h.below hW) tag ht0 ht A' n c' hx hn hl
 have Jq:=Hj h.up
 have B0:=Hj fun o=>(aj w.heap.size w).alloc Kv o
 have K2:∀o,(w.alloc o).cell? ⟨g,2,none⟩=some (.int .i64 0):=fun o=>(h.below (B0.out o)).err
 obtain⟨k1,k2,k3⟩:=hk
 clear h hb hl hn ht0 ht
 generalize dF n=E at*
 go_enter Tryz.func195,Tryz.ntmps195
 go_wp2_with (first
  | (go_at_call 231;((refine(HB.out _ (B0.out _)).mono ?_);rintro e w1 ⟨A1,c1,rfl,ho1,hb1⟩;have O1:=Hj ho1;have B1:=Hj ((B0.out _).trans (hb1.mono (by simp)));clear ho1 hb1))
  | (go_at_call 229;((refine(HA.out w1 B1.out A1 c1 O1.out).mono ?_);rintro e w2 ⟨rfl,z1,z2⟩;have Z1:=Hj z1;have Z2:=Hj (Below.trans (B1.out.mono Jq.out) z2);clear z1 z2))
  | fail)
 exact bodyPost_end (fM rfl _ _ _) rfl ⟨rfl,Z1.out,Z2.out⟩
end
theorem gW {ops:Array Oper} {o:Oper} {a:Act} {w:World} {K:Act→World→Prop} {Q:Exit→Act→World→Prop} {E:Prop} (hgd:o.guard=none) (s x:Operand)
  (ho:o.op=.call {callee:=.builtin .append,args:=#[s,x],argTypes:=#[263,263]})
  {base:Nat} {v:Value} {n:Nat} {ws:List Value} (hown:ah w base 3 1 v n ws) (hs:a.eval s=v)
  {xv:Value} {m:Nat} {news:List Value} (hsrc:Src Tryz.prog 1 263 xv m news w) (hx:a.eval x=xv) (hbytes:n+m≤1000001) (hbase:base≤w.heap.size)
  (h:∀v' w',ah w' base 3 1 v' (n+m) (ws++news)→w.grownBy w' v.ownBlock→K (a.put o.dst v') w'):if Region.wanted o (yielded ops a.tmps)=true then Oper.wp Tryz.prog o a w K Q else E:=by
 have hw:Region.wanted o (yielded ops a.tmps)=true:=by simp[Region.wanted,hgd]
 rw[aF hw]
 obtain⟨i0,hi,hz0,hz1,hz2⟩:=info_parts FW
 exact fE s x 263 263 ho i0 _ 8 Tryz.underlying263 hi hz0 hz1 hz2 rfl (by omega) hs hown xv m news hx hsrc (by unfold maxLen;omega) (by omega) hbase fun v' w' h1 h2 _=>h v' w' h1 h2
theorem sS {w:World} {q base:Nat} (h:w.heap[q]?=some (.cells #[] 3 (0,0))) (hb:base≤q):ah w base 3 1 (.slice (some ⟨q,0,none⟩) 0 0) 0 []:=
 ⟨rfl,.inr ⟨_,0,0,#[],rfl,hb,h,bZ _,by unfold maxLen;omega,by simp,rfl⟩⟩
theorem zl {W:World} {q cp:Nat} {z:Int} (h:W.heap[q]?=some (.cells #[.int .i64 z] 3 (0,0))):Src Tryz.prog 1 263 (.slice (some ⟨q,0,none⟩) 1 cp) 1 [.int .i64 z] W:=
 Src.ofSlice _ Tryz.underlying263 _ _ cp _ rfl (fun j u hu=>mJ (cs:=#[.int .i64 z]) h j u hu) (fun u hu=>by rw[iq.1 hu];rfl)
theorem Og:(Tryz.prog.info? 130).map (fun i=>(i.zero,i.size,i.bytes))=some (some (.slice none 0 0),1,24):=by kernel_rfl
theorem sU {ops:Array Oper} {rest:List Oper} {o:Oper} {a:Act} {w:World} {Q:Exit→Act→World→Prop} (hgd:o.guard=none) (s x:Operand)
  (ho:o.op=.call {callee:=.builtin .append,args:=#[s,x],argTypes:=#[269,269]})
  {base:Nat} {v:Value} {n:Nat} {ws:List Value} (hown:ah w base 130 1 v n ws) (hs:a.eval s=v)
  {xv:Value} {m:Nat} {news:List Value} (hsrc:Src Tryz.prog 1 269 xv m news w) (hx:a.eval x=xv) (hbytes:n+m≤1000001) (hbase:base≤w.heap.size)
  (h:∀v' w',ah w' base 130 1 v' (n+m) (ws++news)→w.grownBy w' v.ownBlock→wpList Tryz.prog ops Q rest (a.put o.dst v') w'):wpList Tryz.prog ops Q (o::rest) a w:=by
 obtain⟨i0,hi,hz0,hz1,hz2⟩:=dO Og
 exact dw hgd s x 269 269 ho i0 _ 24 Tryz.underlying269 hi hz0 hz1 hz2 rfl (by omega) hs hown xv m news hx hsrc (by unfold maxLen;omega) (by omega) hbase fun v' w' h1 h2 _=>h v' w' h1 h2
theorem SH {W:World} {q cp:Nat} (h:W.heap[q]?=some (.cells #[.slice none 0 0] 130 (0,0))):Src Tryz.prog 1 269 (.slice (some ⟨q,0,none⟩) 1 cp) 1 [.slice none 0 0] W:=
 Src.ofSlice _ Tryz.underlying269 _ _ cp _ rfl (fun j u hu=>mJ (cs:=#[.slice none 0 0]) h j u hu) (fun u hu=>by rw[iq.1 hu];rfl)
theorem VR (w:World):Cl 189 #[.int .i64 48] w fun e w'=>e=.returned (.bool true)∧w=w':=by
 go_enter Tryz.func189,Tryz.ntmps189
 go_wp2
 go_ret
 exact⟨rfl,rfl⟩
/-- A writer whose rows are laid: so many of them. -/
structure VT (w0 w:World) (q:Nat) (bx:Array Value) (B g j:Nat) (Ar:Option Addr) (cr:Nat):Prop where
 cells:w.heap[g]?=some (.cells #[.slice none 0 0,.slice Ar j cr,.int .i64 0] 271 (0,0))
 rows:ah w B 130 1 (.slice Ar j cr) j (List.replicate j (.slice none 0 0))
 bel:Below B w0 w
 box:w.heap[q]?=some (.cells bx 200 (0,0))
theorem VT.lt {w0 w:World} {q:Nat} {bx:Array Value} {B g j:Nat} {Ar:Option Addr} {cr:Nat} (h:VT w0 w q bx B g j Ar cr):g<w.heap.size:=(Cq h.cells)
theorem VT.set {w0 w w7:World} {q:Nat} {bx:Array Value} {B g j n:Nat} {Ar A7:Option Addr} {cr c7:Nat} (h:VT w0 w q bx B g j Ar cr) (hg:B≤g) (hgr:(w.alloc (.cells #[.slice none 0 0] 130)).grownBy w7 (Value.slice Ar j cr).ownBlock) (hn:n=j+1) (ho:ah w7 B 130 1 (.slice A7 n c7) n (List.replicate j (.slice none 0 0)++[.slice none 0 0])):
  VT w0 (w7.setCell ⟨g,1,none⟩ (.slice A7 n c7)) q bx B g n A7 c7∧w7.cell? ⟨g,1,none⟩=some (.slice Ar j cr)∧w7.frozen? ⟨g,1,none⟩=false:=by
 subst hn
 have hne:∀k,(Value.slice Ar j cr).ownBlock=some k→k≠g:=fun k hk e=>by
  subst e
  obtain⟨cur,hc⟩:=au h.rows hk
  exact absurd (ak hc h.cells) (by decide)
 have hrow:w7.heap[g]?=some (.cells #[.slice none 0 0,.slice Ar j cr,.int .i64 0] 271 (0,0)):=(hgr.block g (by have:=h.lt;simp;omega) fun e=>hne g e.symm rfl).trans ((Below.heap_alloc w _ g h.lt).trans h.cells)
 have hF:=(Fr.refl (fun q=>q=g) w7).setCell (p:=⟨g,1,none⟩) (fun _=>rfl) (.slice A7 (j+1) c7)
 have hB:B≤w.heap.size:=by have:=h.lt;omega
 have h7:Below B w0 w7:=(h.bel.alloc hB _).grown hgr (by simp;omega) fun k hk=>(ah.lt h.rows k hk).1
 have hqg:q≠g:=fun e=>by
  have:=h.box
  rw[e] at this
  exact absurd (ak h.cells this) (by decide)
 have hqr:∀k,(Value.slice Ar j cr).ownBlock=some k→k≠q:=fun k hk e=>by
  subst e
  obtain⟨cur,hc⟩:=au h.rows hk
  exact absurd (ak hc h.box) (by decide)
 have hql:=(Cq h.box)
 have hbox:w7.heap[q]?=some (.cells bx 200 (0,0)):=(hgr.block q (by simp;omega) fun e=>hqr q e.symm rfl).trans ((Below.heap_alloc w _ q hql).trans h.box)
 refine⟨⟨aI _ g 1 _ _ _ hrow,?_,h7.trans (hF.below (B:=B) (by have:=hgr.size;simp at this;omega) fun q _ e=>by subst e;exact hg),(hF.block q (by have:=hgr.size;simp at this;omega) hqg).trans hbox⟩,Kq 1 hrow,Kj hrow⟩
 rw[List.replicate_succ']
 exact ah.kept ho hF fun k hk e=>by
  subst e
  obtain⟨cur,hc⟩:=au ho hk
  exact absurd (ak hc hrow) (by decide)
theorem VU (w:World) (B g:Nat) (hg:B≤g) (h:w.heap[g]?=some (.cells #[.slice none 0 0,.slice none 0 0,.int .i64 0] 271 (0,0))):
  Cl 195 #[pt g,.agg #[.int .i64 1,.int .i64 48,.bool false,.slice none 0 0,.string ⟨#[]⟩]] w fun e w'=>e=.returned (.tuple #[])∧rV w' B g 1 [] []∧Below B w w':=by
 have hlt:=(Cq h)
 obtain⟨w1,hw1⟩:∃W,W=w.alloc (.cells #[.int .i64 1,.int .i64 48,.bool false,.slice none 0 0,.string ⟨#[]⟩] 200):=⟨_,rfl⟩
 obtain⟨q,hq⟩:∃q,q=w.heap.size:=⟨_,rfl⟩
 have hrow:w1.heap[q]?=some (.cells #[.int .i64 1,.int .i64 48,.bool false,.slice none 0 0,.string ⟨#[]⟩] 200 (0,0)):=by rw[hw1,hq];exact aA w _
 have hbel:Bw w w1:=by rw[hw1];exact(aj _ w).alloc Kv _
 have h1:w1.heap[g]?=some (.cells #[.slice none 0 0,.slice none 0 0,.int .i64 0] 271 (0,0)):=(hbel.block g hlt).trans h
 have HR0:Hid (VT w w1 q #[.int .i64 1,.int .i64 48,.bool false,.slice none 0 0,.string ⟨#[]⟩] B g 0 none 0):=Hj ⟨h1,ah.nil _ _ _ _,hbel.mono (by omega),hrow⟩
 have HQ:=Hj (aB hrow (show B≤w1.heap.size by have:=hbel.size;omega))
 have HG:=Hj (aB hg (show q≠g∧B≤q by omega))
 have HC:=Hj (aB hw1 hq)
 have K2:∀o,(w.alloc o).cell? ⟨g,2,none⟩=some (.int .i64 0):=fun o=>Kq 2 (((aj _ w).alloc Kv o |>.block g hlt).trans h)
 have b1:w1.cell? ⟨q,1,none⟩=some (.int .i64 48):=Kq 1 hrow
 have c0:w1.cell? ⟨g,0,none⟩=some (.slice none 0 0):=Kq 0 h1
 clear h hlt hrow hbel h1 hg hw1 hq
 go_enter Tryz.func195,Tryz.ntmps195
 go_wp2_with (first
  | (go_at_call 189;(rw[←HC.out.1,←HC.out.2];(refine(VR w1).mono ?_);rintro e w2 ⟨rfl,rfl⟩))
  | fail)
 go_loopg [56] 2 (fun k s56 wr=>∃Ar cr j,j+k=2∧VT w wr q #[.int .i64 1,.int .i64 48,.bool false,.slice none 0 0,.string ⟨#[]⟩] B g j Ar cr)
 case atStart=>exact⟨_,_,0,rfl,HR0.out⟩
 case round=>
  obtain⟨Ar,cr,j,hj,hR⟩:=hrel
  have HJ:=Hj hj
  have HR:=Hj hR
  have c0:wr.cell? ⟨g,0,none⟩=some (.slice none 0 0):=Kq 0 hR.cells
  have c1:wr.cell? ⟨g,1,none⟩=some (.slice Ar j cr):=Kq 1 hR.cells
  have hb1:wr.cell? ⟨q,1,none⟩=some (.int .i64 48):=Kq 1 hR.box
  clear hR
  by_cases hlt:j<2
  ·have k1:(j:Int)≤1:=by omega
   have HL:=Hj hlt
   clear hlt hj
   go_wp2
   go_quiet (fail)
   have HR':Hid (VT w (wr.drewN nq) q #[.int .i64 1,.int .i64 48,.bool false,.slice none 0 0,.string ⟨#[]⟩] B g j Ar cr):=Hj ⟨HR.out.cells,HR.out.rows,below_drewN HR.out.bel _,HR.out.box⟩
   generalize wr.drewN nq=wd at*
   have d1:wd.cell? ⟨g,1,none⟩=some (.slice Ar j cr):=Kq 1 HR'.out.cells
   go_wp2_with (first
    | (at_builtin;(refine sU rfl (.tmp 72) (.tmp 73) (by rfl) (HR'.out.rows.alloc _) (by rfl) (SH (cp:=1) (aA wd _)) (by rfl) (by have:=HL.out;omega) (by have:=HR'.out.lt;have:=HG.out.1;simp;omega) ?_;intro v7 w7 aU cu;obtain⟨A7,c7,rfl,-,-⟩:=aU.form;obtain⟨z0,z1,z2⟩:=HR'.out.set HG.out.1 cu rfl aU;have Z0:=Hj z0;clear aU cu z0))
    | fail)
   go_roundg (gk-1)
   case measure=>have:=HJ.out;have:=HL.out;omega
   case rel=>exact⟨_,_,j+1,by have:=HJ.out;have:=HL.out;omega,Z0.out⟩
  ·obtain rfl:j=2:=by omega
   clear hj hlt HJ
   go_wp2
   go_quiet (fail)
   go_wp2
   have HR':Hid (VT w (wr.drewN nq) q #[.int .i64 1,.int .i64 48,.bool false,.slice none 0 0,.string ⟨#[]⟩] B g 2 Ar cr):=Hj ⟨HR.out.cells,HR.out.rows,below_drewN HR.out.bel _,HR.out.box⟩
   generalize wr.drewN nq=wd at*
   clear c0 c1 hb1 HR0 HR HQ
   have HB:=Hj (show B≤wd.heap.size by have:=HR'.out.lt;have:=HG.out.1;omega)
   have KW:Hid (∀W,Bw wd W→W.cell? ⟨g,0,none⟩=some (.slice none 0 0)∧W.cell? ⟨q,1,none⟩=some (.int .i64 48)):=Hj fun W hW=>
    ⟨Kq 0 ((hW.block g HR'.out.lt).trans HR'.out.cells),Kq 1 ((hW.block q (Cq HR'.out.box)).trans HR'.out.box)⟩
   have KF:Hid (∀W,Bw wd W→W.frozen? ⟨g,0,none⟩=false):=Hj fun W hW=>Kj ((hW.block g HR'.out.lt).trans HR'.out.cells)
   obtain⟨d1,d2⟩:=KW.out wd (aj _ _)
   have e1:=fun o=>(KW.out (wd.alloc o) ((aj _ _).alloc Kv o)).1
   have e2:=fun o=>(KW.out (wd.alloc o) ((aj _ _).alloc Kv o)).2
   have f1:=fun o o'=>(KW.out ((wd.alloc o).alloc o') (((aj _ _).alloc Kv o).alloc (by simp) o')).1
   have f2:=fun o o'=>(KW.out ((wd.alloc o).alloc o') (((aj _ _).alloc Kv o).alloc (by simp) o')).2
   go_region_law (first
   | (refine gW rfl (.tmp 78) (.tmp 82) (by rfl) (sS (w:=(wd.alloc (.cells #[] 3)).drew) (q:=wd.heap.size) (base:=wd.heap.size) (aA wd _) (by omega)) (by rfl) (Src.ofNil _ Tryz.underlying263 0) (by rfl) (by omega) (by simp) ?_;intro v7 w7 aU cu;rw[dV,fP] at aU;obtain⟨A7,c7,rfl,-,-⟩:=aU.form;have B7:Hid (Bw wd w7):=Hj (dH (aJ ((aj _ wd).alloc Kv _)) cu (by omega));obtain⟨y1,y2⟩:=KW.out w7 B7.out;have O7:=Hj aU;have z1:=fun o=>(KW.out (w7.alloc o) (B7.out.alloc B7.out.size o)).1;have z2:=fun o=>(KW.out (w7.alloc o) (B7.out.alloc B7.out.size o)).2;clear aU cu)
   | (refine gW rfl (.tmp 78) (.tmp 82) (by rfl) (sS (w:=((wd.alloc (.cells #[] 3)).alloc (.cells #[.int .i64 48] 3)).drew) (q:=wd.heap.size) (base:=wd.heap.size) (aP wd (.cells #[] 3) (.cells #[.int .i64 48] 3)).1 (by omega)) (by rfl) (Src.ofNil _ Tryz.underlying263 0) (by rfl) (by omega) (by simp;omega) ?_;intro v7 w7 aU cu;rw[dV,fP] at aU;obtain⟨A7,c7,rfl,-,-⟩:=aU.form;have B7:Hid (Bw wd w7):=Hj (dH (aJ (aP wd (.cells #[] 3) (.cells #[.int .i64 48] 3)).2.2) cu (by omega));obtain⟨y1,y2⟩:=KW.out w7 B7.out;have O7:=Hj aU;have z1:=fun o=>(KW.out (w7.alloc o) (B7.out.alloc B7.out.size o)).1;have z2:=fun o=>(KW.out (w7.alloc o) (B7.out.alloc B7.out.size o)).2;have X7:=Hj (zl (cp:=1) (kP (wa:=((wd.alloc (.cells #[] 3)).alloc (.cells #[.int .i64 48] 3)).drew) (aP wd (.cells #[] 3) (.cells #[.int .i64 48] 3)).2.1 cu (by omega)));clear aU cu)
   | (refine gW rfl (.tmp 78) (.tmp 82) (by rfl) (sS (w:=((wd.alloc (.cells #[.int .i64 48] 3)).alloc (.cells #[] 3)).drew) (q:=wd.heap.size+1) (base:=wd.heap.size) (aP wd (.cells #[.int .i64 48] 3) (.cells #[] 3)).2.1 (by omega)) (by rfl) (Src.ofNil _ Tryz.underlying263 0) (by rfl) (by omega) (by simp;omega) ?_;intro v7 w7 aU cu;rw[dV,fP] at aU;obtain⟨A7,c7,rfl,-,-⟩:=aU.form;have B7:Hid (Bw wd w7):=Hj (dH (aJ (aP wd (.cells #[.int .i64 48] 3) (.cells #[] 3)).2.2) cu (by omega));obtain⟨y1,y2⟩:=KW.out w7 B7.out;have O7:=Hj aU;have z1:=fun o=>(KW.out (w7.alloc o) (B7.out.alloc B7.out.size o)).1;have z2:=fun o=>(KW.out (w7.alloc o) (B7.out.alloc B7.out.size o)).2;have X7:=Hj (zl (cp:=1) (kP (wa:=((wd.alloc (.cells #[.int .i64 48] 3)).alloc (.cells #[] 3)).drew) (aP wd (.cells #[.int .i64 48] 3) (.cells #[] 3)).1 cu (by omega)));clear aU cu)
   | (refine gW rfl (.tmp 83) (.tmp 86) (by rfl) (O7.out.alloc _) (by rfl) (zl (cp:=1) (aA w7 _)) (by rfl) (by omega) (by have:=B7.out.size;simp;omega) ?_;intro v8 w8 dB kQ;rw[dV,fP] at dB;obtain⟨A8,c8,rfl,-,-⟩:=dB.form;have B8:Hid (Bw wd w8):=Hj ((B7.out.alloc B7.out.size _).grown kQ (by have:=B7.out.size;simp;omega) fun q hq=>(ah.lt O7.out q hq).1);have O8:=Hj dB;obtain⟨u1,u2⟩:=KW.out w8 B8.out;have uf:=KF.out w8 B8.out;clear dB kQ)
   | (refine gW rfl (.tmp 83) (.tmp 86) (by rfl) O7.out (by rfl) X7.out (by rfl) (by omega) B7.out.size ?_;intro v8 w8 dB kQ;rw[dV,fP] at dB;obtain⟨A8,c8,rfl,-,-⟩:=dB.form;have B8:Hid (Bw wd w8):=Hj (B7.out.grown kQ B7.out.size fun q hq=>(ah.lt O7.out q hq).1);have O8:=Hj dB;obtain⟨u1,u2⟩:=KW.out w8 B8.out;have uf:=KF.out w8 B8.out;clear dB kQ)
   | fail)
   all_goals
    have L6:=(B8.out.block g HR'.out.lt).trans HR'.out.cells
    have XO:=aI w8 g 0 _ _ (.slice A8 1 c8) L6
    have hF9:=(Fr.refl (fun q=>q=g) w8).setCell (p:=⟨g,0,none⟩) (fun _=>rfl) (.slice A8 1 c8)
    have hT9:ah (w8.setCell ⟨g,0,none⟩ (.slice A8 1 c8)) B 3 1 (.slice A8 1 c8) 1 [.int .i64 48]:=(ah.kept O8.out hF9 fun k hk e=>by
     subst e
     obtain⟨cur,hc⟩:=au O8.out hk
     exact absurd (ak hc L6) (by decide)).mono fun k hk=>Cz HB.out (ah.lt O8.out k hk).1
    have hR9:ah (w8.setCell ⟨g,0,none⟩ (.slice A8 1 c8)) B 130 1 (.slice Ar 2 cr) 2 (List.replicate 2 (.slice none 0 0)):=ah.kept (HR'.out.rows.below B8.out) hF9 fun k hk e=>by
     subst e
     obtain⟨cur,hc⟩:=au (HR'.out.rows.below B8.out) hk
     exact absurd (ak hc L6) (by decide)
    have hB9:Below B w (w8.setCell ⟨g,0,none⟩ (.slice A8 1 c8)):=(HR'.out.bel.trans (B8.out.mono HB.out)).trans (hF9.below (B:=B) (Cz HB.out B8.out.size) fun q _ e=>by subst e;exact HG.out.1)
    have mg:(w8.setCell ⟨g,0,none⟩ (.slice A8 1 c8)).heap[g]?=some (.cells #[.slice A8 1 c8,.slice Ar 2 cr,.int .i64 0] 271 (0,0)):=XO
    clear L6 XO hF9
    obtain⟨w9,Uu⟩:∃W,W=w8.setCell ⟨g,0,none⟩ (.slice A8 1 c8):=⟨_,rfl⟩
    rw[←Uu] at hT9 hR9 hB9 mg ⊢
    clear Uu d1 d2 e1 e2 f1 f2 KW KF O8 B8 u1 u2 uf
    have x0:w9.cell? ⟨g,0,none⟩=some (.slice A8 1 c8):=Kq 0 mg
    have x1:w9.cell? ⟨g,1,none⟩=some (.slice Ar 2 cr):=Kq 1 mg
    obtain⟨b,o,cb,eb,hbB,hbl,hbc⟩:=ah.cells hR9 (by simp)
    cases eb
    have y0:=hbc 1 (.slice none 0 0) rfl
    obtain⟨yf,yO⟩:=hR9.setAt (.slice none 0 0) (k:=1) (by simp)
    have HW:Hid (rV (w9.setCell ⟨b,o+1,none⟩ (.slice none 0 0)) B g 1 [] []∧Below B w (w9.setCell ⟨b,o+1,none⟩ (.slice none 0 0))):=by
     obtain⟨cur,hc⟩:=au hR9 (k:=b) rfl
     have hF:=(Fr.refl (fun q=>q=b) w9).setCell (p:=⟨b,o+1,none⟩) (fun _=>rfl) (.slice none 0 0)
     have hgb:g≠b:=fun e=>by subst e;exact absurd (ak mg hc) (by decide)
     refine⟨⟨A8,c8,_,cr,.slice none 0 0,.slice none 0 0,⟨(hF.block g (Cq mg) hgb).trans mg,.inr ⟨rfl,ah.kept hT9 hF fun k hk e=> ?_⟩,yO,nM.nil _ _,nM.nil _ _,HG.out.1⟩⟩,hB9.trans (hF.below (B:=B) (by have:=HB.out;have:=hB9.size;have:=(Cq mg);have:=HG.out.1;omega) fun q _ e=>by subst e;exact hbB)⟩
     subst e
     obtain⟨cur',hc'⟩:=au hT9 hk
     exact absurd (ak hc' hc) (by decide)
    obtain⟨z0,z1⟩:(w9.setCell ⟨b,o+1,none⟩ (.slice none 0 0)).drew.cell? ⟨g,0,none⟩=some (.slice A8 1 c8)∧(w9.setCell ⟨b,o+1,none⟩ (.slice none 0 0)).drew.cell? ⟨g,1,none⟩=some (.slice (some ⟨b,o,none⟩) 2 cr):=by
     obtain⟨cur,hc⟩:=au hR9 (k:=b) rfl
     have hF:=(Fr.refl (fun q=>q=b) w9).setCell (p:=⟨b,o+1,none⟩) (fun _=>rfl) (.slice none 0 0)
     have hgb:g≠b:=fun e=>by subst e;exact absurd (ak mg hc) (by decide)
     have hr:=(hF.block g (Cq mg) hgb).trans mg
     exact⟨bT (w9.setCell ⟨b,o+1,none⟩ (.slice none 0 0)) _ 0 _ _ _ hr,bT (w9.setCell ⟨b,o+1,none⟩ (.slice none 0 0)) _ 1 _ _ _ hr⟩
    clear hT9 hR9 hB9 mg hbc yO hbl hbB
    go_wp2
    go_region_held3 (fun w'=>w'.cell? ⟨g,0,none⟩=some (.slice A8 1 c8)∧w'.cell? ⟨g,1,none⟩=some (.slice (some ⟨b,o,none⟩) 2 cr)) (first | exact⟨by assumption,by assumption⟩ | go_keep) (fail)
    all_goals
     go_wp2
     exact bodyPost_end (fM rfl _ _ _) rfl ⟨rfl,HW.out.1.below (aJ (aj _ _)),aJ HW.out.2⟩
end Go.Proofs.YtdhbpajamlfacaaGreatDoor
