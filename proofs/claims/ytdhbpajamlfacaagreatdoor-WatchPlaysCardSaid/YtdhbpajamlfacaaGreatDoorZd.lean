/- Layer 21 (watch), the document's: Sync, along the events. -/
import Derived.Test.YtdhbpajamlfacaaGreatDoorZc
import Derived.Test.YtdhbpajamlfacaaGreatDoorWm
set_option maxHeartbeats 8000000
set_option maxRecDepth 100000
namespace Go.Proofs.YtdhbpajamlfacaaGreatDoor
open Go.RowKit SO
def pk (x:OV×aC):ByteArray:=ig x.1
def yK (kind:Int) (space:ByteArray) (all:Bool) (K:List (OV×aC)) (y:Bool×(OV×aC)):List (OV×aC):=if iW kind space all y.2.1=true then (if y.1=true then wo pk (pk y.2) K else wi pk y.2 K) else K
def yL (d:Bool) (kind:Int) (space:ByteArray) (all:Bool) (l:List (OV×aC)) (y:Bool×(OV×aC)):List (OV×aC):=if iW kind space all y.2.1=true∧y.1=d then l++[y.2] else l
theorem TU {α:Type} (f:α→ByteArray) (v x:α) (s:Bool×List α):(PE v (rD f v s x)).length=(PE v s).length+1:=by
 obtain⟨d,l⟩:=s
 unfold rD PE
 cases d with
 | true=>simp
 | false=>by_cases h:aS (f v) (f x)=true<;>simp[h]
theorem Df {α:Type} (f:α→ByteArray) (v:α) (l:List α):(wi f v l).length≤l.length+1:=by
 have h1:∀(l:List α) (s:Bool×List α),(PE v (l.foldl (rD f v) s)).length=(PE v s).length+l.length:=by
  intro l
  induction l with
  | nil=>exact fun s=>rfl
  | cons x l ih=>exact fun s=>by rw[lC,ih,TU,qV];omega
 have h2:(wo f (f v) l).length≤l.length:=kZ _ _
 have h3:=h1 (wo f (f v) l) (false,[])
 have h4:(PE v ((false,[]):Bool×List α)).length=1:=rfl
 unfold wi
 omega
section
variable {kind:Int} {space:ByteArray} {all:Bool}
theorem J4:∀(l:List (Bool×(OV×aC))) (K:List (OV×aC)),(l.foldl (yK kind space all) K).length≤K.length+l.length
 | [],K=>bZ _
 | y::l,K=>by
  have h1:=J4 l (yK kind space all K y)
  have h2:(yK kind space all K y).length≤K.length+1:=by
   unfold yK
   split
   ·split
    ·exact Cz (kZ _ _) (Nat.le_succ _)
    ·exact Df _ _ _
   ·omega
  rw[lC,qV]
  omega
theorem TV:∀(l:List (Bool×(OV×aC))) (K:List (OV×aC)),∀x∈l.foldl (yK kind space all) K,x∈K∨∃y∈l,x=y.2
 | [],K,x,h=>.inl h
 | y::l,K,x,h=>by
  rcases TV l _ x h with h | ⟨z,h1,h2⟩
  ·unfold yK at h
   split at h
   ·split at h
    ·exact .inl (jB.1 h).1
    ·rcases vT h with h | h
     ·exact .inr ⟨y,by simp,h⟩
     ·exact .inl h
   ·exact .inl h
  ·exact .inr ⟨z,gK _ h1,h2⟩
theorem J5 (d:Bool):∀(l:List (Bool×(OV×aC))) (q:List (OV×aC)),(l.foldl (yL d kind space all) q).length≤q.length+l.length
 | [],q=>bZ _
 | y::l,q=>by
  have h1:=J5 d l (yL d kind space all q y)
  have h2:(yL d kind space all q y).length≤q.length+1:=by
   unfold yL
   split<;>simp
  rw[lC,qV]
  omega
end
section
variable {w ws W:World} {Z':Nat→Prop} {gs gl gy gr cur Z rev:Nat} {av ev kv pv dv c0 c1 c2:Value} {xs:List (OV×aC)} {ys:List (Bool×(OV×aC))} {M:bQ} {kind:Int} {space:ByteArray} {all an:Bool} {ko po dq:List (OV×aC)}
theorem zO:(Tryz.prog.info? 59).map (·.size)=some 3:=by kernel_rfl
/-- The end of a Sync. -/
theorem X0 (hr:vU W gy kind space all kv cur) (hk:OL W 0 kv (ko.map Prod.fst)) (hp:OL W ws.heap.size pv (po.map Prod.fst)) (hd:OL W ws.heap.size dv (dq.map Prod.fst)) (hf:Fr (fun k=>k=gy) ws W) (hz:W.heap[Z]?=some (.cells #[c0,c1,c2] 59 (0,0))) (hZ:Z<ws.heap.size) (hb:Below Z w ws) (hw:w.heap.size≤Z) (wf:World) (hwf:wf=(((W.setCell ⟨gy,4,none⟩ (.int .i64 (rev:Int))).setCell ⟨Z,0,none⟩ (.bool an)).setCell ⟨Z,1,none⟩ pv).setCell ⟨Z,2,none⟩ dv):
  vU wf gy kind space all kv rev∧OL wf 0 kv (ko.map Prod.fst)∧OL wf w.heap.size pv (po.map Prod.fst)∧OL wf w.heap.size dv (dq.map Prod.fst)∧wf.heap[Z]?=some (.cells #[.bool an,pv,dv] 59 (0,0))∧Fr (fun k=>k=gy) w wf:=by
 obtain⟨W1,hW1⟩:∃W1,W1=W.setCell ⟨gy,4,none⟩ (.int .i64 (rev:Int)):=⟨_,rfl⟩
 have hne:Z≠gy:=fun e=>by subst e;exact absurd (ak hz hr) (by decide)
 have f1:Fr (fun k=>k=gy) W W1:=by rw[hW1];exact(Fr.refl (fun k=>k=gy) W).setCell (p:=⟨gy,4,none⟩) (fun _=>rfl) _
 have r1:vU W1 gy kind space all kv rev:=by rw[hW1];exact aI _ _ 4 _ _ _ hr
 have z1:=(f1.block Z (Cq hz) hne).trans hz
 rw[←hW1] at hwf
 have f2:Fr (fun k=>k=Z) W1 wf:=by rw[hwf];exact(((Fr.refl (fun k=>k=Z) W1).setCell (p:=⟨Z,0,none⟩) (fun _=>rfl) _).setCell (p:=⟨Z,1,none⟩) (fun _=>rfl) _).setCell (p:=⟨Z,2,none⟩) (fun _=>rfl) _
 have hG:Fr (fun k=>k=gy∨k=Z) W wf:=(f1.mono fun _ _ h=>.inl h).trans f2 fun _ _ h=>.inr h
 have ho:∀{b:Nat} {v:Value} {l:List OV},OL W b v l→OL wf b v l:=fun ho=>ah.kept ho hG fun k hk e=>by
  rcases e with e | e
  ·exact fH ho hk (by rw[e];exact hr) (by decide)
  ·exact fH ho hk (by rw[e];exact hz) (by decide)
 have hs:=hb.size
 have hm:∀{v:Value} {l:List OV},OL W ws.heap.size v l→OL wf w.heap.size v l:=fun hv=>(ho hv).mono fun k hk=>by have:=(ah.lt hv k hk).1;omega
 refine⟨(f2.block gy (Cq r1) (fun e=>hne e.symm)).trans r1,ho hk,hm hp,hm hd,by rw[hwf];exact st3 z1,?_⟩
 have hA:Fr (fun k=>k=gy) w ws:=Fr.of_below (hb.mono hw)
 exact(hA.trans hf fun _ _ x=>x).trans hG fun i hi e=>e.elim id fun e=>by omega
theorem WJ (g o n:Nat):Addr.add ⟨g,o,none⟩ n=⟨g,o+n,none⟩:=by
 unfold Addr.add
 split
 ·rename_i h;rw[h];rfl
 ·rfl
theorem Evs21 (h:RV w Z' gs gl av ev xs ys M) (hok:M.Ok) (hr:vU w gy kind space all kv cur) (hk:OL w 0 kv (ko.map Prod.fst)) (hc:M.base≤cur) (hc2:cur≤M.rev) (hcm:cur≤1000000) (hyl:ys.length≤1000) (hkl:ko.length≤1000) (hs:(∀x∈ko,zZ x.1)∧∀y∈ys,zZ y.2.1):
  Cl 19 #[pt gy,pt gs] w fun e w'=>∃kv' pv dv,e=.returned (.tuple #[.agg #[.bool false,pv,dv],.int .i64 0])∧vU w' gy kind space all kv' M.rev∧OL w' 0 kv' (((ys.drop (cur-M.base)).foldl (yK kind space all) ko).map Prod.fst)∧OL w' w.heap.size pv (((ys.drop (cur-M.base)).foldl (yL false kind space all) []).map Prod.fst)∧OL w' w.heap.size dv (((ys.drop (cur-M.base)).foldl (yL true kind space all) []).map Prod.fst)∧Fr (fun k=>k=gy) w w'∧(kv'=kv∨∀k,kv'.ownBlock=some k→w.heap.size≤k):=by
 obtain⟨Ae,ce,hev,hle,hlm⟩:=ah.form h.evs
 have Us:=Hj (aB hle hlm)
 have hel:=h.evs
 subst hev
 obtain⟨Ak,ck,hkv,-,-⟩:=ah.form hk
 rw[aX] at hkv
 subst hkv
 have KC:Hid (∀W,Bw w W→W.cell? ⟨gy,4,none⟩=some (.int .i64 (cur:Int))∧W.cell? ⟨gs,2,none⟩=some (.int .i64 (M.rev:Int))∧W.cell? ⟨gs,3,none⟩=some (.int .i64 (M.base:Int))∧W.cell? ⟨gs,4,none⟩=some (.slice Ae ys.length ce)):=Hj fun W hW=>
  ⟨Kz hW _ _ (Kq 4 hr),Kz hW _ _ (Kq 2 h.cells),Kz hW _ _ (Kq 3 h.cells),Kz hW _ _ (Kq 4 h.cells)⟩
 have HGs:Hid (∀W,Fr (fun k=>k=gy) w W→W.cell? ⟨gs,2,none⟩=some (.int .i64 (M.rev:Int))):=Hj fun W hW=>Kq 2 ((hW.block gs h.lt fun e=>absurd (ak (by rw[←e];exact h.cells) hr) (by decide)).trans h.cells)
 have hnum:=hok.num
 have hyn:ys.length=M.evs.length:=by have:=bJ List.length h.IE;simpa using this.symm
 obtain⟨w1,hw1⟩:∃W,W=w.alloc (.cells #[.bool false,.slice none 0 0,.slice none 0 0] 59):=⟨_,rfl⟩
 have hb1:Bw w w1:=by rw[hw1];exact(aj _ _).alloc Kv _
 obtain⟨c4,c2',c3,Xc⟩:=KC.out w1 hb1
 have q1:¬(M.rev:Int)<(cur:Int):=by omega
 have q2:¬(cur:Int)<(M.base:Int):=by omega
 have hz2:∀n,((w1.drewN n).alloc (.cells #[.bool false,.slice none 0 0,.slice none 0 0] 59)).heap[w1.heap.size]?=some (.cells #[.bool false,.slice none 0 0,.slice none 0 0] 59 (0,0)):=fun n=>by simpa using aA (w1.drewN n) (.cells #[.bool false,.slice none 0 0,.slice none 0 0] 59)
 have z0:=fun n=>Kq 0 (hz2 n)
 have z1:=fun n=>Kq 1 (hz2 n)
 have z2:=fun n=>Kq 2 (hz2 n)
 have zf:=fun n j=>kH _ _ j _ _ (hz2 n)
 have HZ2:=Hj hz2
 have HW1:=Hj (aB hw1 hr)
 have HB1:=Hj hb1
 have HK0:=Hj hk
 have PX:=Hj hel
 have HN:Hid (M.rev=M.base+ys.length∧M.base≤cur∧cur≤M.rev∧cur≤1000000∧ys.length≤1000∧ko.length≤1000):=Hj ⟨by omega,hc,hc2,hcm,hyl,hkl⟩
 have PI:=Hj hs
 clear hw1 hb1 hz2 hk hel hs hnum hyn h hok hr hc hc2 hcm hyl hkl
 go_enter Tryz.func19,Tryz.ntmps19
 go_wp2
 rw[←HW1.out.1]
 go_quiet (fail)
 go_wp2
 obtain⟨w2,hw2⟩:∃W,W=((((w1.drewN nq).alloc (.cells #[.bool false,.slice none 0 0,.slice none 0 0] 59)).setCell ⟨w1.heap.size,0,none⟩ (.bool false)).setCell ⟨w1.heap.size,1,none⟩ (.slice none 0 0)).setCell ⟨w1.heap.size,2,none⟩ (.slice none 0 0):=⟨_,rfl⟩
 have R2:Hid (w2.heap[w1.heap.size]?=some (.cells #[.bool false,.slice none 0 0,.slice none 0 0] 59 (0,0))):=Hj (by rw[hw2];exact st3 (HZ2.out nq))
 have Bc:Hid (Bw w1 w2):=Hj (by rw[hw2];exact((((below_drewN (aj _ w1) nq).alloc (by simp) _).setCell (p:=⟨w1.heap.size,0,none⟩) Kv _).setCell (p:=⟨w1.heap.size,1,none⟩) Kv _).setCell (p:=⟨w1.heap.size,2,none⟩) Kv _)
 rw[←hw2]
 clear hw2 z0 z1 z2 zf
 obtain⟨c4,c2',c3,Xc⟩:=KC.out w2 (HB1.out.trans (Bc.out.mono HB1.out.size))
 go_quiet (fail)
 obtain⟨w3,hw3⟩:∃W,W=w2.drewN nq:=⟨_,rfl⟩
 have OM:Hid (Bw w1 w3):=Hj (by rw[hw3];exact below_drewN Bc.out nq)
 have R3:Hid (w3.heap[w1.heap.size]?=some (.cells #[.bool false,.slice none 0 0,.slice none 0 0] 59 (0,0))):=Hj (by rw[hw3];simpa using R2.out)
 rw[←hw3]
 clear hw3 c4 c2' c3 Xc
 obtain⟨c4,c2',c3,Xc⟩:=KC.out w3 (HB1.out.trans (OM.out.mono HB1.out.size))
 obtain⟨d,hd⟩:∃d,d=cur-M.base:=⟨_,rfl⟩
 have HD:Hid (d=cur-M.base∧d≤ys.length):=Hj ⟨hd,by have:=HN.out;omega⟩
 have e1:IntKind.i64.wrap ((cur:Int)-(M.base:Int))=(d:Int):=by
  have:=HN.out
  rw[cO _ (by omega)]
  omega
 have e2:(d:Int)≤(ys.length:Int):=by have:=HD.out.2;omega
 have e3:(0:Int)≤(d:Int):=by omega
 have e4:(ys.length:Int)≤(ce:Int):=by have:=Us.out.1;omega
 clear hd
 go_wp2
 go_quiet (fail)
 go_wp2
 focus
  generalize hA:Ae=Ax
 rotate_left
 focus
  generalize hA:Option.map (fun x=>Addr.add x (d*7)) Ae=Ax
 all_goals
  have HX:Hid (∀j y,(ys.drop d)[j]?=some y→∃g o,Ax=some ⟨g,o,none⟩∧∀W,Fr (fun k=>k=gy) w W→W.cell? ⟨g,o+j*7,none⟩=some (.int .i64 (y.2.2.ver:Int))∧W.cell? ⟨g,o+j*7+1,none⟩=some (.bool y.1)∧W.cell? ⟨g,o+j*7+2,none⟩=some (.int .i64 y.2.1.kind)∧W.cell? ⟨g,o+j*7+3,none⟩=some (.string y.2.1.space)∧W.cell? ⟨g,o+j*7+4,none⟩=some (.string y.2.1.name)∧W.cell? ⟨g,o+j*7+5,none⟩=some (.int .i64 y.2.1.ver)∧W.cell? ⟨g,o+j*7+6,none⟩=some (.slice y.2.1.A y.2.1.n y.2.1.c)):=Hj fun j y hy=>by
   have hj:=(fA.1 hy).1
   rw[lu] at hj
   have hle:=Us.out.1
   rw[List.getElem?_drop] at hy
   obtain⟨g,o,cap,e,hg,hlt,hc⟩:=ah.cells PX.out (by have:(iK ys).length=ys.length*7:=PX.out.1;omega)
   injection e with e0 _ _
   rw[e0] at hA
   have hne:g≠gy:=fun e=>by
    have hT:=PX.out
    obtain⟨cur',hc'⟩:=au hT (k:=g) (by rw[e0];rfl)
    rw[e] at hc'
    exact absurd (ak hc' HW1.out.2) (by decide)
   have hk:∀f u,([.int .i64 (y.2.2.ver:Int),.bool y.1,.int .i64 y.2.1.kind,.string y.2.1.space,.string y.2.1.name,.int .i64 y.2.1.ver,sl y.2.1]:List Value)[f]?=some u→w.cell? ⟨g,o+((d+j)*7+f),none⟩=some u:=fun f u hu=>hc _ u (flat_get (fun y:Bool×(OV×aC)=>[.int .i64 (y.2.2.ver:Int),.bool y.1,.int .i64 y.2.1.kind,.string y.2.1.space,.string y.2.1.name,.int .i64 y.2.1.ver,sl y.2.1]) 7 (fun _=>rfl) ys (d+j) y f u hy hu)
   refine⟨g,o+d*7,by first | (exfalso;omega) | (rw[←hA];exact bJ some (WJ g o (d*7))),fun W hW=> ?_⟩
   have hq:∀f u,w.cell? ⟨g,o+((d+j)*7+f),none⟩=some u→W.cell? ⟨g,o+d*7+j*7+f,none⟩=some u:=fun f u hu=>by
    rw[show o+d*7+j*7+f=o+((d+j)*7+f) by omega]
    exact(hW.cell (p:=⟨g,o+((d+j)*7+f),none⟩) (iP _ _ hu) hne).trans hu
   exact⟨hq 0 _ (hk 0 _ rfl),hq 1 _ (hk 1 _ rfl),hq 2 _ (hk 2 _ rfl),hq 3 _ (hk 3 _ rfl),hq 4 _ (hk 4 _ rfl),hq 5 _ (hk 5 _ rfl),hq 6 _ (hk 6 _ rfl)⟩
  have HY3:Hid (YI w1 (w3.drewN nq) gy w1.heap.size kind space all cur false (.slice Ak ko.length ck) (.slice none 0 0) (.slice none 0 0) ko [] []):=Hj (by
   have hb:=HB1.out.trans (OM.out.mono HB1.out.size)
   have h3:YI w1 w3 gy w1.heap.size kind space all cur false (.slice Ak ko.length ck) (.slice none 0 0) (.slice none 0 0) ko [] []:=⟨(hb.block gy (Cq HW1.out.2)).trans HW1.out.2,R3.out,HK0.out.below hb,OL.nil _ _,OL.nil _ _,fun k hk=>(by cases hk),fun k hk=>(by cases hk),fun k hk=>(by cases hk),Fr.of_below OM.out,bZ _⟩
   exact h3.below (below_drewN (aj _ _) nq))
  have HT0:Hid ((ys.drop d).length=ys.length-d):=Hj lu
  clear hA c4 c2' c3 Xc HK0 R2 R3 Bc PX
  go_loopg [92] (ys.length-d) (fun k s92 wr=>∃(i:Nat) (kv' pv dv:Value),s92=.int .i64 (i:Int)∧i+k=ys.length-d∧YI w1 wr gy w1.heap.size kind space all cur false kv' pv dv (((ys.drop d).take i).foldl (yK kind space all) ko) (((ys.drop d).take i).foldl (yL false kind space all) []) (((ys.drop d).take i).foldl (yL true kind space all) [])∧(kv'=.slice Ak ko.length ck∨∀k,kv'.ownBlock=some k→w.heap.size≤k))
  case atStart=>exact⟨0,_,_,_,rfl,by omega,HY3.out,.inl rfl⟩
  case round=>
   obtain⟨i,kv',pv,dv,rfl,hi,hY,hU⟩:=hrel
   have HY:=Hj hY
   have HU:=Hj hU
   clear hY hU HY3
   by_cases hlt:i<ys.length-d
   ·try (exfalso;have:=Us.out.1;omega)
    all_goals
     obtain⟨y,hy⟩:∃y,(ys.drop d)[i]?=some y:=⟨_,fJ (by rw[HT0.out];exact hlt)⟩
     obtain⟨g,o,rfl,hcell⟩:=HX.out i y hy
     obtain⟨d0,d1,d2,d3,d4,d5,d6⟩:=hcell wr ((Fr.of_below HB1.out).trans HY.out.fr fun _ _ x=>x)
     obtain⟨dl,u,ob⟩:=y
     dsimp only at d0 d1 d2 d3 d4 d5 d6
     have hyy:=jq hy
     obtain⟨K0,hK0⟩:∃K,K=((ys.drop d).take i).foldl (yK kind space all) ko:=⟨_,rfl⟩
     obtain⟨P0,hP0⟩:∃K,K=((ys.drop d).take i).foldl (yL false kind space all) []:=⟨_,rfl⟩
     obtain⟨D0,hD0⟩:∃K,K=((ys.drop d).take i).foldl (yL true kind space all) []:=⟨_,rfl⟩
     have Pz:Hid (((ys.drop d).take (i+1)).foldl (yK kind space all) ko=yK kind space all K0 (dl,u,ob)∧((ys.drop d).take (i+1)).foldl (yL false kind space all) []=yL false kind space all P0 (dl,u,ob)∧((ys.drop d).take (i+1)).foldl (yL true kind space all) []=yL true kind space all D0 (dl,u,ob)):=Hj (by
      rw[hyy,List.foldl_append,List.foldl_append,List.foldl_append,←hK0,←hP0,←hD0]
      exact⟨rfl,rfl,rfl⟩)
     have hyd:∀y∈(ys.drop d).take i,zZ y.2.1:=fun y hy=>PI.out.2 y (List.mem_of_mem_drop (List.mem_of_mem_take hy))
     have HSu:Hid (zZ u):=Hj (PI.out.2 (dl,u,ob) (List.mem_of_mem_drop (gJ hy)))
     have HSK:Hid (∀x∈K0.map Prod.fst,zZ x):=Hj fun x hx=>by
      obtain⟨z,hz,rfl⟩:=bW.1 hx
      rw[hK0] at hz
      rcases TV _ _ z hz with h | ⟨y,h1,rfl⟩
      ·exact PI.out.1 z h
      ·exact hyd y h1
     have hti:((ys.drop d).take i).length≤1000:=by rw[eu];have:=HT0.out;have:=HN.out;omega
     have ZF:Hid ((K0.map Prod.fst).length≤100000∧(P0.map Prod.fst).length≤100000∧(D0.map Prod.fst).length≤100000):=Hj (by
      have h1:=J4 (kind:=kind) (space:=space) (all:=all) ((ys.drop d).take i) ko
      have h2:=J5 (kind:=kind) (space:=space) (all:=all) false ((ys.drop d).take i) []
      have h3:=J5 (kind:=kind) (space:=space) (all:=all) true ((ys.drop d).take i) []
      have:=HN.out
      simp only[List.length_map,hK0,hP0,hD0,List.length_nil] at*
      omega)
     rw[←hK0,←hP0,←hD0] at HY
     have k0:(0:Int)≤(i:Int):=by omega
     have k1:(i:Int)<((ys.length-d:Nat):Int):=by omega
     have k2:(i:Int)≤1000:=by have:=HN.out;omega
     have HT:Hid (i+gk=ys.length-d∧i<ys.length-d):=Hj ⟨hi,hlt⟩
     obtain⟨Ak',ck',e1,-,-⟩:=ah.form HY.out.kn
     obtain⟨Ap,cp,e2,-,-⟩:=ah.form HY.out.put
     obtain⟨Ad,cd,e3,-,-⟩:=ah.form HY.out.del
     obtain⟨nk,hnk⟩:∃n,n=(K0.map Prod.fst).length:=⟨_,rfl⟩
     obtain⟨np,hnp⟩:∃n,n=(P0.map Prod.fst).length:=⟨_,rfl⟩
     obtain⟨nd,hnd⟩:∃n,n=(D0.map Prod.fst).length:=⟨_,rfl⟩
     rw[←hnk] at e1
     rw[←hnp] at e2
     rw[←hnd] at e3
     have HNk:=Hj hnk
     have HNp:Hid (np≤100000∧nd≤100000):=Hj ⟨by rw[hnp];exact ZF.out.2.1,by rw[hnd];exact ZF.out.2.2⟩
     subst e1
     subst e2
     subst e3
     clear hi hlt hy hyy hK0 hP0 hD0 hyd hti hcell hnk hnp hnd HX
     obtain⟨wa,q,oh,hq⟩:∃(wa:World) (q:Nat),wa=wr.alloc (.cells #[.int .i64 (ob.ver:Int),.bool dl,.int .i64 u.kind,.string u.space,.string u.name,.int .i64 u.ver,.slice u.A u.n u.c] 114)∧q=wr.heap.size:=⟨_,_,rfl,rfl⟩
     have hba:Bw wr wa:=by rw[oh];exact(aj _ wr).alloc Kv _
     have hra:wa.heap[q]?=some (.cells #[.int .i64 (ob.ver:Int),.bool dl,.int .i64 u.kind,.string u.space,.string u.name,.int .i64 u.ver,.slice u.A u.n u.c] 114 (0,0)):=by rw[oh,hq];exact aA wr _
     have HYa:=Hj (HY.out.below hba)
     have HQ:Hid (∀W,Fr (fun k=>k=gy) wa W→W.cell? ⟨q,1,none⟩=some (.bool dl)∧W.cell? ⟨q,2,none⟩=some (.int .i64 u.kind)∧W.cell? ⟨q,3,none⟩=some (.string u.space)∧W.cell? ⟨q,4,none⟩=some (.string u.name)∧W.cell? ⟨q,5,none⟩=some (.int .i64 u.ver)∧W.cell? ⟨q,6,none⟩=some (.slice u.A u.n u.c)):=Hj fun W hW=>by
      have hr:=(hW.block q (Cq hra) fun e=>absurd (ak (by rw[←e];exact hra) HYa.out.row) (by decide)).trans hra
      exact⟨Kq 1 hr,Kq 2 hr,Kq 3 hr,Kq 4 hr,Kq 5 hr,Kq 6 hr⟩
     have JX:Hid (Cl 50 #[pt gy,.agg (ov u)] wa fun e w'=>e=.returned (.bool (iW kind space all u))∧Bw wa w'):=Hj (Dc HYa.out.row u)
     obtain⟨x1,x2,x3,x4,x5,x6⟩:=HQ.out wa (Fr.refl _ _)
     have hfb:iW kind space all u=false∨iW kind space all u=true:=by cases iW kind space all u<;>simp
     have PK:=Hj (aB oh hq)
     clear hba hra oh hq
     rcases hfb with hfb | hfb
     focus
      rw[hfb] at JX
     rotate_left
     focus
      rw[hfb] at JX
      cases dl
     all_goals
      have WB:=Hj hfb
      clear hfb
      go_wp2_with (first
       | (go_at_call 50;rw[←PK.out.1,←PK.out.2];((refine JX.out.mono ?_);rintro e w5 ⟨rfl,hb5⟩;have J6:=Hj (HYa.out.below hb5);have F5:Hid (Fr (fun k=>k=gy) wa w5):=Hj (Fr.of_below hb5);obtain⟨x1,x2,x3,x4,x5,x6⟩:=HQ.out w5 F5.out;have y3:w5.cell? ⟨gy,3,none⟩=some (.slice Ak' nk ck'):=Kq 3 J6.out.row;clear hb5))
       | fail)
     all_goals
      first
      | (go_roundg (gk-1)
         case measure=>have:=HT.out;omega
         case rel=>exact⟨i+1,_,_,_,by go_num,by have:=HT.out;omega,by
          rw[Pz.out.1,Pz.out.2.1,Pz.out.2.2]
          unfold yK yL
          simp only[WB.out,Bool.false_eq_true,false_and,if_false]
          exact J6.out,HU.out⟩)
      | (have HW5:Hid (Cl 51 #[.slice Ak' nk ck',.agg (ov u)] w5.drew _∧Cl 52 #[.slice Ak' nk ck',.agg (ov u)] w5.drew _):=Hj (by
          have hkn:=J6.out.kn.below (bV (aj w5.heap.size w5))
          rw[HNk.out] at hkn ⊢
          exact⟨TT (v:=u) hkn ZF.out.1 HSK.out HSu.out,C9 (v:=u) hkn ZF.out.1 HSK.out HSu.out⟩)
         go_region_law (first
          | (go_simp;go_at_call 51;((with_reducible refine(HW5.out.1).mono ?_);rintro e w6 ⟨A6,c6,rfl,pW,hb6⟩;obtain⟨n6,NK⟩:∃n,n=(wi ig u (K0.map Prod.fst)).length:=⟨_,rfl⟩;rw[←NK] at pW ⊢;have hb:=Below.fZ hb6;have ho:OL w6 w5.heap.size _ _:=pW;have HU6:Hid (∀k,(Value.slice A6 n6 c6).ownBlock=some k→w.heap.size≤k):=Hj (fun k hk=>Cz HB1.out.size (Cz J6.out.fr.size (ah.lt ho k hk).1));have ZK:=(J6.out.below hb).row;have f3:w6.frozen? ⟨gy,3,none⟩=false:=Kj ZK;have c3:w6.cell? ⟨gy,3,none⟩=some (.slice Ak' nk ck'):=Kq 3 ZK;obtain⟨w7,hw7⟩:∃W,W=w6.setCell ⟨gy,3,none⟩ (.slice A6 n6 c6):=⟨_,rfl⟩;have Ir:=Hj (J6.out.setK (kv':=.slice A6 n6 c6) (ko':=wi pk (u,ob) K0) hb (by rw[←EF pk ig Prod.fst (u,ob) K0 (fun _ _=>rfl) rfl];exact ho));rw[←hw7] at Ir;have F7:Hid (Fr (fun k=>k=gy) wa w7):=Hj (by rw[hw7];exact(F5.out.trans (Fr.of_below (S:=fun _=>False) hb) fun _ _ x=>x.elim).trans ((Fr.refl (fun k=>k=gy) w6).setCell (p:=⟨gy,3,none⟩) (fun _=>rfl) _) fun _ _ x=>x);clear pW hb6 hb ho ZK NK))
          | (go_simp;go_at_call 52;((with_reducible refine(HW5.out.2).mono ?_);rintro e w6 ⟨A6,c6,rfl,pW,hb6⟩;obtain⟨n6,NK⟩:∃n,n=(wo ig (ig u) (K0.map Prod.fst)).length:=⟨_,rfl⟩;rw[←NK] at pW ⊢;have hb:=Below.fZ hb6;have ho:OL w6 w5.heap.size _ _:=pW;have HU6:Hid (∀k,(Value.slice A6 n6 c6).ownBlock=some k→w.heap.size≤k):=Hj (fun k hk=>Cz HB1.out.size (Cz J6.out.fr.size (ah.lt ho k hk).1));have ZK:=(J6.out.below hb).row;have f3:w6.frozen? ⟨gy,3,none⟩=false:=Kj ZK;have c3:w6.cell? ⟨gy,3,none⟩=some (.slice Ak' nk ck'):=Kq 3 ZK;obtain⟨w7,hw7⟩:∃W,W=w6.setCell ⟨gy,3,none⟩ (.slice A6 n6 c6):=⟨_,rfl⟩;have Ir:=Hj (J6.out.setK (kv':=.slice A6 n6 c6) (ko':=wo pk (ig u) K0) hb (by rw[←ED pk ig Prod.fst (ig u) K0 (fun _ _=>rfl)];exact ho));rw[←hw7] at Ir;have F7:Hid (Fr (fun k=>k=gy) wa w7):=Hj (by rw[hw7];exact(F5.out.trans (Fr.of_below (S:=fun _=>False) hb) fun _ _ x=>x.elim).trans ((Fr.refl (fun k=>k=gy) w6).setCell (p:=⟨gy,3,none⟩) (fun _=>rfl) _) fun _ _ x=>x);clear pW hb6 hb ho ZK NK)))
         all_goals
          rw[←hw7]
          clear hw7 f3 c3
          obtain⟨x1,x2,x3,x4,x5,x6⟩:=HQ.out w7 F7.out
          have r1:w7.cell? ⟨w1.heap.size,1,none⟩=some (.slice Ap np cp):=Kq 1 Ir.out.rep
          have r2:w7.cell? ⟨w1.heap.size,2,none⟩=some (.slice Ad nd cd):=Kq 2 Ir.out.rep
          go_wp2_with (first
           | (at_builtin;(first
             | (refine pz rfl (.tmp 131) (.tmp 134) rfl Ir.out.put rfl u rfl (by have:=HNp.out;omega) (Cz Ir.out.up (Nat.le_of_lt (Cq Ir.out.rep))) ?_;intro A8 c8 w8 hown hb hf hat;have wI:=(Ir.out.push 1 (u,ob) (.inl ⟨rfl,rfl⟩) hown hf hat).2.1;have e8:w8.cell? ⟨w1.heap.size,1,none⟩=some _:=Kq 1 wI;have f8:w8.frozen? ⟨w1.heap.size,1,none⟩=false:=Kj wI;have HY8:=Hj (Ir.out.pushP (u,ob) hown hf hat);clear hown hb hf hat wI)
             | (refine pz rfl (.tmp 114) (.tmp 117) rfl Ir.out.del rfl u rfl (by have:=HNp.out;omega) (Cz Ir.out.up (Nat.le_of_lt (Cq Ir.out.rep))) ?_;intro A8 c8 w8 hown hb hf hat;have wI:=(Ir.out.push 2 (u,ob) (.inr ⟨rfl,rfl⟩) hown hf hat).2.1;have e8:w8.cell? ⟨w1.heap.size,2,none⟩=some _:=Kq 2 wI;have f8:w8.frozen? ⟨w1.heap.size,2,none⟩=false:=Kj wI;have HY8:=Hj (Ir.out.MB (u,ob) hown hf hat);clear hown hb hf hat wI)))
           | fail)
          go_roundg (gk-1)
          case measure=>have:=HT.out;omega
          case rel=>exact⟨i+1,_,_,_,by go_num,by have:=HT.out;omega,by
           rw[Pz.out.1,Pz.out.2.1,Pz.out.2.2]
           unfold yK yL
           simp only[WB.out,Bool.false_eq_true,Bool.true_eq_false,and_true,and_false,if_true,if_false]
           exact HY8.out,.inr HU6.out⟩)
   ·obtain rfl:i=ys.length-d:=by omega
    have k1:¬((ys.length-d:Nat):Int)<((ys.length-d:Nat):Int):=by omega
    have ht:(ys.drop d).take (ys.length-d)=ys.drop d:=fO (by rw[HT0.out];exact bZ _)
    rw[ht] at HY
    obtain⟨Ap,np,cp,e2⟩:∃A n c,pv=.slice A n c:=let ⟨A,c,e,_⟩:=ah.form HY.out.put;⟨A,_,c,e⟩
    obtain⟨Ad,nd,cd,e3⟩:∃A n c,dv=.slice A n c:=let ⟨A,c,e,_⟩:=ah.form HY.out.del;⟨A,_,c,e⟩
    subst e2
    subst e3
    have HZr:Hid (wr.heap[w.heap.size]?=some (.cells #[.bool false,.slice none 0 0,.slice none 0 0] 59 (0,0))):=Hj ((HY.out.fr.block w.heap.size (by rw[HW1.out.1];simp) fun e=>by have:=(Cq HW1.out.2);omega).trans (by rw[HW1.out.1];exact aA w _))
    have hG:Fr (fun k=>k=gy) wr (wr.setCell ⟨gy,4,none⟩ (.int .i64 (M.rev:Int))):=(Fr.refl (fun k=>k=gy) wr).setCell (p:=⟨gy,4,none⟩) (fun _=>rfl) _
    have CX:=(hG.block w.heap.size (Cq HZr.out) fun e=>by have:=(Cq HW1.out.2);omega).trans HZr.out
    have hrr:=(hG.block w1.heap.size (Cq HY.out.rep) fun e=>by have:=(Cq HW1.out.2);have:=HB1.out.size;omega).trans HY.out.rep
    have r0:=Kq 0 hrr
    have r1:=Kq 1 hrr
    have r2:=Kq 2 hrr
    have z0:=Kq 0 CX
    have z1:=Kq 1 CX
    have z2:=Kq 2 CX
    have zf:=fun j=>kH _ _ j _ _ CX
    have c2:=HGs.out wr ((Fr.of_below HB1.out).trans HY.out.fr fun _ _ x=>x)
    have c4:wr.cell? ⟨gy,4,none⟩=some (.int .i64 (cur:Int)):=Kq 4 HY.out.row
    have f4:wr.frozen? ⟨gy,4,none⟩=false:=Kj HY.out.row
    clear hlt hi ht hG CX hrr HX
    go_wp2
    obtain⟨wf,hwf⟩:∃W,W=(((wr.setCell ⟨gy,4,none⟩ (.int .i64 (M.rev:Int))).setCell ⟨w.heap.size,0,none⟩ (.bool false)).setCell ⟨w.heap.size,1,none⟩ (.slice Ap np cp)).setCell ⟨w.heap.size,2,none⟩ (.slice Ad nd cd):=⟨_,rfl⟩
    obtain⟨h1,h2,h3,h4,h5,h6⟩:=X0 (rev:=M.rev) HY.out.row HY.out.kn HY.out.put HY.out.del HY.out.fr HZr.out (by rw[HW1.out.1];simp) HB1.out Kv wf hwf
    rw[←hwf]
    exact bg (dn _ rfl rfl h5 Tryz.underlying59 zO) rfl ⟨_,_,_,rfl,h1,by rw[←HD.out.1];exact h2,by rw[←HD.out.1];exact h3,by rw[←HD.out.1];exact h4,h6,HU.out⟩
end
end Go.Proofs.YtdhbpajamlfacaaGreatDoor
