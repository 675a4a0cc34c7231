/- Layer 21 (watch): slices.SortFunc at objects. -/
import Derived.Test.YtdhbpajamlfacaaGreatDoorYb
import Derived.Shelf.SlSortCmp.WholeK
import Derived.Shelf.SlSortCmp.NoneTotal
import Derived.Shelf.Lay
import Derived.Ground.SlsfProg
set_option maxHeartbeats 8000000
set_option maxRecDepth 100000
namespace Go.Proofs
open Go.Shelf Go.RowKit Go.Lib Go.Sort
shelf_lay_g SlLaysF0.n6 Slsf 6 at Tryz 144 as Tryz.sortObjects
end Go.Proofs
namespace Go.Proofs.YtdhbpajamlfacaaGreatDoor
open Go.RowKit SO Go.Shelf Go.Lib
theorem Di:∀(l:List OV) (t:Nat),(bH l)[t]?=(l[t / 5]?).bind fun x=>(jJ x)[t % 5]?
 | [],t=>by simp[bH]
 | x::l,t=>by
  have e:bH (x::l)=jJ x++bH l:=rfl
  have h5:(jJ x).length=5:=rfl
  rw[e]
  by_cases h:t<5
  ·rw [tJ (by omega),Nat.div_eq_of_lt h,Nat.mod_eq_of_lt h]
   rfl
  ·rw [vW (by omega),h5,Di l (t-5)]
   have e1:t / 5=(t-5) / 5+1:=by omega
   have e2:t % 5=(t-5) % 5:=by omega
   rw[e1,e2,List.getElem?_cons_succ]
/-- Rows whose words are short. -/
abbrev Ya:={x:OV×aC // zZ x.1}
instance:Inhabited Ya:=⟨⟨⟨⟨0,⟨#[]⟩,⟨#[]⟩,0,none,0,0⟩,⟨0,⟨#[]⟩,⟨#[]⟩,0,[]⟩⟩,by decide,by decide⟩⟩
def zT (x:Ya):List Value:=jJ x.1.1
def WQ (x y:Ya):Int:=if aS (pk x.1) (pk y.1)=true then-1 else 1
theorem ltX (x y:Ya):ltOf WQ x y=aS (pk x.1) (pk y.1):=by
 unfold ltOf WQ
 cases aS (pk x.1) (pk y.1)<;>rfl
theorem swoX:Go.Sort.SWO (ltOf WQ) where
 irrefl x:=by rw[ltX];exact dh.Ut _
 trans x y z h1 h2:=by rw[ltX] at*;exact dh.tr _ _ _ h1 h2
 ntrans x y z h1 h2:=by
  rw[ltX] at*
  cases h:aS (pk x.1) (pk z.1) with
  | false=>rfl
  | true=>
   cases h3:aS (pk y.1) (pk x.1) with
   | true=>rw[dh.tr _ _ _ h3 h] at h2;cases h2
   | false=>rw[dh.tri _ _ h1 h3,h2] at h;cases h
theorem Yb (d:Array Ya):(Go.Sort.flatK zT 5 d).toList=bH (d.toList.map fun x=>x.1.1):=by
 apply List.ext_getElem?
 intro t
 rw[Di,dK]
 by_cases h:t<d.size*5
 ·have hs:t<(Go.Sort.flatK zT 5 d).size:=by rw[Go.Sort.size_flatK];exact h
  have h1:t / 5<d.size:=by omega
  have h2:t % 5<5:=Nat.mod_lt _ (by decide)
  have h3:=Go.Sort.get_flatK zT 5 d t h
  rw[getElem!_pos _ t hs,getElem!_pos d _ h1,getElem!_pos _ (t % 5) (show t % 5<(zT d[t / 5]).length from h2)] at h3
  rw[rF,Array.getElem?_eq_getElem hs,h3,rF,Array.getElem?_eq_getElem h1]
  show _=(jJ _)[t % 5]?
  rw[fJ (show t % 5<(jJ d[t / 5].1.1).length from h2)]
  rfl
 ·have h1:d.size≤t / 5:=by omega
  rw[rF,Array.getElem?_eq_none (by rw[Go.Sort.size_flatK];omega),rF,Array.getElem?_eq_none h1]
  rfl
section
variable {w:World} {b:Nat} {v:Value}
/-- A sorted row. -/
theorem Ko {o g cap n0:Nat} {cur:Array Value} {T:TypeId} (hc:w.heap[g]?=some (.cells cur T (0,0))) (d:Array Ya) (hb:b≤g) (hcap:d.size≤cap∧cap≤maxLen∧o+cap*5≤cur.size) (os:Array Obj):
  ah (sortWorldK zT 5 w g o n0 d os) b T 5 (.slice (some ⟨g,o,none⟩) d.size cap) d.size (bH (d.toList.map fun x=>x.1.1))∧Fr (fun k=>k=g) w (sortWorldK zT 5 w g o n0 d os):=by
 have hg:g<w.heap.size:=(Cq hc)
 have hsz:(Go.Sort.putRowK zT 5 (Go.Sort.ahead w n0) g o d).heap.size=w.heap.size:=Go.Sort.size_putRowK ..
 refine⟨⟨by rw[oQ,aX,pY],.inr ⟨g,o,cap,Go.Sort.putCells id o (Go.Sort.flatK zT 5 d) cur,rfl,hb,?_,hcap.1,hcap.2.1,by unfold Go.Sort.putCells;rw[Array.size_mapIdx];exact hcap.2.2,?_⟩⟩,?_⟩
 ·unfold sortWorldK
  rw[Go.Sort.heap_grow_old _ _ (by rw[hsz];exact hg)]
  unfold Go.Sort.putRowK Go.Sort.putRow Go.Sort.mapBlock
  rw[Array.getElem?_modify,aF rfl]
  show (w.heap[g]?).map _=_
  rw[hc]
  rfl
 ·rw [←Yb]
  apply List.ext_getElem?
  intro t
  by_cases ht:t<d.size*5
  ·have hs:t<(Go.Sort.flatK zT 5 d).size:=by rw[Go.Sort.size_flatK];exact ht
   have hle:d.size*5≤cap*5:=Nat.mul_le_mul_right 5 hcap.1
   rw[List.getElem?_take_of_lt ht,List.getElem?_drop,rF,rF]
   unfold Go.Sort.putCells
   rw[Array.getElem?_mapIdx,Array.getElem?_eq_getElem (show o+t<cur.size by omega),Array.getElem?_eq_getElem hs]
   dsimp only[Option.map_some]
   rw[aF ⟨by omega,by omega⟩,show o+t-o=t by omega,getElem!_pos _ t hs]
   rfl
  ·rw [List.getElem?_eq_none (by rw[eu];omega),rF,Array.getElem?_eq_none (by rw[Go.Sort.size_flatK];omega)]
 ·refine ⟨rfl,rfl,rfl,by unfold sortWorldK;rw[Go.Sort.size_grow,hsz];omega,fun k hk hn=> ?_⟩
  unfold sortWorldK
  rw[Go.Sort.heap_grow_old _ _ (by rw[hsz];exact hk)]
  unfold Go.Sort.putRowK Go.Sort.putRow Go.Sort.mapBlock
  rw[Array.getElem?_modify,aG fun e=>hn e.symm]
  rfl
theorem ZQ {o g:Nat} {cur:Array Value} {T:TypeId} (hc:w.heap[g]?=some (.cells cur T (0,0))) (d:Array Ya) (h:(cur.toList.drop o).take (d.size*5)=bH (d.toList.map fun x=>x.1.1)):Go.Sort.HoldsK zT 5 w g o d:=by
 intro t ht
 have ht2:=ht
 rw[Go.Sort.size_flatK] at ht2
 refine⟨?_,Kj hc⟩
 rw[←Yb] at h
 have e:=bJ (fun l:List Value=>l[t]?) h
 rw[List.getElem?_take_of_lt ht2,List.getElem?_drop,rF,rF,Array.getElem?_eq_getElem ht] at e
 rw[getElem!_pos _ t ht]
 exact bT _ _ (o+t) _ _ _ hc |>.trans e
end
theorem cmpW (u v:OV) (hu:zZ u) (hv:zZ v) (W:World):Cl 145 #[.agg (ov u),.agg (ov v)] W fun e w'=>e=.returned (.int .i64 (if aS (ig u) (ig v)=true then-1 else 1))∧∃q os',w'=Go.Sort.grow (W.drewN q) os':=by
 have HK:=Hj fun(x:OV) (hx:zZ x) W=>Wv x.space x.name W hx.1 hx.2
 obtain⟨b,hb⟩:∃b,b=aS (ig u) (ig v):=⟨_,rfl⟩
 have hq:Op.bytesLess (wkey u.space u.name).toList (wkey v.space v.name).toList=b:=hb.symm
 rw[←hb]
 clear hb
 obtain⟨w2,hw2⟩:∃w,w=(W.alloc (.cells (ov u) 37)).alloc (.cells (ov v) 37):=⟨_,rfl⟩
 obtain⟨k1,k2,-⟩:=aP W (.cells (ov u) 37) (.cells (ov v) 37)
 obtain⟨Z,hZ⟩:∃z,z=W.heap.size:=⟨_,rfl⟩
 have HW:=Hj (aB hw2 hZ)
 rw[←hw2,←hZ] at k1 k2
 have c1:w2.cell? ⟨Z,1,none⟩=some (.string u.space):=Kq 1 k1
 have c2:w2.cell? ⟨Z,2,none⟩=some (.string u.name):=Kq 2 k1
 have d1:w2.cell? ⟨Z+1,1,none⟩=some (.string v.space):=Kq 1 k2
 have d2:w2.cell? ⟨Z+1,2,none⟩=some (.string v.name):=Kq 2 k2
 have HU:=Hj (aB hu hv)
 clear hw2 hZ k1 k2 hu hv
 cases b
 all_goals
  go_enter Tryz.func145,Tryz.ntmps145
  go_wp2
  rw[←HW.out.1,←HW.out.2]
  go_region_held3 (fun w'=>(w'.cell? ⟨Z,1,none⟩=some (.string u.space)∧w'.cell? ⟨Z,2,none⟩=some (.string u.name))∧w'.cell? ⟨Z+1,1,none⟩=some (.string v.space)∧w'.cell? ⟨Z+1,2,none⟩=some (.string v.name)) (first | exact⟨⟨by assumption,by assumption⟩,by assumption,by assumption⟩ | go_keep) (first
   | (go_at_call 54;(with_reducible refine(HK.out u HU.out.1 _).mono ?_);rintro e w3 ⟨rfl,rfl⟩)
   | (go_at_call 54;(with_reducible refine(HK.out v HU.out.2 _).mono ?_);rintro e w3 ⟨rfl,rfl⟩)
   | fail)
  all_goals
   go_wp2
   go_ret
   exact⟨rfl,1,_,by rw[HW.out.1,Go.Sort.alloc_eq_grow,Go.Sort.alloc_eq_grow,Go.Sort.grow_grow];rfl⟩
section
variable {w:World} {b n:Nat} {v:Value}
theorem aggO (W:World):(isAgg 37).run Tryz.prog W=.ok true W:=Tryz.isAgg37 W
theorem sizeO (W:World):(Go.sizeOf 37).run Tryz.prog W=.ok 5 W:=Tryz.sizeOf37 W
/-- slices.SortFunc at what is listed. -/
theorem SortO (os:List (OV×aC)) (ho:OL w b v (os.map Prod.fst)) (hs:∀x∈os,zZ x.1) (hl:os.length≤100000):
  Cl 144 #[v,.func (.func 145) #[] #[]] w fun e w'=>e=.returned (.tuple #[])∧∃os2:List (OV×aC),os2.Perm os∧os2.Pairwise (fun x y=>aS (pk y) (pk x)=false)∧OL w' b v (os2.map Prod.fst)∧Fr (fun k=>some k=v.ownBlock) w w':=by
 obtain⟨hn,h⟩:=id ho
 rw[aX] at hn h
 rcases h with ⟨rfl,h0⟩ | ⟨g,o,cap,cur,rfl,hb,hc,h1,h2,h3,h4⟩
 ·have e0:os=[]:=mP h0
  subst e0
  refine(AnyF.slices_SortFunc_none Tryz.sortObjects none 0 _ w).mono ?_
  rintro e w' ⟨rfl,rfl⟩
  exact⟨rfl,[],List.Perm.refl _,List.Pairwise.nil,ho,Fr.refl _ _⟩
 ·obtain ⟨d,hd⟩:∃d:Array Ya,d.toList.map Subtype.val=os:=⟨(os.attachWith _ hs).toArray,List.attachWith_map_subtype_val _⟩
  have hdl:d.size=os.length:=by rw[←hd,aX,pY]
  have hdm:d.toList.map (fun x=>x.1.1)=os.map Prod.fst:=by rw[←hd,iH];rfl
  have hlt:g<w.heap.size:=(Cq hc)
  have eg:∀args w,(callFunc 145 args).run Tryz.prog w=.ok (.enter 145 args) w:=enters_of Tryz.func145 (by kernel_rfl) rfl
  rw[←hdl] at h1 h4 ⊢
  refine(AnyQ.slices_SortFunc Tryz.sortObjects 5 aggO sizeO zT (fun _=>rfl) (fun x=>oU [x.1.1] |>fun h v hv=>h v (by simpa [bH] using hv)) WQ swoX 145 #[] g o cap d w eg (fun m os dk _ x y=>cmpW x.1.1 y.1.1 x.2 y.2 _) (ZQ hc d (by rw[hdm];exact h4)) hlt (by omega)).mono ?_
  rintro e w' ⟨rfl,d',n1,os1,⟨p1,-,p2⟩,hso,rfl⟩
  obtain⟨s1,s2⟩:=Ko (n0:=n1) hc d' hb ⟨by rw[p1];exact h1,h2,h3⟩ os1
  rw[Array.extract_size,←p1,Array.extract_size] at p2
  refine⟨rfl,d'.toList.map Subtype.val,by rw[←hd];exact p2.map _,?_,?_,s2.mono fun k _ hk=>by rw[hk];rfl⟩
  ·rw [List.pairwise_map,List.pairwise_iff_getElem]
   intro i j hi hj hij
   have:=hso i j (bU _) hij (by rw[←p1];exact hj)
   rw[ltX,getElem!_pos d' _ hj,getElem!_pos d' _ hi] at this
   exact this
  ·unfold OL
   rw[aX,aX,iH,pY,←p1]
   exact s1
end
/-- What is listed, whoever lists it. -/
def jc (M:bQ) (kind:Int) (S:ByteArray) (all:Bool):List aC:=(((M.tab.map Prod.snd).filter (pI kind S all)).foldl gZ []).map Prod.snd
theorem vS.eq {M:bQ} {kind:Int} {S:ByteArray} {all:Bool} {l:List aC} (h:M.Ok) (hl:vS M kind S all l):l=jc M kind S all:=by
 unfold jc
 rw[(vS.ins h hl rfl).1]
 unfold kd
 rw[iH]
 exact(List.map_id l).symm
theorem zU {α β:Type} {f:α→List β} {B:Nat}:∀l:List α,(∀x∈l,(f x).length≤B)→(l.flatMap f).length≤l.length*B
 | [],_=>by simp
 | x::l,h=>by
  have:=zU l fun y hy=>h y (gK _ hy)
  have:=h x (by simp)
  rw[List.flatMap_cons,bP,qV,Nat.add_mul]
  omega
section
variable {w w0 w1 w2:World} {Q:Nat→Prop} {g gs gw gt cur:Nat} {m:DM} {L:LM} {M:bQ} {kind:Int} {space:ByteArray} {all:Bool}
theorem OS.src {b:Nat} {A:Option Addr} {n c:Nat} {os:List (OV×aC)} (h:OL w b (.slice A n c) (os.map Prod.fst)):Src Tryz.prog 5 41 (.slice A n c) n (bH (os.map Prod.fst)) w:=by
 have hn:=OL.len h
 subst hn
 have:=xW h Tryz.underlying41 (oU _) (by omega) 0 (os.map Prod.fst).length (by omega) A c (fun g o e _=>by rw[e];simp)
 rwa [Nat.zero_mul,List.drop_zero,fO (by rw[oQ];exact bZ _)] at this
/-- A row of objects behind another one. -/
theorem OS.push {b n:Nat} {v v':Value} {os os2:List (OV×aC)} (h1:OL w b v (os.map Prod.fst)) (h2:∀x∈os++os2,dD w x.1 x.2) (hn:n=(os++os2).length) (ho:ah w2 b 37 5 v' n (bH (os.map Prod.fst)++bH (os2.map Prod.fst))) (hg:w.grownBy w2 v.ownBlock):OS w2 b v' ((os++os2).map Prod.snd)∧Fr (fun k=>some k=v.ownBlock) w w2:=by
 have hf:=Fr.bF hg
 have hs:Sf w w2:=Sf.rW (hf.mono fun k _ h=>h.symm) h1
 refine⟨⟨os++os2,?_,rfl,fun x hx=>hs.Ig (h2 x hx)⟩,hf⟩
 unfold OL
 rw[aX,←hn,dI]
 have e:bH (os.map Prod.fst++os2.map Prod.fst)=bH (os.map Prod.fst)++bH (os2.map Prod.fst):=by simp[bH]
 rw[e]
 exact ho
theorem cell_kept {W W2:World} {b j:Nat} {cs:Array Value} {T:TypeId} {x:Value} (h:W.heap[b]?=some (.cells cs T (0,0))) (hb:Bw W W2) (hc:W.cell? ⟨b,j,none⟩=some x):W2.cell? ⟨b,j,none⟩=some x:=by
 unfold World.cell? at hc ⊢
 dsimp only at hc ⊢
 rw[hb.block b (Cq h)]
 exact hc
theorem WR (K:Nat) (hK:K=5∨K=6) (h:SW w0 w Q g m gs L M) (hw:iY w gw gt (K:Int) space true cur) (hl:M.tab.length≤90) (hn:vN M.tab):
  Cl 83 #[pt gw,pt gs] w fun e w'=>∃v,e=.returned v∧OS w' w.heap.size v (jc M (K:Int) space true)∧Bw w w':=by
 have HL:Hid (∀W (kd:Nat) (sp:ByteArray),Bw w W→kd≤7→sp.size≤1000→Cl 15 #[pt gs,.int .i64 (kd:Int),.string sp] W fun e w'=>∃v,e=.returned v∧OS w' W.heap.size v (jP M (kd:Int) sp false)∧Bw W w'):=Hj fun W kd sp hW hk hs=>(FY (kd:Int) sp (h.below hW) (by omega) hs (by omega)).mono fun e w' ⟨v,os,h1,h2,h3,h4,h5⟩=>⟨v,h1,OS.Ew h2 h3 h4,h5⟩
 have hlen:∀(kd:Int) sp,(jP M kd sp false).length≤90:=fun kd sp=>by
  unfold jP
  rw[aX]
  exact Cz (kZ _ _) hl
 have hsz:∀o∈M.tab.map Prod.snd,o.space.size≤24∧o.name.size≤24:=fun o ho=>by
  obtain⟨x,hx,rfl⟩:=bW.1 ho
  have:=(h.ok.tab.each x hx).2.1.parts
  omega
 obtain⟨l1,hl1⟩:∃l,l=jP M ((1:Nat):Int) ⟨#[]⟩ false:=⟨_,rfl⟩
 have Lr:Hid (∀o∈l1,o.name.size≤1000):=Hj fun o ho=>by
  rw[hl1] at ho
  have:=hsz o (((vS.one (all:=false) h.ok 1 (by decide) (fun _=>Ip) (.inl rfl)).1 o).1 ho).1
  omega
 have Dk:Hid (∀l,l.Perm (l1.flatMap fun x=>jP M (K:Int) x.name false)→l.Pairwise (fun a b=>aS (ko b) (ko a)=false)→l=jc M (K:Int) space true):=Hj fun l hp hs=>vS.eq h.ok (vS.sorted h.ok hn K hK (by unfold J3;rw[←hl1];exact hp) hs)
 have PI:Hid (∀o∈l1.flatMap fun x=>jP M (K:Int) x.name false,o.space.size≤1000∧o.name.size≤1000):=Hj fun o ho=>by
  have:=hsz o (((vS.cat (S:=space) h.ok hn K hK).1 o).1 (by unfold J3;rw[←hl1];exact ho)).1
  omega
 have HLen:Hid ((∀sp,(jP M (K:Int) sp false).length≤90)∧l1.length≤90):=Hj ⟨hlen _,by rw[hl1];exact hlen _ _⟩
 have HK:Hid (K≤7):=Hj (by omega)
 have HL1:Hid (Cl 15 #[pt gs,.int .i64 1,.string ⟨#[]⟩] w fun e w'=>∃v,e=.returned v∧OS w' w.heap.size v l1∧Bw w w'):=Hj (by rw[hl1];exact HL.out w 1 ⟨#[]⟩ (aj _ _) (by decide) (by decide))
 have c0:w.cell? ⟨gw,0,none⟩=some (.int .i64 (K:Int)):=Kq 0 hw
 have c2:w.cell? ⟨gw,2,none⟩=some (.bool true):=Kq 2 hw
 have dZ:=Hj hw
 obtain⟨z,hz⟩:∃z:Int,z=(K:Int):=⟨_,rfl⟩
 have HZ:=Hj hz
 rw[←hz] at c0
 have hcase:(z !=5)=false∨((z !=5)=true∧(z !=6)=false):=by rcases hK with rfl | rfl<;>rw[hz]<;>decide
 clear h hw hl hn hlen hsz hl1 hz hK
 go_enter Tryz.func83,Tryz.ntmps83
 rcases hcase with q5 | ⟨q5,q6⟩
 all_goals
  go_wp2_with (first
   | (go_at_call 15;((refine HL1.out.mono ?_);rintro e w2 ⟨v,rfl,ho,hb⟩;obtain⟨A,c,rfl,-,-⟩:=ho.form;have HO:=Hj ho;have HB:=Hj hb;clear ho hb))
   | fail)
  obtain⟨n,hn⟩:∃n,n=l1.length:=⟨_,rfl⟩
  rw[←hn]
  have ZG:=Hj hn
  clear hn
  go_loopg [44,5] n (fun gk s44 s5 wr=>∃i:Nat,s44=.int .i64 (i:Int)∧i+gk=n∧OS wr w2.heap.size s5 ((l1.take i).flatMap fun x=>jP M (K:Int) x.name false)∧Bw w2 wr)
  case atStart=>exact⟨0,rfl,by omega,OS.nil _ _,aj _ _⟩
  case round=>
   obtain⟨i,rfl,hi,hos,hbr⟩:=hrel
   have HR:=Hj (aB hos hbr)
   have HI:=Hj hi
   by_cases hlt:i<n
   ·obtain ⟨os1,h1,h2,h3⟩:=HO.out
    have hlen:os1.length=l1.length:=by rw[←h2,aX]
    have AY:i<os1.length:=by rw[hlen,←ZG.out];exact hlt
    obtain⟨b,o,rfl,-,hcell⟩:=yY h1 (by rw[aX];omega)
    obtain⟨⟨u,ob⟩,hx⟩:∃x,x=os1[i]:=⟨_,rfl⟩
    have hxi:os1[i]?=some (u,ob):=by rw[hx];exact fJ AY
    have hxv:(os1.map fun x=>x.1)[i]?=some u:=by rw[dK,hxi];rfl
    have hxl:l1[i]?=some ob:=by rw[←h2,dK,hxi];rfl
    have hu:u.name=ob.name:=(h3 _ (gJ hxi)).name
    have hbl:∃cs,w2.heap[b]?=some (.cells cs 37 (0,0)):=au h1 rfl
    obtain⟨cs,hbl⟩:=hbl
    have e0:=fun j y hy=>cell_kept hbl hbr (hcell i u hxv j y hy)
    have c1:wr.cell? ⟨b,o+i*5,none⟩=some (.int .i64 u.kind):=e0 0 _ rfl
    have c3:wr.cell? ⟨b,o+i*5+1,none⟩=some (.string u.space):=e0 1 _ rfl
    have c4:wr.cell? ⟨b,o+i*5+2,none⟩=some (.string u.name):=e0 2 _ rfl
    have c5:wr.cell? ⟨b,o+i*5+3,none⟩=some (.int .i64 u.ver):=e0 3 _ rfl
    have c6:wr.cell? ⟨b,o+i*5+4,none⟩=some (.slice u.A u.n u.c):=e0 4 _ rfl
    have i0:(0:Int)≤(i:Int):=Int.natCast_nonneg i
    have i1:(i:Int)<(n:Int):=Int.ofNat_lt.2 hlt
    have i2:(i:Int)≤100000:=by have:=HLen.out;have:=ZG.out;omega
    have yN:=Hj hlt
    have HTk:Hid ((l1.take (i+1)).flatMap (fun x=>jP M (K:Int) x.name false)=(l1.take i).flatMap (fun x=>jP M (K:Int) x.name false)++jP M (K:Int) u.name false∧((l1.take i).flatMap fun x=>jP M (K:Int) x.name false).length≤9000):=Hj ⟨by rw[jq hxl,List.flatMap_append,hu];simp,by
     have:=zU (B:=90) (l1.take i) fun x _=>HLen.out.1 x.name
     rw[eu] at this
     have:=HLen.out.2
     have:min i l1.length*90≤90*90:=Nat.mul_le_mul_right 90 (by omega)
     omega⟩
    have hun:u.name.size≤1000:=by rw[hu];exact Lr.out _ (gJ hxl)
    have HUn:=Hj hun
    clear hos hbr hi hlt h1 h2 h3 hlen AY hcell hx hxi hxv hxl hbl e0 hu hun
    go_wp2
    obtain⟨w6,hw6⟩:∃W,W=wr.alloc (.cells (ov u) 37):=⟨_,rfl⟩
    obtain⟨B6,Pq⟩:∃q,q=wr.heap.size:=⟨_,rfl⟩
    rw[←hw6,←Pq]
    have b6:Bw wr w6:=by rw[hw6];exact(aj _ wr).alloc Kv _
    have x6:w6.heap[B6]?=some (.cells (ov u) 37 (0,0)):=by rw[hw6,Pq];exact aA wr _
    have g6:Bw w w6:=HB.out.trans ((HR.out.2.trans (b6.mono HR.out.2.size)).mono HB.out.size)
    have r6:=(g6.block gw (Cq dZ.out)).trans dZ.out
    have j0:w6.cell? ⟨gw,0,none⟩=some (.int .i64 z):=by rw[HZ.out];exact Kq 0 r6
    have j2:w6.cell? ⟨B6,2,none⟩=some (.string u.name):=Kq 2 x6
    have PD:=Hj (aB b6 g6)
    have X6:=Hj (aB x6 r6)
    have HLi:Hid (∀W,Bw w6 W→Cl 15 #[pt gs,.int .i64 z,.string u.name] W fun e w'=>∃v,e=.returned v∧OS w' W.heap.size v (jP M (K:Int) u.name false)∧Bw W w'):=Hj fun W hW=>by rw[HZ.out];exact HL.out W K u.name (g6.trans (hW.mono g6.size)) HK.out HUn.out
    have hBq:wr.heap.size≤B6:=Nat.le_of_eq Pq.symm
    clear hw6 Pq b6 x6 g6 r6 c1 c3 c4 c5 c6
    obtain⟨os,ho1,ho2,ho3⟩:=HR.out.1
    have HNs:Hid (os.length≤9000):=Hj (by
     have h:=bJ List.length ho2
     rw[aX] at h
     have:=HTk.out.2
     omega)
    have ZR:Hid (∀k,u5.ownBlock=some k→w2.heap.size≤k∧k<wr.heap.size):=Hj fun k hk=>ah.lt ho1 k hk
    have VI:Hid (wr.heap.size≤B6∧gw<w2.heap.size):=Hj ⟨hBq,dP (Cq dZ.out) HB.out.size⟩
    have Uz:=Hj (aB ho1 (aB ho2 ho3))
    clear ho1 ho2 ho3 hBq
    go_region_law (first
     | (go_simp;go_at_call 15;((with_reducible refine(HLi.out w6.drew (aJ (aj _ _))).mono ?_);rintro e w7 ⟨v7,rfl,⟨os2,Pv,sZ,pW⟩,hb7⟩;obtain⟨A7,c7,e7,-,-⟩:=ah.form Pv;obtain⟨n7,hn7⟩:∃n,n=(os2.map Prod.fst).length:=⟨_,rfl⟩;rw[←hn7] at e7;subst e7;have b7:Bw w6 w7:=(aJ (aj _ w6)).trans hb7;have t0:w7.cell? ⟨gw,0,none⟩=some (.int .i64 z):=Kz b7 _ _ j0;have t2:w7.cell? ⟨B6,2,none⟩=some (.string u.name):=Kz b7 _ _ j2;have N7:Hid (n7≤90∧n7=os2.length):=Hj (by have h:=bJ List.length sZ;rw[aX] at h hn7;have:=HLen.out.1 u.name;omega);have H7:=Hj (aB Pv (aB sZ pW));clear hn7;have B7:=Hj b7;have R7:=Hj (aB ((b7.block gw (Cq X6.out.2)).trans X6.out.2) ((b7.block B6 (Cq X6.out.1)).trans X6.out.1));clear Pv sZ pW hb7 b7))
     | ((
        refine lZ rfl (.tmp 48) (.tmp 56) (by rfl) ((Uz.out.1.below PD.out.1).below B7.out) (by rfl) (OS.src H7.out.1) (by rfl) (by rw[aX];have:=HNs.out;have:=N7.out;omega) (Cz HR.out.2.size (Cz PD.out.1.size B7.out.size)) ?_
        intro v9 w9 Yc hgr9
        obtain⟨p1,p2⟩:=OS.push ((Uz.out.1.below PD.out.1).below B7.out) (fun x hx=>(iO.1 hx).elim (fun h=>((Uz.out.2.2 x h).below PD.out.1).below B7.out) (H7.out.2.2 x)) (by rw[bP,aX,N7.out.2]) Yc hgr9
        have t9:w9.cell? ⟨gw,0,none⟩=some (.int .i64 z):=(by rw[HZ.out];exact Kq 0 ((p2.block gw (Cq R7.out.1) fun e=>by have:=ZR.out gw e.symm;have:=VI.out.2;omega).trans R7.out.1))
        have s9:w9.cell? ⟨B6,2,none⟩=some (.string u.name):=Kq 2 ((p2.block B6 (Cq R7.out.2) fun e=>by have:=ZR.out B6 e.symm;have:=VI.out.1;omega).trans R7.out.2)
        have P9:=Hj (aB p1 p2)
        clear p1 p2 Yc hgr9))
     | fail)
    all_goals
     go_wp2
     go_roundg (gk-1)
     case measure=>have:=HI.out;have:=yN.out;omega
     case rel=>
      refine⟨i+1,by go_num,by have:=HI.out;have:=yN.out;omega,?_,?_⟩
      ·have h:=P9.out.1
       rw[dI,Uz.out.2.1,H7.out.2.1,←HTk.out.1] at h
       exact h
      ·have h:=(HR.out.2.trans (PD.out.1.mono HR.out.2.size)).trans (B7.out.mono (Cz HR.out.2.size PD.out.1.size))
       exact h.trans (P9.out.2.below h.size fun k _ hk=>(ZR.out k hk.symm).1)
   ·obtain rfl:i=n:=by omega
    rw[fO (by rw[←ZG.out];exact bZ _)] at hos
    obtain⟨os,ho1,ho2,ho3⟩:=hos
    have hS:=SortO os ho1 (fun x hx=>by
     have:=PI.out x.2 (by rw[←ho2];exact bW.2 ⟨x,hx,rfl⟩)
     unfold zZ
     rw[(ho3 x hx).space,(ho3 x hx).name]
     exact this) (by
     have h:=bJ List.length ho2
     rw[aX] at h
     have:=zU (B:=90) l1 fun x _=>HLen.out.1 x.name
     have:=HLen.out.2
     have:l1.length*90≤90*90:=Nat.mul_le_mul_right 90 this
     omega)
    have HS:=Hj hS
    have Uz:=Hj (aB ho1 (aB ho2 ho3))
    clear hS ho1 ho2 ho3 hbr hi hlt
    go_wp2_with (first
     | (go_at_call 144;((refine HS.out.mono ?_);rintro e w9 ⟨rfl,os3,p1,p2,p3,p4⟩;have P9:=Hj (aB p1 (aB p2 (aB p3 p4)));clear p1 p2 p3 p4))
     | fail)
    go_ret
    obtain⟨p1,p2,p3,p4⟩:=P9.out
    obtain⟨ho1,ho2,ho3⟩:=Uz.out
    have e:=Dk.out (os3.map Prod.snd) (by rw[←ho2];exact p1.map _) (by
     rw[List.pairwise_map]
     refine p2.imp_of_mem fun {a b} ha hb hab=> ?_
     rw[(ho3 a (p1.mem_iff.1 ha)).Iw,(ho3 b (p1.mem_iff.1 hb)).Iw]
     exact hab)
    have hs:Sf wr w9:=Sf.rW (p4.mono fun k _ h=>h.symm) ho1
    have hb2:=HR.out.2
    refine⟨_,rfl,⟨os3,ah.mono p3 fun k hk=>Cz HB.out.size (ah.lt p3 k hk).1,e,fun x hx=>hs.Ig (ho3 x (p1.mem_iff.1 hx))⟩,HB.out.trans ((hb2.trans (p4.below hb2.size fun k _ hk=>(ah.lt ho1 k hk.symm).1)).mono HB.out.size)⟩
theorem WT (K:Nat) (hK:K≤7) (hS:all=false→sJ space) (hz:space.size≤1000) (h:SW w0 w Q g m gs L M) (hw:iY w gw gt (K:Int) space all cur) (hl:M.tab.length≤90) (hn:vN M.tab):
  Cl 83 #[pt gw,pt gs] w fun e w'=>∃v,e=.returned v∧OS w' w.heap.size v (jc M (K:Int) space all)∧Bw w w':=by
 by_cases hc:all=true∧(K=5∨K=6)
 ·obtain ⟨rfl,hc⟩:=hc
  exact WR K hc h hw hl hn
 ·have hc2:all=false∨(K≠5∧K≠6):=by
   cases all with
   | false=>exact .inl rfl
   | true=>exact .inr ⟨fun e=>hc ⟨rfl,.inl e⟩,fun e=>hc ⟨rfl,.inr e⟩⟩
  rw[←vS.eq h.ok (vS.one h.ok K hK hS hc2)]
  exact MC h hw (by omega) hz (by omega) (hc2.imp id fun h=>⟨by omega,by omega⟩)
end
end Go.Proofs.YtdhbpajamlfacaaGreatDoor
