/- The document's store (layer 20): its text, by lengths. -/
import Derived.Test.YtdhbpajamlfacaaGreatDoorRo
import Derived.Test.YtdhbpajamlfacaaGreatDoorRq
set_option maxHeartbeats 4000000
set_option maxRecDepth 100000
namespace Go.Proofs.YtdhbpajamlfacaaGreatDoor
open Go.RowKit SO
def Px (rev:Nat) (xs:List (OV×aC)):Nat:=(bG 2 (dY rev)).length+(xs.map fun x=>(jV (false,x.2)).length).sum
theorem Sz (rev:Nat) (xs:List (OV×aC)) {i:Nat} {x:OV×aC} (h:xs[i]?=some x):Px rev (xs.take (i+1))=Px rev (xs.take i)+(jV (false,x.2)).length:=by
 unfold Px
 rw[take_snoc h,dI,List.sum_append]
 simp
 omega
theorem Gv {M:bQ} {xs:List (OV×aC)} (h:M.tab.map (fun x=>x.2)=xs.map fun x=>x.2):Px M.rev xs=(bY M.rev M.tab).length:=by
 unfold Px bY
 rw[bP,List.length_flatMap]
 congr 2
 have:=bJ (List.map fun o=>(jV (false,o)).length) h
 rw[iH,iH] at this
 exact this.symm
theorem Rj (rev:Nat) (hr:rev<4611686018427387904) (xs:List (OV×aC)) (h:∀x∈xs,(jV (false,x.2)).length≤10504):Px rev xs≤20+xs.length*10504:=by
 unfold Px
 have h1:(bG 2 (dY rev)).length≤20:=by
  rw[lK 2 (by rw[l9];have:=gB hr;omega),l9]
  have:=jL (fK rev)
  have:=gB hr
  omega
 have h2:(xs.map fun x=>(jV (false,x.2)).length).sum≤xs.length*10504:=by
  clear h1
  induction xs with
  | nil=>simp
  | cons x xs ih=>
   have:=ih fun y hy=>h y (gK _ hy)
   have:=h x List.mem_cons_self
   simp only[List.map_cons,List.sum_cons,List.length_cons]
   omega
 omega
/-- An object's text is as long as its bytes. -/
theorem XD {o:aC} (h:o.Ok) (hv:o.ver≤1099511627776) (d:Bool):(jV (d,o)).length=rQ (if d then 2 else 1) o.kind o.ver o.space.size o.name.size (if d then 0 else o.data.length):=by
 obtain⟨p1,p2,p3,p4,p5⟩:=h.parts
 have hd:=h.data
 have hs:o.space.data.toList.length=o.space.size:=pY
 have hn:o.name.data.toList.length=o.name.size:=pY
 have e:jV (d,o)=E5 (if d then 2 else 1) o.kind o.ver o.space.data.toList o.name.data.toList (if d then [] else o.data):=rfl
 rw[e,evB_n (by cases d<;>simp) (by omega) (by omega) (by rw[hs];omega) (by rw[hn];omega) (by cases d<;>simp;omega),hs,hn]
 cases d<;>rfl
section
variable {w w':World} {Z X:Nat→Prop} {gs gl:Nat} {av ev:Value} {xs:List (OV×aC)} {ys:List (Bool×(OV×aC))} {M:bQ}
/-- The text of an object. -/
theorem XB {v:OV} {o:aC} (h:dD w v o) (ho:o.Ok) (hv:o.ver≤1099511627776):
 Cl 132 #[.int .i64 1,.agg #[.int .i64 v.kind,.string v.space,.string v.name,.int .i64 v.ver,.slice v.A v.n v.c],.int .i64 v.ver] w fun e w'=>∃A c,e=.returned (.slice A (jV (false,o)).length c)∧LB w' w.heap.size (.slice A (jV (false,o)).length c) (jV (false,o)).length∧Bw w w':=by
 obtain⟨p1,p2,p3,p4,p5⟩:=ho.parts
 have hd:=ho.data
 have:=Rf 1 o.kind o.ver v w (.inl rfl) h.kind (by omega) (by omega) (by rw[h.space];omega) (by rw[h.name];omega) (by rw[h.num];omega) (LR.of h.rb)
 rw[XD ho hv,←h.space,←h.name]
 rw[h.num] at this
 rw[h.ver] at this ⊢
 rw[h.num]
 exact this
theorem TextR (h:RV w Z gs gl av ev xs ys M) (hM:M.Ok) (hl:xs.length≤1000):
  Cl 82 #[pt gs] w fun e w'=>∃A c,e=.returned (.slice A (bY M.rev M.tab).length c)∧LB w' w.heap.size (.slice A (bY M.rev M.tab).length c) (bY M.rev M.tab).length∧Bw w w':=by
 obtain⟨A,c,-,c1,hcell⟩:=h.row
 have XL:=hM.most
 have hxo:∀x∈xs,x.2.Ok∧x.2.ver≤1099511627776:=fun x hx=>by
  have hm:x.2∈M.tab.map fun y=>y.2:=by rw[h.allM];exact bW.2 ⟨x,hx,rfl⟩
  obtain⟨y,hy,e⟩:=bW.1 hm
  rw[←e]
  obtain⟨-,a,-,b⟩:=hM.tab.each y hy
  exact⟨a,by omega⟩
 have hsz:∀i,Px M.rev (xs.take i)≤20+1000*10504:=fun i=>by
  have:=Rj M.rev (by omega) (xs.take i) fun x hx=>qK (e:=(false,x.2)) (hxo x (List.mem_of_mem_take hx)).1 (hxo x (List.mem_of_mem_take hx)).2
  rw[eu] at this
  omega
 have Ux:=Hj hsz
 have Dk:=Hj (Gv h.allM)
 have c2:w.cell? ⟨gs,2,none⟩=some (.int .i64 (M.rev:Int)):=Kq 2 h.cells
 have KW:Hid (∀W,Bw w W→W.cell? ⟨gs,1,none⟩=some (.slice A xs.length c)):=Hj fun W hW=>Kz hW _ _ c1
 have HC:=Hj hcell
 have HX:Hid (∀x∈xs,∀W,Bw w W→Cl 132 #[.int .i64 1,.agg #[.int .i64 x.1.kind,.string x.1.space,.string x.1.name,.int .i64 x.1.ver,.slice x.1.A x.1.n x.1.c],.int .i64 x.1.ver] W fun e w'=>∃A c,e=.returned (.slice A (jV (false,x.2)).length c)∧LB w' W.heap.size (.slice A (jV (false,x.2)).length c) (jV (false,x.2)).length∧Bw W w'):=Hj fun x hx W hW=>XB ((h.each x hx).below hW) (hxo x hx).1 (hxo x hx).2
 have HI:=Hj fun W=>Sv M.rev W (by omega)
 have tq:=Hj (gB (n:=M.rev) (by omega))
 have H0:Hid ((bG 2 (dY M.rev)).length=dF (fK M.rev)):=Hj (by rw[lK 2 (by rw[l9];have:=gB (n:=M.rev) (by omega);omega),l9])
 have HLn:=Hj hl
 clear h c1 hcell hM XL hxo hsz hl
 go_enter Tryz.func82,Tryz.ntmps82
 go_wp2_with (first
  | (go_at_call 143;((refine(HI.out w).mono ?_);rintro e w1 ⟨A1,c1',rfl,ho,hb⟩;have O1:=Hj ho;have B1:=Hj hb;clear ho hb))
  | (go_at_call 125;((refine(XK 2 A1 _ c1' w1 (by decide) (by decide) O1.out.lr (by have:=tq.out;omega)).mono ?_);rintro e w2 ⟨A2,c2',rfl,ho,hb⟩;have O2:=Hj (ho.mono B1.out.size);have B2:=Hj (B1.out.trans (hb.mono B1.out.size));have k1:=KW.out w2 B2.out;clear ho hb))
  | fail)
 go_loopg [3,17] xs.length (fun k s3 pO wr=>∃(i:Nat) (A:Option Addr) (n c:Nat),pO=.int .i64 (i:Int)∧i+k=xs.length∧s3=.slice A n c∧n=Px M.rev (xs.take i)∧LB wr w.heap.size (.slice A n c) n∧Bw w wr)
 case atStart=>exact⟨0,_,_,_,rfl,by omega,rfl,by rw[←H0.out];simp[Px],O2.out,B2.out⟩
 case round=>
  obtain⟨i,A',n,c',rfl,hi,rfl,hn,hown,hbel⟩:=hrel
  have Hn:=Hj hn
  have xU:=Hj hown
  have jD:=Hj hbel
  clear hown hbel hn O1 B1 O2 B2 k1
  by_cases hlt:i<xs.length
  ·obtain ⟨b,o',rfl,hc⟩:=HC.out (by omega)
   obtain⟨x,hx⟩:∃x,xs[i]?=some x:=⟨_,fJ hlt⟩
   obtain⟨d0,d1,d2,d3,d4⟩:=hc i x hx
   have kk:=Kz jD.out
   replace d0:=kk _ _ d0
   replace d1:=kk _ _ d1
   replace d2:=kk _ _ d2
   replace d3:=kk _ _ d3
   replace d4:=kk _ _ d4
   have UO:=Hj (HX.out x (gJ hx))
   have HN:Hid (n+(jV (false,x.2)).length=Px M.rev (xs.take (i+1))∧Px M.rev (xs.take (i+1))≤100000000):=Hj ⟨by rw[Sz _ _ hx,Hn.out],by have:=Ux.out (i+1);omega⟩
   have k0:(0:Int)≤(i:Int):=by omega
   have k1:(i:Int)<(xs.length:Int):=by omega
   have k2:(i:Int)≤100000:=by have:=HLn.out;omega
   have HT:Hid (i+gk=xs.length∧i<xs.length):=Hj ⟨hi,hlt⟩
   clear hc kk hi hlt hx
   generalize (jV (false,x.2)).length=tl at*
   have HBa:=Hj fun o=>jD.out.alloc jD.out.size o
   go_wp2_with (first
    | (go_at_call 132;((refine(UO.out _ (HBa.out _)).mono ?_);rintro e w3 ⟨A3,c3,rfl,ho,hb⟩;have O3:=Hj ho.lr;have B3:=Hj ((HBa.out _).trans (hb.mono (HBa.out _).size));have O4:=Hj ((xU.out.below ((aj _ wr).alloc Kv _)).below hb);clear ho hb))
    | (at_builtin;(refine lG (w0:=w) rfl (.tmp 21) (.tmp 25) rfl (n+tl) B3.out B3.out.size O4.out (by rfl) O3.out (by rfl) rfl (by have:=HN.out;omega) ?_;intro A7 c7 w7 hown hb;have O7:=Hj hown;have B7:=Hj hb;clear hown hb))
    | fail)
   go_roundg (gk-1)
   case measure=>have:=HT.out;omega
   case rel=>exact⟨i+1,A7,_,c7,by go_num,by have:=HT.out;omega,rfl,HN.out.1,O7.out,B7.out⟩
  ·have hge:i=xs.length:=by omega
   clear hlt hi
   have HG:Hid (n=(bY M.rev M.tab).length):=Hj (by rw[Hn.out,hge,List.take_length];exact Dk.out)
   have k1:¬(i:Int)<(xs.length:Int):=by omega
   clear hge
   go_wp2
   go_ret
   rw[←HG.out]
   exact⟨A',c',rfl,xU.out,jD.out⟩
end
/-- The document's store with its log and disk, above a world that stands; Q: the blocks that are theirs, or forgotten; D: blocks that nobody turns. -/
structure fG (D:Nat→Prop) (w0 w:World) (Q:Nat→Prop) (gs:Nat) (m:DM) (L:LM) (M:bQ):Prop where
 sv:∃S Z g gl av ev xs ys,KW w0 w S g ⟨m.room,m.s,none⟩ gl L∧RV w Z gs gl av ev xs ys M∧Fit m L∧(∀k,S k→Q k)∧(∀k,Z k→Q k∨D k)∧(∀k,Z k→¬S k)
 ok:M.Ok
 up:∀k,Q k→w0.heap.size≤k
 hi:∀k,Q k→k<w.heap.size
 gq:Q gs
 dd:∀k,D k→¬Q k∧k<w.heap.size
section
variable {w w' w0:World} {D Q X:Nat→Prop} {gs:Nat} {m m':DM} {L L':LM} {M M':bQ}
theorem fG.xd (h:fG D w0 w Q gs m L M) (k:Nat) (hk:ext Q w w' k):¬D k:=fun d=>hk.elim (h.dd k d).1 fun hk=>absurd (h.dd k d).2 (Nat.not_lt.2 hk.1)
theorem fG.mono (h:fG D w0 w Q gs m L M) (hq:∀k,Q k→X k) (hu:∀k,X k→w0.heap.size≤k∧k<w.heap.size) (hd:∀k,X k→¬D k):fG D w0 w X gs m L M:=by
 obtain⟨⟨S,Z,g,gl,av,ev,xs,ys,h1,h2,h3,h4,h5,h6⟩,ok,-,-,gq,dd⟩:=h
 exact⟨⟨S,Z,g,gl,av,ev,xs,ys,h1,h2,h3,fun k hk=>hq k (h4 k hk),fun k hk=>(h5 k hk).imp (hq k) id,h6⟩,ok,fun k hk=>(hu k hk).1,fun k hk=>(hu k hk).2,hq _ gq,fun k d=>⟨fun hk=>hd k hk d,(dd k d).2⟩⟩
theorem fG.fr (h:fG D w0 w Q gs m L M) (hf:Fr X w w') (hX:∀k,Q k∨D k→¬X k) (hu:∀k,X k→w0.heap.size≤k):fG D w0 w' Q gs m L M:=by
 obtain⟨⟨S,Z,g,gl,av,ev,xs,ys,h1,h2,h3,h4,h5,h6⟩,ok,up,hi,gq,dd⟩:=h
 exact⟨⟨S,Z,g,gl,av,ev,xs,ys,h1.fr hf (fun k hk=>hX k (.inl (h4 k hk))) hu,h2.fr hf fun k hk=>hX k (h5 k hk),h3,h4,h5,h6⟩,ok,up,fun k hk=>dP (hi k hk) hf.size,gq,fun k d=>⟨(dd k d).1,dP (dd k d).2 hf.size⟩⟩
theorem fG.below (h:fG D w0 w Q gs m L M) (hb:Bw w w'):fG D w0 w' Q gs m L M:=h.fr (X:=fun _=>False) (Fr.of_below hb) (fun _ _ x=>x) fun _ x=>x.elim
theorem fG.bel (h:fG D w0 w Q gs m L M):Bw w0 w:=let ⟨_,_,_,_,_,_,_,_,h1,_⟩:=h.sv;h1.bel
theorem fG.made (h:fG D w0 w Q gs m L M) (hb:Bw w w'):fG D w0 w' (ext Q w w') gs m L M∧Fr Q w w':=⟨(h.below hb).mono (fun _ hk=>.inl hk) (fun _ hk=>gX h.up h.hi h.bel.size hb.size hk) h.xd,Fr.of_below hb⟩
theorem fG.then {w1:World} (h:fG D w0 w Q gs m L M) (h1:Fr Q w w1) (h2:fG D w0 w' (ext (ext Q w w1) w1 w') gs m' L' M'∧Fr (ext Q w w1) w1 w'):fG D w0 w' (ext Q w w') gs m' L' M'∧Fr Q w w':=
 ⟨h2.1.mono (fun _ hk=>iE h1.size h2.2.size hk) (fun _ hk=>gX h.up h.hi h.bel.size (Cz h1.size h2.2.size) hk) h.xd,h1.trans h2.2 fun i hi hk=>hk.elim id fun hk=>absurd hk.1 (by omega)⟩
theorem fG.behind {w1:World} (h:fG D w0 w Q gs m L M) (hb:Bw w w1) (h2:fG D w0 w' (ext Q w1 w') gs m' L' M'∧Fr Q w1 w'):fG D w0 w' (ext Q w w') gs m' L' M'∧Fr Q w w':=
 ⟨h2.1.mono (fun _ hk=>hk.elim .inl fun hk=>.inr ⟨Cz hb.size hk.1,hk.2⟩) (fun _ hk=>gX h.up h.hi h.bel.size (Cz hb.size h2.2.size) hk) h.xd,(Fr.of_below (S:=Q) hb).trans h2.2 fun _ _ hk=>hk⟩
/-- What the log does. -/
theorem fG.log (h:fG D w0 w Q gs m L M):∃S g gl,KW w0 w S g ⟨m.room,m.s,none⟩ gl L∧Fit m L∧w.cell? ⟨gs,0,none⟩=some (pt gl)∧(∀k,S k→Q k)∧¬S gs∧
  ∀w' m' L',KW w0 w' (ext S w w') g ⟨m'.room,m'.s,none⟩ gl L'→Fit m' L'→Fr S w w'→fG D w0 w' (ext Q w w') gs m' L' M∧Fr Q w w':=by
 have hx:∀(w':World) (k:Nat),ext Q w w' k→¬D k:=fun _=>h.xd
 obtain⟨⟨S,Z,g,gl,av,ev,xs,ys,h1,h2,h3,h4,h5,h6⟩,ok,up,hi,gq,dd⟩:=h
 refine⟨S,g,gl,h1,h3,Kq 0 h2.cells,h4,h6 gs h2.zs,fun w' m' L' hd hl hf=>⟨⟨⟨_,Z,g,gl,av,ev,xs,ys,hd,h2.fr hf h6,hl,?_,fun k hk=>(h5 k hk).imp .inl id,?_⟩,ok,?_,?_,.inl gq,fun k d=>⟨fun hk=>hx w' k hk d,dP (dd k d).2 hf.size⟩⟩,hf.mono fun i _ hk=>h4 i hk⟩⟩
 ·exact fun k hk=>hk.elim (fun hk=>.inl (h4 k hk)) .inr
 ·exact fun k hk hs=>hs.elim (h6 k hk) fun hs=>(h5 k hk).elim (fun hq=>absurd (hi k hq) (by omega)) fun d=>absurd (dd k d).2 (by omega)
 ·exact fun k hk=>(gX up hi h1.bel.size hf.size hk).1
 ·exact fun k hk=>(gX up hi h1.bel.size hf.size hk).2
/-- What the store does, and takes. -/
theorem fG.use (h:fG D w0 w Q gs m L M):∃Z gl av ev xs ys,RV w Z gs gl av ev xs ys M∧(∀k,Z k→Q k∨D k)∧
  ∀(w':World) (Z':Nat→Prop) LP ev' xs' ys' (M':bQ) (Y:Nat→Prop),RV w' Z' gs gl LP ev' xs' ys' M'→M'.Ok→Fr (fun k=>k=gs) w w'→(∀k,Y k→¬Q k∧¬D k∧w0.heap.size≤k∧k<w.heap.size)→(∀k,Z' k→Z k∨(w.heap.size≤k∧k<w'.heap.size)∨Y k)→
   fG D w0 w' (fun k=>ext Q w w' k∨Y k) gs m L M'∧Fr Q w w':=by
 have hx:∀(w':World) (k:Nat),ext Q w w' k→¬D k:=fun _=>h.xd
 obtain⟨⟨S,Z,g,gl,av,ev,xs,ys,h1,h2,h3,h4,h5,h6⟩,ok,up,hi,gq,dd⟩:=h
 refine⟨Z,gl,av,ev,xs,ys,h2,h5,fun w' Z' LP ev' xs' ys' M' Y hv hok hf hY hZ=>⟨⟨⟨S,Z',g,gl,LP,ev',xs',ys',h1.fr hf (fun k hs e=>h6 k (by rw[e];exact h2.zs) hs) (fun k e=>by rw[e];exact up _ gq),hv,h3,fun k hk=>.inl (.inl (h4 k hk)),?_,?_⟩,hok,?_,?_,.inl (.inl gq),fun k d=>⟨fun hk=>hk.elim (fun hk=>hx w' k hk d) fun hk=>(hY k hk).2.1 d,dP (dd k d).2 hf.size⟩⟩,hf.mono fun i _ e=>by rw[e];exact gq⟩⟩
 ·exact fun k hk=>(hZ k hk).elim (fun hk=>(h5 k hk).imp (fun hq=>.inl (.inl hq)) id) fun hk=>.inl (hk.elim (fun hk=>.inl (.inr hk)) .inr)
 ·intro k hk hs
  rcases hZ k hk with hk | hk | hk
  ·exact h6 k hk hs
  ·have:=h1.hi k hs;omega
  ·exact (hY k hk).1 (h4 k hs)
 ·exact fun k hk=>hk.elim (fun hk=>(gX up hi h1.bel.size hf.size hk).1) fun hk=>(hY k hk).2.2.1
 ·exact fun k hk=>hk.elim (fun hk=>(gX up hi h1.bel.size hf.size hk).2) fun hk=>dP (hY k hk).2.2.2 hf.size
/-- What the store holds now is turned no more. -/
theorem fG.grow (h:fG D w0 w Q gs m L M):∃Z gl av ev xs ys,RV w Z gs gl av ev xs ys M∧(∀k,Z k→Q k∨D k)∧fG (fun k=>D k∨Q k∧Z k∧k≠gs) w0 w (fun k=>Q k∧¬(Z k∧k≠gs)) gs m L M:=by
 obtain⟨⟨S,Z,g,gl,av,ev,xs,ys,h1,h2,h3,h4,h5,h6⟩,ok,up,hi,gq,dd⟩:=h
 refine⟨Z,gl,av,ev,xs,ys,h2,h5,⟨S,Z,g,gl,av,ev,xs,ys,h1,h2,h3,fun k hk=>⟨h4 k hk,fun z=>h6 k z.1 hk⟩,fun k hk=> ?_,h6⟩,ok,fun k hk=>up k hk.1,fun k hk=>hi k hk.1,⟨gq,fun z=>z.2 rfl⟩,fun k d=> ?_⟩
 ·rcases h5 k hk with hq | d
  ·by_cases e:k=gs
   ·exact .inl ⟨hq,fun z=>z.2 e⟩
   ·exact .inr (.inr ⟨hq,hk,e⟩)
  ·exact .inr (.inl d)
 ·rcases d with d | d
  ·exact ⟨fun hk=>(dd k d).1 hk.1,(dd k d).2⟩
  ·exact ⟨fun hk=>hk.2 d.2,hi k d.1⟩
theorem RV.len {Z:Nat→Prop} {gl:Nat} {av ev:Value} {xs:List (OV×aC)} {ys:List (Bool×(OV×aC))} (h:RV w Z gs gl av ev xs ys M):xs.length=M.tab.length∧ys.length=M.evs.length:=by
 have h1:=bJ List.length h.allM
 have h2:=bJ List.length h.IE
 simp only[List.length_map] at h1 h2
 exact⟨h1.symm,h2.symm⟩
end
section
variable {w w' w0:World} {D Q S X:Nat→Prop} {g gl gs:Nat} {m m':DM} {L L':LM} {M M':bQ}
theorem LB.off {B n c:Nat} {A:Option Addr} (h:LB w B (.slice A n c) n) (hS:∀k,S k→k<B):0<n→Off S A:=fun hn p hp hk=>by
 obtain⟨l,e,h⟩:=h
 have hl:(ay l).length=l.length*1:=h.1
 obtain⟨b,o,cap,e,hb,_⟩:=ah.cells h (by omega)
 injection e with e1 _ _
 rw[e1] at hp
 injection hp with hp
 subst hp
 have:=hS b hk
 omega
theorem cp_D (h:KW w0 w S g ⟨m.room,m.s,none⟩ gl L) (hF:Fit m L) (t:List UInt8) (ht:t.length≤1000000) (A:Option Addr) (c:Nat) (hb:LR w (.slice A t.length c) t.length) (hA:0<t.length→Off S A):
  Cl 81 #[pt gl,.slice A t.length c] w fun e w'=>e=.returned (.int .i64 (L.zW m t:Int))∧KW w0 w' (ext S w w') g ⟨(L.zV m t).room,(L.zV m t).s,none⟩ gl (L.cp m t)∧Fr S w w':=by
 refine(Ny A t.length c h hF.r0 hF.r1 hF.sz hF.slot hF.gen ht hb hA).mono ?_
 rintro e w' k
 rcases lT L m t with ⟨hc,e0,em,el⟩ | ⟨hc,e0,em,el⟩<;>rw[e0,em,el]<;>rcases k with ⟨hn,rfl,hb⟩ | ⟨hn,rfl,hk,hf⟩
 ·exact ⟨rfl,(h.made hb).1,(h.made hb).2⟩
 ·exact absurd hc hn
 ·exact absurd hn hc
 ·exact ⟨rfl,hk,hf⟩
theorem ap_D (h:KW w0 w S g ⟨m.room,m.s,none⟩ gl L) (hF:Fit m L) (t:List UInt8) (ht:t.length≤16384) (A:Option Addr) (c:Nat) (hb:LR w (.slice A t.length c) t.length) (hA:0<t.length→Off S A):
  Cl 133 #[pt gl,.slice A t.length c] w fun e w'=>e=.returned (.int .i64 (L.yj m t:Int))∧KW w0 w' (ext S w w') g ⟨(L.uS m t).room,(L.uS m t).s,none⟩ gl (L.app m t)∧Fr S w w':=by
 refine(QL A t.length c h hF.r1 hF.e hF.gen hb hA ht).mono ?_
 rintro e w' k
 rcases jm L m t with ⟨hc,e0,em,el⟩ | ⟨hc,e0,em,el⟩<;>rw[e0,em,el]<;>unfold DM.free at hc<;>rcases k with ⟨hn,rfl,hb⟩ | ⟨hn,rfl,hk,hf⟩
 ·exact ⟨rfl,(h.made hb).1,(h.made hb).2⟩
 ·omega
 ·omega
 ·exact ⟨rfl,hk,hf⟩
theorem RV.fresh {Z:Nat→Prop} {av ev:Value} {xs:List (OV×aC)} {ys:List (Bool×(OV×aC))} (h:RV w Z gs gl av ev xs ys M):
  RV ((w.setCell ⟨gs,3,none⟩ (.int .i64 (M.rev:Int))).setCell ⟨gs,4,none⟩ (.slice none 0 0)) Z gs gl av (.slice none 0 0) xs [] M.fresh∧Fr (fun k=>k=gs) w ((w.setCell ⟨gs,3,none⟩ (.int .i64 (M.rev:Int))).setCell ⟨gs,4,none⟩ (.slice none 0 0)):=by
 have hf:Fr (fun k=>k=gs) w ((w.setCell ⟨gs,3,none⟩ (.int .i64 (M.rev:Int))).setCell ⟨gs,4,none⟩ (.slice none 0 0)):=((Fr.refl (fun k=>k=gs) w).setCell (p:=⟨gs,3,none⟩) (fun _=>rfl) _).setCell (p:=⟨gs,4,none⟩) (fun _=>rfl) _
 refine⟨⟨aI _ _ 4 _ _ _ (aI _ _ 3 _ _ _ h.cells),ah.kept h.all hf fun k hk e=> ?_,h.allM,fun x hx=>h.keeps hf (h.each x hx),ah.nil _ _ _ _,rfl,(by intro y hy;cases hy),h.zs,h.za,(by intro k hk;cases hk),h.zx,(by intro y hy;cases hy)⟩,hf⟩
 obtain⟨cur,hcur⟩:=au h.all hk
 subst e
 exact absurd (ak hcur h.cells) (by decide)
theorem Gs (h:fG D w0 w Q gs m L M) (hl:M.tab.length≤90):
  Cl 36 #[pt gs] w fun e w'=>e=.returned (.int .i64 (L.zW m (bY M.rev M.tab):Int))∧
   fG D w0 w' (ext Q w w') gs (L.zV m (bY M.rev M.tab)) (L.cp m (bY M.rev M.tab)) (if L.zW m (bY M.rev M.tab)=0 then M.fresh else M)∧Fr Q w w':=by
 obtain⟨t,ht⟩:∃t,t=bY M.rev M.tab:=⟨_,rfl⟩
 have hT:Hid (∀W,Bw w W→Cl 82 #[pt gs] W fun e w'=>∃A c,e=.returned (.slice A t.length c)∧LB w' W.heap.size (.slice A t.length c) t.length∧Bw W w'):=Hj fun W hW=>by
  obtain⟨Z,gl,av,ev,xs,ys,hv,-,-⟩:=(h.below hW).use
  rw[ht]
  exact TextR hv h.ok (by rw[hv.len.1];omega)
 have htl:t.length≤1000000:=by
  obtain⟨Z,gl,av,ev,xs,ys,hv,-,-⟩:=h.use
  have:=h.ok.most
  have hx:∀x∈xs,(jV (false,x.2)).length≤10504:=fun x hx=>by
   have hm:x.2∈M.tab.map fun y=>y.2:=by rw[hv.allM];exact bW.2 ⟨x,hx,rfl⟩
   obtain⟨y,hy,e⟩:=bW.1 hm
   rw[←e]
   obtain⟨-,a,-,b⟩:=h.ok.tab.each y hy
   exact qK (e:=(false,y.2)) a (by show y.2.ver≤_;omega)
  have h1:=Rj M.rev (by omega) xs hx
  rw[Gv hv.allM,←ht] at h1
  have:=hv.len.1
  omega
 obtain⟨S,g,gl,hk,hL,c0,hSQ,hSg,hback⟩:=h.log
 have HC:Hid (∀W A c,Bw w W→LB W w.heap.size (.slice A t.length c) t.length→Cl 81 #[pt gl,.slice A t.length c] W fun e w'=>e=.returned (.int .i64 (L.zW m t:Int))∧fG D w0 w' (ext Q w w') gs (L.zV m t) (L.cp m t) M∧Fr Q w w'∧w'.cell? ⟨gs,0,none⟩=some (pt gl)):=Hj fun W A c hW hb=>by
  refine(cp_D (hk.below hW) hL t htl A c hb.lr (hb.off fun k hk'=>hk.hi k hk')).mono ?_
  rintro e w' ⟨rfl,k1,k3⟩
  have hkk:=hk.behind hW ⟨k1,k3⟩
  obtain⟨r1,r2⟩:=hback w' _ _ hkk.1 (hL.cp t) hkk.2
  exact⟨rfl,r1,r2,(k3.cell (p:=⟨gs,0,none⟩) (iP W _ (Kz hW _ _ c0)) hSg).trans (Kz hW _ _ c0)⟩
 have K0:Hid (∀W,Bw w W→W.cell? ⟨gs,0,none⟩=some (pt gl)):=Hj fun W hW=>Kz hW _ _ c0
 have HS:=Hj h
 rw[←ht]
 clear h ht htl hk hL hback hSQ hl hSg
 generalize L.zW m t=E at*
 have BD:Hid (Bw w w.drew):=Hj (bV (aj _ _))
 go_enter Tryz.func36,Tryz.ntmps36
 go_wp2
 go_region_held3 (fun w'=>w'.cell? ⟨gs,0,none⟩=some (pt gl)) (first | assumption | go_keep) (first
  | (go_at_call 82;((refine(hT.out w.drew BD.out).mono ?_);rintro e w1 ⟨A1,c1,rfl,ho,hb⟩;have O1:=Hj (ho.mono BD.out.size);have B1:=Hj (BD.out.trans (hb.mono BD.out.size));have k1:=K0.out w1 B1.out;clear ho hb))
  | (go_at_call 81;((refine(HC.out w1 A1 c1 B1.out O1.out).mono ?_);rintro e w2 ⟨rfl,hr,hf,k2⟩;have R2:=Hj hr;have F2:=Hj hf;clear hr hf))
  | fail)
 all_goals
  by_cases hE:E=0
  ·obtain ⟨Z,gl',av,ev,xs,ys,hv,hZ,hback⟩:=R2.out.use
   have p2:w2.cell? ⟨gs,2,none⟩=some (.int .i64 (M.rev:Int)):=Kq 2 hv.cells
   have p3:w2.cell? ⟨gs,3,none⟩=some (.int .i64 (M.base:Int)):=Kq 3 hv.cells
   have p4:w2.cell? ⟨gs,4,none⟩=some ev:=Kq 4 hv.cells
   have f3:w2.frozen? ⟨gs,3,none⟩=false:=Kj hv.cells
   have f4:w2.frozen? ⟨gs,4,none⟩=false:=Kj hv.cells
   have hE2:(E:Int)=0:=by omega
   have HV:=Hj hv
   have HB:=Hj (fun W Z' LP ev' xs' ys' M'=>hback W Z' LP ev' xs' ys' M' fun _=>False)
   have HZ:=Hj hZ
   clear hv hback hZ
   subst hE
   go_wp2
   go_ret
   obtain⟨v1,v2⟩:=HV.out.fresh
   obtain⟨r1,r2⟩:=HB.out _ Z av _ xs [] M.fresh v1 (bQ.Bo HS.out.ok.tab HS.out.ok.most) v2 (fun k hk=>hk.elim) fun k hk=>.inl hk
   exact⟨rfl,HS.out.then F2.out ⟨r1.mono (fun k hk=>hk.elim id fun x=>x.elim) (fun k hk=>gX R2.out.up R2.out.hi R2.out.bel.size r2.size hk) R2.out.xd,r2⟩⟩
  ·have hE2:¬(E:Int)=0:=by omega
   have HE:=Hj hE
   clear hE
   go_wp2
   go_ret
   exact⟨rfl,R2.out,F2.out⟩
end
end Go.Proofs.YtdhbpajamlfacaaGreatDoor
