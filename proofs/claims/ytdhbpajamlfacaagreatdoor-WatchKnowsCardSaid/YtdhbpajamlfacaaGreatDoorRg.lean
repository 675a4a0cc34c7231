/- The document's store (layer 20): its text, by lengths. -/
import Derived.Test.YtdhbpajamlfacaaGreatDoorRo
import Derived.Test.YtdhbpajamlfacaaGreatDoorRq
namespace Go.Proofs.YtdhbpajamlfacaaGreatDoor
open Go.RowKit SO
def MO (rev:Nat) (xs:List (OV×aH)):Nat:=(aT 2 (dG rev)).length+(xs.map fun x=>(fQ (false,x.2)).length).sum
theorem Qg (rev:Nat) (xs:List (OV×aH)) {i:Nat} {x:OV×aH} (h:xs[i]?=some x):MO rev (xs.take (i+1))=MO rev (xs.take i)+(fQ (false,x.2)).length:=by
 unfold MO
 rw[take_snoc h,List.map_append,List.sum_append]
 simp
 omega
theorem Em {M:aY} {xs:List (OV×aH)} (h:M.tab.map (fun x=>x.2)=xs.map fun x=>x.2):MO M.rev xs=(aP M.rev M.tab).length:=by
 unfold MO aP
 rw[List.length_append,List.length_flatMap]
 congr 2
 have:=congrArg (List.map fun o=>(fQ (false,o)).length) h
 rw[List.map_map,List.map_map] at this
 exact this.symm
theorem Pn (rev:Nat) (hr:rev<4611686018427387904) (xs:List (OV×aH)) (h:∀x∈xs,(fQ (false,x.2)).length≤10504):MO rev xs≤20+xs.length*10504:=by
 unfold MO
 have h1:(aT 2 (dG rev)).length≤20:=by
  rw[jJ 2 (by rw[jV];have:=eF hr;omega),jV]
  have:=iM (dX rev)
  have:=eF hr
  omega
 have h2:(xs.map fun x=>(fQ (false,x.2)).length).sum≤xs.length*10504:=by
  clear h1
  induction xs with
  | nil=>simp
  | cons x xs ih=>
   have:=ih fun y hy=>h y (List.mem_cons_of_mem _ hy)
   have:=h x List.mem_cons_self
   simp only[List.map_cons,List.sum_cons,List.length_cons]
   omega
 omega
/-- An object's text is as long as its bytes. -/
theorem Ve {o:aH} (h:o.Ok) (hv:o.ver≤1099511627776) (d:Bool):(fQ (d,o)).length=oU (if d then 2 else 1) o.kind o.ver o.space.size o.name.size (if d then 0 else o.data.length):=by
 obtain⟨p1,p2,p3,p4,p5⟩:=h.parts
 have hd:=h.data
 have hs:o.space.data.toList.length=o.space.size:=Array.length_toList
 have hn:o.name.data.toList.length=o.name.size:=Array.length_toList
 have e:fQ (d,o)=Df (if d then 2 else 1) o.kind o.ver o.space.data.toList o.name.data.toList (if d then [] else o.data):=rfl
 rw[e,ZL (by cases d<;>simp) (by omega) (by omega) (by rw[hs];omega) (by rw[hn];omega) (by cases d<;>simp;omega),hs,hn]
 cases d<;>rfl
section
variable {w w':World} {Z X:Nat→Prop} {gs gl:Nat} {av ev:Value} {xs:List (OV×aH)} {ys:List (Bool×(OV×aH))} {M:aY}
/-- The text of an object. -/
theorem Vd {v:OV} {o:aH} (h:dI w v o) (ho:o.Ok) (hv:o.ver≤1099511627776):
 Calls Tryz.prog 132 #[.int .i64 1,.agg #[.int .i64 v.kind,.string v.space,.string v.name,.int .i64 v.ver,.slice v.A v.n v.c],.int .i64 v.ver] w fun e w'=>∃A c,e=.returned (.slice A (fQ (false,o)).length c)∧LB w' w.heap.size (.slice A (fQ (false,o)).length c) (fQ (false,o)).length∧Below w.heap.size w w':=by
 obtain⟨p1,p2,p3,p4,p5⟩:=ho.parts
 have hd:=ho.data
 have:=Pg 1 o.kind o.ver v w (.inl rfl) h.kind (by omega) (by omega) (by rw[h.space];omega) (by rw[h.name];omega) (by rw[h.num];omega) (LR.of h.rb)
 rw[Ve ho hv,←h.space,←h.name]
 rw[h.num] at this
 rw[h.ver] at this ⊢
 rw[h.num]
 exact this
set_option maxHeartbeats 4000000 in
set_option maxRecDepth 100000 in
theorem Zu (h:RV w Z gs gl av ev xs ys M) (hM:M.Ok) (hl:xs.length≤1000):
  Calls Tryz.prog 82 #[.pointer (some ⟨gs,0,none⟩)] w fun e w'=>∃A c,e=.returned (.slice A (aP M.rev M.tab).length c)∧LB w' w.heap.size (.slice A (aP M.rev M.tab).length c) (aP M.rev M.tab).length∧Below w.heap.size w w':=by
 obtain⟨A,c,-,c1,hcell⟩:=h.row
 have Vq:=hM.most
 have hxo:∀x∈xs,x.2.Ok∧x.2.ver≤1099511627776:=fun x hx=>by
  have hm:x.2∈M.tab.map fun y=>y.2:=by rw[h.allM];exact List.mem_map.2 ⟨x,hx,rfl⟩
  obtain⟨y,hy,e⟩:=List.mem_map.1 hm
  rw[←e]
  obtain⟨-,a,-,b⟩:=hM.tab.each y hy
  exact⟨a,by omega⟩
 have hsz:∀i,MO M.rev (xs.take i)≤20+1000*10504:=fun i=>by
  have:=Pn M.rev (by omega) (xs.take i) fun x hx=>lI (e:=(false,x.2)) (hxo x (List.mem_of_mem_take hx)).1 (hxo x (List.mem_of_mem_take hx)).2
  rw[List.length_take] at this
  omega
 have CU:=Hj hsz
 have Fq:=Hj (Em h.allM)
 have c2:w.cell? ⟨gs,2,none⟩=some (.int .i64 (M.rev:Int)):=Kq 2 h.cells
 have KW:Hid (∀W,Below w.heap.size w W→W.cell? ⟨gs,1,none⟩=some (.slice A xs.length c)):=Hj fun W hW=>Kz hW _ _ c1
 have HC:=Hj hcell
 have HX:Hid (∀x∈xs,∀W,Below w.heap.size w W→Calls Tryz.prog 132 #[.int .i64 1,.agg #[.int .i64 x.1.kind,.string x.1.space,.string x.1.name,.int .i64 x.1.ver,.slice x.1.A x.1.n x.1.c],.int .i64 x.1.ver] W fun e w'=>∃A c,e=.returned (.slice A (fQ (false,x.2)).length c)∧LB w' W.heap.size (.slice A (fQ (false,x.2)).length c) (fQ (false,x.2)).length∧Below W.heap.size W w'):=Hj fun x hx W hW=>Vd ((h.each x hx).below hW) (hxo x hx).1 (hxo x hx).2
 have HI:=Hj fun W=>Qe M.rev W (by omega)
 have rG:=Hj (eF (n:=M.rev) (by omega))
 have H0:Hid ((aT 2 (dG M.rev)).length=bJ (dX M.rev)):=Hj (by rw[jJ 2 (by rw[jV];have:=eF (n:=M.rev) (by omega);omega),jV])
 have HLn:=Hj hl
 clear h c1 hcell hM Vq hxo hsz hl
 go_enter Tryz.func82,Tryz.ntmps82
 go_wp2_with (first
  | (go_at_call 143;((with_reducible refine(HI.out w).mono ?_);rintro e w1 ⟨A1,c1',rfl,ho,hb⟩;have O1:=Hj ho;have B1:=Hj hb;clear ho hb))
  | (go_at_call 125;((with_reducible refine(Vp 2 A1 _ c1' w1 (by decide) (by decide) O1.out.lr (by have:=rG.out;omega)).mono ?_);rintro e w2 ⟨A2,c2',rfl,ho,hb⟩;have O2:=Hj (ho.mono B1.out.size);have B2:=Hj (B1.out.trans (hb.mono B1.out.size));have k1:=KW.out w2 B2.out;clear ho hb))
  | fail)
 go_loopg [3,17] xs.length (fun k s3 mX wr=>∃(i:Nat) (A:Option Addr) (n c:Nat),mX=.int .i64 (i:Int)∧i+k=xs.length∧s3=.slice A n c∧n=MO M.rev (xs.take i)∧LB wr w.heap.size (.slice A n c) n∧Below w.heap.size w wr)
 case atStart=>exact⟨0,_,_,_,rfl,by omega,rfl,by rw[←H0.out];simp[MO],O2.out,B2.out⟩
 case round=>
  obtain⟨i,A',n,c',rfl,hi,rfl,hn,hown,hbel⟩:=hrel
  have Hn:=Hj hn
  have zq:=Hj hown
  have iQ:=Hj hbel
  clear hown hbel hn O1 B1 O2 B2 k1
  by_cases hlt:i<xs.length
  ·obtain ⟨b,o',rfl,hc⟩:=HC.out (by omega)
   obtain⟨x,hx⟩:∃x,xs[i]?=some x:=⟨_,List.getElem?_eq_getElem hlt⟩
   obtain⟨d0,d1,d2,d3,d4⟩:=hc i x hx
   have kk:=Kz iQ.out
   replace d0:=kk _ _ d0
   replace d1:=kk _ _ d1
   replace d2:=kk _ _ d2
   replace d3:=kk _ _ d3
   replace d4:=kk _ _ d4
   have FN:=Hj (HX.out x (List.mem_of_getElem? hx))
   have HN:Hid (n+(fQ (false,x.2)).length=MO M.rev (xs.take (i+1))∧MO M.rev (xs.take (i+1))≤100000000):=Hj ⟨by rw[Qg _ _ hx,Hn.out],by have:=CU.out (i+1);omega⟩
   have k0:(0:Int)≤(i:Int):=by omega
   have k1:(i:Int)<(xs.length:Int):=by omega
   have k2:(i:Int)≤100000:=by have:=HLn.out;omega
   have HT:Hid (i+gk=xs.length∧i<xs.length):=Hj ⟨hi,hlt⟩
   clear hc kk hi hlt hx
   generalize (fQ (false,x.2)).length=tl at*
   have HBa:=Hj fun o=>iQ.out.alloc iQ.out.size o
   go_wp2_with (first
    | (go_at_call 132;((with_reducible refine(FN.out _ (HBa.out _)).mono ?_);rintro e w3 ⟨A3,c3,rfl,ho,hb⟩;have O3:=Hj ho.lr;have B3:=Hj ((HBa.out _).trans (hb.mono (HBa.out _).size));have O4:=Hj ((zq.out.below ((Below.refl _ wr).alloc Kv _)).below hb);clear ho hb))
    | (at_builtin;(refine jF (w0:=w) rfl (.tmp 21) (.tmp 25) rfl (n+tl) B3.out B3.out.size O4.out (by rfl) O3.out (by rfl) rfl (by have:=HN.out;omega) ?_;intro A7 c7 w7 hown hb;have O7:=Hj hown;have B7:=Hj hb;clear hown hb))
    | fail)
   go_roundg (gk-1)
   case measure=>have:=HT.out;omega
   case rel=>exact⟨i+1,A7,_,c7,by go_num,by have:=HT.out;omega,rfl,HN.out.1,O7.out,B7.out⟩
  ·have hge:i=xs.length:=by omega
   clear hlt hi
   have HG:Hid (n=(aP M.rev M.tab).length):=Hj (by rw[Hn.out,hge,List.take_length];exact Fq.out)
   have k1:¬(i:Int)<(xs.length:Int):=by omega
   clear hge
   go_wp2
   go_ret
   rw[←HG.out]
   exact⟨A',c',rfl,zq.out,iQ.out⟩
end
/-- The document's disk and log are as long as the program's. -/
structure uh (m:DM) (L:LM) (s:Nat→Nat) (G:LG):Prop where
 ex:∃A,m.Is A∧L.On A∧∀i,i<3→s i=(A i).length
 arm:m.armed=false
 dead:L.dead=false
 gen:G=⟨L.gen,L.slot,L.recs.map List.length⟩
 r0:0≤m.room
 r1:m.room≤100000
section
variable {m:DM} {L:LM} {s:Nat→Nat} {G:LG}
theorem uh.free (h:uh m L s G):m.free=m.room-s 0-s 1-s 2:=by
 obtain⟨A,h1,h2,h3⟩:=h.ex
 unfold DM.free
 rw[h3 0 (by decide),h3 1 (by decide),h3 2 (by decide),←h1.seen 0 (by decide),←h1.seen 1 (by decide),←h1.seen 2 (by decide)]
theorem TQ (ts:List (List UInt8)):endOf ts=gU (ts.map List.length):=by
 unfold endOf gU
 rw[List.map_map]
 rfl
theorem uh.end (h:uh m L s G):s 2=gU G.ns:=by
 obtain⟨A,h1,h2,h3⟩:=h.ex
 rw[h3 2 (by decide),h2.recs,h.gen,TQ]
theorem uh.slot (h:uh m L s G):(G.slot=0∨G.slot=1)∧G.gen≤2147483647:=by
 obtain⟨A,h1,h2,h3⟩:=h.ex
 rw[h.gen]
 exact⟨h2.slot,h2.gen⟩
theorem uh.app (h:uh m L s G) (t:List UInt8) (ht:t.length≤16384):
  (L.dQ m t=26∧m.room-s 0-s 1-s 2<20+(t.length:Int)∧L.iE m t=m∧L.app m t=L)∨
  (L.dQ m t=0∧20+(t.length:Int)≤m.room-s 0-s 1-s 2∧uh (L.iE m t) (L.app m t) (upd s 2 (s 2+(20+t.length))) ⟨G.gen,G.slot,G.ns++[t.length]⟩∧(L.iE m t).room=m.room):=by
 have hf:=h.free
 obtain⟨A,h1,h2,h3⟩:=h.ex
 have hr:=wL (m:=m) h.dead ht
 by_cases hc:m.free<20+(t.length:Int)
 ·left
  have xJ:L.room m t=26:=by
   rcases hr with hr | hr
   ·have:=(sQ hr).2.2;omega
   ·exact hr
  have he:L.dQ m t=26:=by
   unfold LM.dQ
   rw[if_neg (by omega)]
   exact xJ
  exact⟨he,by rw[←hf];exact hc,vS L m t he⟩
 ·right
  have h0:L.room m t=0:=by
   unfold LM.room
   rw[if_neg (by rw[h.dead];decide),if_neg (by omega),if_neg hc]
  obtain⟨e0,B,b1,b2,b3,b4,b5,b6⟩:=ug h1 h.arm h2 t h0
  ·refine ⟨e0,by rw[←hf];omega,⟨⟨B,b1,by rw[b2];exact b3,fun i hi=> ?_⟩,b4,by rw[b2];exact h.dead,?_,by rw[b5];exact h.r0,by rw[b5];exact h.r1⟩,b5⟩
   ·rw [b6]
    unfold upd updB
    split
    ·rename_i e
     rw[List.length_append,jy,h3 2 (by decide)]
    ·exact h3 i hi
   ·rw [b2,h.gen]
    show _=LG.mk L.gen L.slot ((L.recs++[t]).map List.length)
    rw[List.map_append]
    rfl
theorem uh.cp (h:uh m L s G) (t:List UInt8):
  (L.mM m t=26∧(2147483647≤G.gen∨m.room-s 0-s 1-s 2<16+(t.length:Int)-(s (1-G.slot):Int))∧L.lD m t=m∧L.cp m t=L)∨
  (L.mM m t=0∧¬(2147483647≤G.gen∨m.room-s 0-s 1-s 2<16+(t.length:Int)-(s (1-G.slot):Int))∧uh (L.lD m t) (L.cp m t) (upd (upd s (1-G.slot) (16+t.length)) 2 0) ⟨G.gen+1,1-G.slot,[]⟩∧(L.lD m t).room=m.room):=by
 have hf:=h.free
 have hs:=h.slot.1
 have hg:=h.gen
 obtain⟨A,h1,h2,h3⟩:=h.ex
 have hr:=nM (m:=m) (t:=t) h.dead
 have hb:(s (1-G.slot):Int)=((m.b (3+(1-L.slot))).length:Int):=by
  rw[hg,h3 _ (by show 1-L.slot<3;omega),←h1.seen _ (by show 1-L.slot<3;omega)]
 rw[←hf,hb]
 have hgen:G.gen=L.gen:=by rw[hg]
 by_cases hc:2147483647≤L.gen∨m.free<16+(t.length:Int)-((m.b (3+(1-L.slot))).length:Int)
 ·left
  have xJ:L.space m t=26:=by
   unfold LM.space
   rw[if_neg (by rw[h.dead];decide),if_pos hc]
  refine⟨?_,by rw[hgen];exact hc,?_,?_⟩
  ·unfold LM.mM;rw[if_neg (by omega)];exact xJ
  ·unfold LM.lD;rw[if_neg (by omega)]
  ·unfold LM.cp;rw[if_neg (by omega)]
 ·right
  have h0:L.space m t=0:=by
   unfold LM.space
   rw[if_neg (by rw[h.dead];decide),if_neg hc]
  obtain⟨e0,B,b1,b2,b3,b4,b5,b6⟩:=qP h1 h.arm h2 t h0
  ·refine ⟨e0,by rw[hgen];exact hc,⟨⟨B,b1,by rw[b2];exact b3,fun i hi=> ?_⟩,b4,by rw[b2];exact h.dead,by rw[b2,hg];rfl,by rw[b5];exact h.r0,by rw[b5];exact h.r1⟩,b5⟩
   rw[b6,hg]
   unfold upd updB
   split
   ·rfl
   ·show (if i=1-L.slot then 16+t.length else s i)=(if i=1-L.slot then dh (L.gen+1) t else A i).length
    split
    ·rw [eG]
    ·exact h3 i hi
end
/-- The document's store with its log and disk, above a world that stands; Q: the blocks that are theirs, or forgotten. -/
structure dO (w0 w:World) (Q:Nat→Prop) (gs:Nat) (m:DM) (L:LM) (M:aY):Prop where
 sv:∃S Z g gl av ev xs ys s G,KW w0 w S g ⟨m.room,s,none⟩ gl G∧RV w Z gs gl av ev xs ys M∧uh m L s G∧(∀k,S k→Q k)∧(∀k,Z k→Q k)∧(∀k,Z k→¬S k)
 ok:M.Ok
 up:∀k,Q k→w0.heap.size≤k
 hi:∀k,Q k→k<w.heap.size
section
variable {w w' w0:World} {Q X:Nat→Prop} {gs:Nat} {m m':DM} {L L':LM} {M M':aY}
theorem dO.mono (h:dO w0 w Q gs m L M) (hq:∀k,Q k→X k) (hu:∀k,X k→w0.heap.size≤k∧k<w.heap.size):dO w0 w X gs m L M:=by
 obtain⟨⟨S,Z,g,gl,av,ev,xs,ys,s,G,h1,h2,h3,h4,h5,h6⟩,ok,-,-⟩:=h
 exact⟨⟨S,Z,g,gl,av,ev,xs,ys,s,G,h1,h2,h3,fun k hk=>hq k (h4 k hk),fun k hk=>hq k (h5 k hk),h6⟩,ok,fun k hk=>(hu k hk).1,fun k hk=>(hu k hk).2⟩
theorem dO.fr (h:dO w0 w Q gs m L M) (hf:Fr X w w') (hX:∀k,Q k→¬X k) (hu:∀k,X k→w0.heap.size≤k):dO w0 w' Q gs m L M:=by
 obtain⟨⟨S,Z,g,gl,av,ev,xs,ys,s,G,h1,h2,h3,h4,h5,h6⟩,ok,up,hi⟩:=h
 exact⟨⟨S,Z,g,gl,av,ev,xs,ys,s,G,h1.fr hf (fun k hk=>hX k (h4 k hk)) hu,h2.fr hf fun k hk=>hX k (h5 k hk),h3,h4,h5,h6⟩,ok,up,fun k hk=>Nat.lt_of_lt_of_le (hi k hk) hf.size⟩
theorem dO.below (h:dO w0 w Q gs m L M) (hb:Below w.heap.size w w'):dO w0 w' Q gs m L M:=h.fr (X:=fun _=>False) (Fr.of_below hb) (fun _ _ x=>x) fun _ x=>x.elim
theorem dO.bel (h:dO w0 w Q gs m L M):Below w0.heap.size w0 w:=let ⟨_,_,_,_,_,_,_,_,_,_,h1,_⟩:=h.sv;h1.bel
theorem dO.made (h:dO w0 w Q gs m L M) (hb:Below w.heap.size w w'):dO w0 w' (ext Q w w') gs m L M∧Fr Q w w':=⟨(h.below hb).mono (fun _ hk=>.inl hk) fun _ hk=>eU h.up h.hi h.bel.size hb.size hk,Fr.of_below hb⟩
theorem dO.then {w1:World} (h:dO w0 w Q gs m L M) (h1:Fr Q w w1) (h2:dO w0 w' (ext (ext Q w w1) w1 w') gs m' L' M'∧Fr (ext Q w w1) w1 w'):dO w0 w' (ext Q w w') gs m' L' M'∧Fr Q w w':=
 ⟨h2.1.mono (fun _ hk=>iC h1.size h2.2.size hk) fun _ hk=>eU h.up h.hi h.bel.size (Cz h1.size h2.2.size) hk,h1.trans h2.2 fun i hi hk=>hk.elim id fun hk=>absurd hk.1 (by omega)⟩
theorem dO.behind {w1:World} (h:dO w0 w Q gs m L M) (hb:Below w.heap.size w w1) (h2:dO w0 w' (ext Q w1 w') gs m' L' M'∧Fr Q w1 w'):dO w0 w' (ext Q w w') gs m' L' M'∧Fr Q w w':=
 ⟨h2.1.mono (fun _ hk=>hk.elim .inl fun hk=>.inr ⟨Cz hb.size hk.1,hk.2⟩) fun _ hk=>eU h.up h.hi h.bel.size (Cz hb.size h2.2.size) hk,(Fr.of_below (S:=Q) hb).trans h2.2 fun _ _ hk=>hk⟩
/-- What the log does. -/
theorem dO.log (h:dO w0 w Q gs m L M):∃S g gl s G,KW w0 w S g ⟨m.room,s,none⟩ gl G∧uh m L s G∧w.cell? ⟨gs,0,none⟩=some (.pointer (some ⟨gl,0,none⟩))∧(∀k,S k→Q k)∧¬S gs∧
  ∀w' m' L' s' G',KW w0 w' (ext S w w') g ⟨m'.room,s',none⟩ gl G'→uh m' L' s' G'→Fr S w w'→dO w0 w' (ext Q w w') gs m' L' M∧Fr Q w w':=by
 obtain⟨⟨S,Z,g,gl,av,ev,xs,ys,s,G,h1,h2,h3,h4,h5,h6⟩,ok,up,hi⟩:=h
 refine⟨S,g,gl,s,G,h1,h3,Kq 0 h2.cells,h4,h6 gs h2.zs,fun w' m' L' s' G' hd hl hf=>⟨⟨⟨_,Z,g,gl,av,ev,xs,ys,s',G',hd,h2.fr hf h6,hl,?_,fun k hk=>.inl (h5 k hk),?_⟩,ok,?_,?_⟩,hf.mono fun i _ hk=>h4 i hk⟩⟩
 ·exact fun k hk=>hk.elim (fun hk=>.inl (h4 k hk)) .inr
 ·exact fun k hk hs=>hs.elim (h6 k hk) fun hs=>absurd (hi k (h5 k hk)) (by omega)
 ·exact fun k hk=>(eU up hi h1.bel.size hf.size hk).1
 ·exact fun k hk=>(eU up hi h1.bel.size hf.size hk).2
/-- What the store does, and takes. -/
theorem dO.use (h:dO w0 w Q gs m L M):∃Z gl av ev xs ys,RV w Z gs gl av ev xs ys M∧(∀k,Z k→Q k)∧
  ∀(w':World) (Z':Nat→Prop) I9 ev' xs' ys' (M':aY) (Y:Nat→Prop),RV w' Z' gs gl I9 ev' xs' ys' M'→M'.Ok→Fr Z w w'→(∀k,Y k→¬Q k∧w0.heap.size≤k∧k<w.heap.size)→(∀k,Z' k→Z k∨(w.heap.size≤k∧k<w'.heap.size)∨Y k)→
   dO w0 w' (fun k=>ext Q w w' k∨Y k) gs m L M'∧Fr Q w w':=by
 obtain⟨⟨S,Z,g,gl,av,ev,xs,ys,s,G,h1,h2,h3,h4,h5,h6⟩,ok,up,hi⟩:=h
 refine⟨Z,gl,av,ev,xs,ys,h2,h5,fun w' Z' I9 ev' xs' ys' M' Y hv hok hf hY hZ=>⟨⟨⟨S,Z',g,gl,I9,ev',xs',ys',s,G,h1.fr hf (fun k hs hz=>h6 k hz hs) (fun k hz=>up k (h5 k hz)),hv,h3,fun k hk=>.inl (.inl (h4 k hk)),?_,?_⟩,hok,?_,?_⟩,hf.mono fun i _ hk=>h5 i hk⟩⟩
 ·exact fun k hk=>(hZ k hk).elim (fun hk=>.inl (.inl (h5 k hk))) fun hk=>hk.elim (fun hk=>.inl (.inr hk)) .inr
 ·intro k hk hs
  rcases hZ k hk with hk | hk | hk
  ·exact h6 k hk hs
  ·have:=h1.hi k hs;omega
  ·exact (hY k hk).1 (h4 k hs)
 ·exact fun k hk=>hk.elim (fun hk=>(eU up hi h1.bel.size hf.size hk).1) fun hk=>(hY k hk).2.1
 ·exact fun k hk=>hk.elim (fun hk=>(eU up hi h1.bel.size hf.size hk).2) fun hk=>Nat.lt_of_lt_of_le (hY k hk).2.2 hf.size
theorem RV.len {Z:Nat→Prop} {gl:Nat} {av ev:Value} {xs:List (OV×aH)} {ys:List (Bool×(OV×aH))} (h:RV w Z gs gl av ev xs ys M):xs.length=M.tab.length∧ys.length=M.evs.length:=by
 have h1:=congrArg List.length h.allM
 have h2:=congrArg List.length h.Jr
 simp only[List.length_map] at h1 h2
 exact⟨h1.symm,h2.symm⟩
theorem KW.fits {S:Nat→Prop} {g gl:Nat} {room:Int} {s:Nat→Nat} {G:LG} (h:KW w0 w S g ⟨room,s,none⟩ gl G):(s 0:Int)+s 1+s 2≤room:=by
 obtain⟨O,⟨A,k,h1⟩,_⟩:=h.yC
 exact h1.fits
end
section
variable {w w' w0:World} {Q S X:Nat→Prop} {g gl gs:Nat} {m m':DM} {L L':LM} {M M':aY} {s:Nat→Nat} {G:LG}
theorem LB.off {B n c:Nat} {A:Option Addr} (h:LB w B (.slice A n c) n) (hS:∀k,S k→k<B):0<n→Off S A:=fun hn p hp hk=>by
 obtain⟨l,e,h⟩:=h
 have hl:(au l).length=l.length*1:=h.1
 obtain⟨b,o,cap,e,hb,_⟩:=ah.cells h (by omega)
 injection e with e1 _ _
 rw[e1] at hp
 injection hp with hp
 subst hp
 have:=hS b hk
 omega
theorem cp_D (h:KW w0 w S g ⟨m.room,s,none⟩ gl G) (hL:uh m L s G) (t:List UInt8) (ht:t.length≤1000000) (A:Option Addr) (c:Nat) (hb:LR w (.slice A t.length c) t.length) (hA:0<t.length→Off S A):
  Calls Tryz.prog 81 #[.pointer (some ⟨gl,0,none⟩),.slice A t.length c] w fun e w'=>e=.returned (.int .i64 (L.mM m t:Int))∧∃s' G',KW w0 w' (ext S w w') g ⟨(L.lD m t).room,s',none⟩ gl G'∧uh (L.lD m t) (L.cp m t) s' G'∧Fr S w w':=by
 obtain⟨hs,hg⟩:=hL.slot
 refine(JZ A t.length c h hL.r0 hL.r1 h.fits hs hg ht hb hA).mono ?_
 rcases hL.cp t with ⟨e0,hc,em,el⟩ | ⟨e0,hc,hl,er⟩
 ·rintro e w' (⟨-,rfl,hb⟩ | ⟨hn,-⟩)
  ·refine ⟨by rw[e0];rfl,s,G,?_⟩
   rw[em,el]
   exact⟨(h.made hb).1,hL,(h.made hb).2⟩
  ·exact absurd hc hn
 ·rintro e w' (⟨hn,-⟩ | ⟨-,rfl,hk,hf⟩)
  ·exact absurd hn hc
  ·exact ⟨by rw[e0];rfl,_,_,by rw[er];exact hk,hl,hf⟩
theorem ap_D (h:KW w0 w S g ⟨m.room,s,none⟩ gl G) (hL:uh m L s G) (t:List UInt8) (ht:t.length≤16384) (A:Option Addr) (c:Nat) (hb:LR w (.slice A t.length c) t.length) (hA:0<t.length→Off S A):
  Calls Tryz.prog 133 #[.pointer (some ⟨gl,0,none⟩),.slice A t.length c] w fun e w'=>e=.returned (.int .i64 (L.dQ m t:Int))∧∃s' G',KW w0 w' (ext S w w') g ⟨(L.iE m t).room,s',none⟩ gl G'∧uh (L.iE m t) (L.app m t) s' G'∧Fr S w w':=by
 obtain⟨hs,hg⟩:=hL.slot
 refine(Ou A t.length c h hL.r1 hL.end hg hb hA ht).mono ?_
 rcases hL.app t ht with ⟨e0,hc,em,el⟩ | ⟨e0,hc,hl,er⟩
 ·rintro e w' (⟨-,rfl,hb⟩ | ⟨hn,-⟩)
  ·refine ⟨by rw[e0];rfl,s,G,?_⟩
   rw[em,el]
   exact⟨(h.made hb).1,hL,(h.made hb).2⟩
  ·omega
 ·rintro e w' (⟨hn,-⟩ | ⟨-,rfl,hk,hf⟩)
  ·omega
  ·exact ⟨by rw[e0];rfl,_,_,by rw[er];exact hk,hl,hf⟩
theorem RV.fresh {Z:Nat→Prop} {av ev:Value} {xs:List (OV×aH)} {ys:List (Bool×(OV×aH))} (h:RV w Z gs gl av ev xs ys M):
  RV ((w.setCell ⟨gs,3,none⟩ (.int .i64 (M.rev:Int))).setCell ⟨gs,4,none⟩ (.slice none 0 0)) Z gs gl av (.slice none 0 0) xs [] M.fresh∧Fr (fun k=>k=gs) w ((w.setCell ⟨gs,3,none⟩ (.int .i64 (M.rev:Int))).setCell ⟨gs,4,none⟩ (.slice none 0 0)):=by
 have hf:Fr (fun k=>k=gs) w ((w.setCell ⟨gs,3,none⟩ (.int .i64 (M.rev:Int))).setCell ⟨gs,4,none⟩ (.slice none 0 0)):=((Fr.refl (fun k=>k=gs) w).setCell (p:=⟨gs,3,none⟩) (fun _=>rfl) _).setCell (p:=⟨gs,4,none⟩) (fun _=>rfl) _
 refine⟨⟨heap_setCell_same _ _ 4 _ _ _ (heap_setCell_same _ _ 3 _ _ _ h.cells),ah.kept h.all hf fun k hk e=> ?_,h.allM,fun x hx=>h.keeps hf (h.each x hx),ah.nil _ _ _ _,rfl,(by intro y hy;cases hy),h.zs,h.za,(by intro k hk;cases hk),h.zx,(by intro y hy;cases hy)⟩,hf⟩
 obtain⟨cur,hcur⟩:=ak h.all hk
 subst e
 exact absurd (aj hcur h.cells) (by decide)
set_option maxHeartbeats 4000000 in
set_option maxRecDepth 100000 in
theorem qU (h:dO w0 w Q gs m L M) (hl:M.tab.length≤90):
  Calls Tryz.prog 36 #[.pointer (some ⟨gs,0,none⟩)] w fun e w'=>e=.returned (.int .i64 (L.mM m (aP M.rev M.tab):Int))∧
   dO w0 w' (ext Q w w') gs (L.lD m (aP M.rev M.tab)) (L.cp m (aP M.rev M.tab)) (if L.mM m (aP M.rev M.tab)=0 then M.fresh else M)∧Fr Q w w':=by
 obtain⟨t,ht⟩:∃t,t=aP M.rev M.tab:=⟨_,rfl⟩
 have hT:Hid (∀W,Below w.heap.size w W→Calls Tryz.prog 82 #[.pointer (some ⟨gs,0,none⟩)] W fun e w'=>∃A c,e=.returned (.slice A t.length c)∧LB w' W.heap.size (.slice A t.length c) t.length∧Below W.heap.size W w'):=Hj fun W hW=>by
  obtain⟨Z,gl,av,ev,xs,ys,hv,-,-⟩:=(h.below hW).use
  rw[ht]
  exact Zu hv h.ok (by rw[hv.len.1];omega)
 have htl:t.length≤1000000:=by
  obtain⟨Z,gl,av,ev,xs,ys,hv,-,-⟩:=h.use
  have:=h.ok.most
  have hx:∀x∈xs,(fQ (false,x.2)).length≤10504:=fun x hx=>by
   have hm:x.2∈M.tab.map fun y=>y.2:=by rw[hv.allM];exact List.mem_map.2 ⟨x,hx,rfl⟩
   obtain⟨y,hy,e⟩:=List.mem_map.1 hm
   rw[←e]
   obtain⟨-,a,-,b⟩:=h.ok.tab.each y hy
   exact lI (e:=(false,y.2)) a (by show y.2.ver≤_;omega)
  have h1:=Pn M.rev (by omega) xs hx
  rw[Em hv.allM,←ht] at h1
  have:=hv.len.1
  omega
 obtain⟨S,g,gl,s,G,hk,hL,c0,UM,X8,hback⟩:=h.log
 have HC:Hid (∀W A c,Below w.heap.size w W→LB W w.heap.size (.slice A t.length c) t.length→Calls Tryz.prog 81 #[.pointer (some ⟨gl,0,none⟩),.slice A t.length c] W fun e w'=>e=.returned (.int .i64 (L.mM m t:Int))∧dO w0 w' (ext Q w w') gs (L.lD m t) (L.cp m t) M∧Fr Q w w'∧w'.cell? ⟨gs,0,none⟩=some (.pointer (some ⟨gl,0,none⟩))):=Hj fun W A c hW hb=>by
  refine(cp_D (hk.below hW) hL t htl A c hb.lr (hb.off fun k hk'=>hk.hi k hk')).mono ?_
  rintro e w' ⟨rfl,s',G',k1,k2,k3⟩
  have hkk:KW w0 w' (ext S w w') g ⟨(L.lD m t).room,s',none⟩ gl G'∧Fr S w w':=hk.behind hW ⟨k1,k3⟩
  obtain⟨r1,r2⟩:=hback w' _ _ s' G' hkk.1 k2 hkk.2
  exact⟨rfl,r1,r2,(k3.cell (p:=⟨gs,0,none⟩) (World.block_lt_of_cell? W _ (Kz hW _ _ c0)) X8).trans (Kz hW _ _ c0)⟩
 have K0:Hid (∀W,Below w.heap.size w W→W.cell? ⟨gs,0,none⟩=some (.pointer (some ⟨gl,0,none⟩))):=Hj fun W hW=>Kz hW _ _ c0
 have HS:=Hj h
 rw[←ht]
 clear h ht htl hk hL hback UM hl X8
 generalize L.mM m t=E at*
 have BD:Hid (Below w.heap.size w w.drew):=Hj (Below.drew (Below.refl _ _))
 go_enter Tryz.func36,Tryz.ntmps36
 go_wp2
 go_region_held3 (fun w'=>w'.cell? ⟨gs,0,none⟩=some (.pointer (some ⟨gl,0,none⟩))) (first | assumption | go_keep) (first
  | (go_at_call 82;((with_reducible refine(hT.out w.drew BD.out).mono ?_);rintro e w1 ⟨A1,c1,rfl,ho,hb⟩;have O1:=Hj (ho.mono BD.out.size);have B1:=Hj (BD.out.trans (hb.mono BD.out.size));have k1:=K0.out w1 B1.out;clear ho hb))
  | (go_at_call 81;((with_reducible refine(HC.out w1 A1 c1 B1.out O1.out).mono ?_);rintro e w2 ⟨rfl,hr,hf,k2⟩;have R2:=Hj hr;have F2:=Hj hf;clear hr hf))
  | fail)
 all_goals
  by_cases hE:E=0
  ·obtain ⟨Z,gl',av,ev,xs,ys,hv,hZ,hback⟩:=R2.out.use
   have p2:w2.cell? ⟨gs,2,none⟩=some (.int .i64 (M.rev:Int)):=Kq 2 hv.cells
   have p3:w2.cell? ⟨gs,3,none⟩=some (.int .i64 (M.base:Int)):=Kq 3 hv.cells
   have p4:w2.cell? ⟨gs,4,none⟩=some ev:=Kq 4 hv.cells
   have f3:w2.frozen? ⟨gs,3,none⟩=false:=Kj hv.cells
   have f4:w2.frozen? ⟨gs,4,none⟩=false:=Kj hv.cells
   have hE2:(E:Int)=0:=by omega
   have HV:=Hj hv
   have HB:=Hj (fun W Z' I9 ev' xs' ys' M'=>hback W Z' I9 ev' xs' ys' M' fun _=>False)
   have HZ:=Hj hZ
   clear hv hback hZ
   subst hE
   go_wp2
   go_ret
   obtain⟨v1,v2⟩:=HV.out.fresh
   obtain⟨r1,r2⟩:=HB.out _ Z av _ xs [] M.fresh v1 (aY.vW HS.out.ok.tab HS.out.ok.most) (v2.mono fun i _ e=>by subst e;exact HV.out.zs) (fun k hk=>hk.elim) fun k hk=>.inl hk
   exact⟨rfl,HS.out.then F2.out ⟨r1.mono (fun k hk=>hk.elim id fun x=>x.elim) fun k hk=>eU R2.out.up R2.out.hi R2.out.bel.size r2.size hk,r2⟩⟩
  ·have hE2:¬(E:Int)=0:=by omega
   have HE:=Hj hE
   clear hE
   go_wp2
   go_ret
   exact⟨rfl,R2.out,F2.out⟩
end
end Go.Proofs.YtdhbpajamlfacaaGreatDoor
