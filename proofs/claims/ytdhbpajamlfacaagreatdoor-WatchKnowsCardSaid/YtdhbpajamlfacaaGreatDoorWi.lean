/- A change of both sides (bullalaw21.change). -/
import Derived.Test.YtdhbpajamlfacaaGreatDoorWf
namespace Go.Proofs.YtdhbpajamlfacaaGreatDoor
open Go.RowKit SO
section
variable {w w' w0 W w4 w5:World} {Qs Qd Q:Nat→Prop} {g gs gd:Nat} {m m':DM} {L L':LM} {M M':aY} {ea:Nat→Addr}
/-- Both sides have gone on alike. -/
def Step (w0 w w':World) (Qs Qd:Nat→Prop) (g gs gd:Nat) (m:DM) (L:LM) (M:aY):Prop:=∃qm qo,Two w0 w' qm qo g gs gd m L M∧Fr (fun k=>(Qs k∨Qd k)∧ay w k) w w'∧(∀k,qm k→Qs k∨w.heap.size≤k)∧∀k,qo k→Qd k∨w.heap.size≤k
theorem Step.below (h:Step w0 w w4 Qs Qd g gs gd m L M) (hb:Below w4.heap.size w4 w5):Step w0 w w5 Qs Qd g gs gd m L M:=by
 obtain⟨qm,qo,h1,h2,h3⟩:=h
 exact⟨qm,qo,h1.below hb,h2.trans (Fr.of_below (S:=fun _=>False) hb) fun _ _ x=>x.elim,h3⟩
theorem Two.still (h:Two w0 w Qs Qd g gs gd m L M) (hb:Below w.heap.size w W):Step w0 w W Qs Qd g gs gd m L M:=⟨Qs,Qd,h.below hb,Fr.of_below hb,fun _=>.inl,fun _=>.inl⟩
theorem Two.both (h:Two w0 w Qs Qd g gs gd m L M) (hb:Below w.heap.size w W) (h4:SW w0 w4 (ext (fun k=>Qs k∧ay w k) W w4) g m' gs L' M') (hf:Fr (fun k=>Qs k∧ay w k) W w4) (h5:dO w0 w5 (ext (fun k=>Qd k∧ay w k) w4 w5) gd m' L' M') (hf5:Fr (fun k=>Qd k∧ay w k) w4 w5):Step w0 w w5 Qs Qd g gs gd m' L' M':=by
 obtain⟨h1,h2⟩:=h.third hb h4 hf h5 hf5
 have s1:=hb.size
 have s2:=hf.size
 exact⟨_,_,h1,h2,fun k hk=>hk.imp (fun h=>h.1) fun h=>by omega,fun k hk=>hk.imp (fun h=>h.1) fun h=>by omega⟩
theorem Step.bel (h:Step w0 w w4 Qs Qd g gs gd m L M):Below w0.heap.size w0 w4:=let ⟨_,_,h1,_⟩:=h;h1.s.bel
theorem r4set {w2 w3:World} {B:Nat} {v:OV} {V:Int} {x:Value} (h:Below w2.heap.size w2 w3) (x1:w3.heap[B+1]?=some (.cells #[.int .i64 v.kind,.string v.space,.string v.name,x,.slice v.A v.n v.c] 37 (0,0))):w2.heap.size≤(w3.setCell ⟨B+1,3,none⟩ (.int .i64 V)).heap.size∧VB (w3.setCell ⟨B+1,3,none⟩ (.int .i64 V)) (B+1) (⟨v.kind,v.space,v.name,V,v.A,v.n,v.c⟩:OV):=
 ⟨by simpa [World.setCell] using h.size,VB.aG (by simpa using heap_setCell_same _ _ 3 _ _ (.int .i64 V) x1)⟩
set_option maxHeartbeats 8000000 in
set_option maxRecDepth 100000 in
theorem EZ {i:Nat} (v:OV) (bs:List UInt8) (kd:Int) (h:Two w0 w Qs Qd g gs gd m L M) (he:Errs w0 ea) (hE:EW w0 ea) (hI:dH m L M i) (hi:i≤60) (hv:RB w0 v.A v.n bs) (hk:v.kind≤9223372036854775807) (hs:v.space.size≤1000) (hn:v.name.size≤1000):
  Calls Tryz.prog 10 #[.pointer (some ⟨gs,0,none⟩),.pointer (some ⟨gd,0,none⟩),.agg #[.int .i64 kd,.int .i64 v.kind,.string v.space,.string v.name,.int .i64 v.ver,.slice v.A v.n v.c]] w fun e w'=>e=.returned (.bool true)∧∃m' L' M',Step w0 w w' Qs Qd g gs gd m' L' M'∧dH m' L' M' (i+1)∧Turn M M':=by
 obtain⟨w2,hw2⟩:∃W,W=(w.alloc (.cells #[.int .i64 kd,.int .i64 v.kind,.string v.space,.string v.name,.int .i64 v.ver,.slice v.A v.n v.c] 39)).alloc (.cells #[.int .i64 v.kind,.string v.space,.string v.name,.int .i64 v.ver,.slice v.A v.n v.c] 37):=⟨_,rfl⟩
 obtain⟨k1,k2,k3⟩:=aC w (.cells #[.int .i64 kd,.int .i64 v.kind,.string v.space,.string v.name,.int .i64 v.ver,.slice v.A v.n v.c] 39) (.cells #[.int .i64 v.kind,.string v.space,.string v.name,.int .i64 v.ver,.slice v.A v.n v.c] 37)
 have hsz:w2.heap.size=w.heap.size+2:=by rw[hw2];simp
 rw[←hw2] at k1 k2 k3
 obtain⟨B,hB⟩:∃B,B=w.heap.size:=⟨_,rfl⟩
 obtain⟨f1,f2,f3,f4,f5,f6,-⟩:=hI.facts (by omega)
 have HF:=Hj ((h.d.below k3).findV (by omega) v)
 have HK:Hid (∀W,Below w2.heap.size w2 W→W.heap[B]?=some (.cells #[.int .i64 kd,.int .i64 v.kind,.string v.space,.string v.name,.int .i64 v.ver,.slice v.A v.n v.c] 39 (0,0))∧W.heap[B+1]?=some (.cells #[.int .i64 v.kind,.string v.space,.string v.name,.int .i64 v.ver,.slice v.A v.n v.c] 37 (0,0))):=Hj fun W hW=>by
  rw[hB]
  exact⟨(hW.block _ (by omega)).trans k1,(hW.block _ (by omega)).trans k2⟩
 have HB:Hid (∀W,Below w2.heap.size w2 W→Below w.heap.size w W):=Hj fun W hW=>k3.trans (hW.mono k3.size)
 have HV:Hid (∀W W' V,w2.heap.size≤W.heap.size→Fr (fun k=>Qs k∧ay w k) W W'→VB W (B+1) (⟨v.kind,v.space,v.name,V,v.A,v.n,v.c⟩:OV)→VB W' (B+1) (⟨v.kind,v.space,v.name,V,v.A,v.n,v.c⟩:OV)):=Hj fun W W' V hW hf hv=>by
  have hn:¬(Qs (B+1)∧ay w (B+1)):=fun x=>by have:=h.s.hi _ x.1;omega
  have e:∀j x,W.cell? ⟨B+1,j,none⟩=some x→W'.cell? ⟨B+1,j,none⟩=some x:=fun j x hx=>(hf.cell (p:=⟨B+1,j,none⟩) (by dsimp only;omega) hn).trans hx
  exact⟨e _ _ hv.1,e _ _ hv.2.1,e _ _ hv.2.2.1,e _ _ hv.2.2.2.1,e _ _ hv.2.2.2.2⟩
 have HCre:Hid (∀W V,Below w.heap.size w W→Calls Tryz.prog 23 #[.pointer (some ⟨gs,0,none⟩),.agg #[.int .i64 v.kind,.string v.space,.string v.name,.int .i64 V,.slice v.A v.n v.c]] W fun e w'=>∃n E M' L' m',e=.returned (.tuple #[.int .i64 ((n:Nat):Int),bK ea E])∧Puts M L m (dD M (⟨v.kind,v.space,v.name,V,v.A,v.n,v.c⟩:OV)) (false,dW M (⟨v.kind,v.space,v.name,V,v.A,v.n,v.c⟩:OV) bs) n E M' L' m'∧SW w0 w' (ext (fun k=>Qs k∧ay w k) W w') g m' gs L' M'∧Fr (fun k=>Qs k∧ay w k) W w'):=Hj fun W V hW=>pq ⟨v.kind,v.space,v.name,V,v.A,v.n,v.c⟩ bs (h.first hW) he hE f1 f2 f3 (hv.keep (Kz (h.s.bel.trans (hW.mono h.s.bel.size)))) hk hs hn f4 f5 f6
 have HCreR:Hid (∀W W5 V n E M' L' m',Below w.heap.size w W→Puts M L m (dD M (⟨v.kind,v.space,v.name,V,v.A,v.n,v.c⟩:OV)) (false,dW M (⟨v.kind,v.space,v.name,V,v.A,v.n,v.c⟩:OV) bs) n E M' L' m'→SW w0 W5 (ext (fun k=>Qs k∧ay w k) W W5) g m' gs L' M'→Fr (fun k=>Qs k∧ay w k) W W5→Calls Tryz.prog 30 #[.pointer (some ⟨gd,0,none⟩),.agg #[.int .i64 v.kind,.string v.space,.string v.name,.int .i64 V,.slice v.A v.n v.c]] W5 fun e w'=>e=.returned (.tuple #[.int .i64 ((n:Nat):Int),.int .i64 ((E:Nat):Int)])∧Step w0 w w' Qs Qd g gs gd m' L' M'∧(dH m' L' M' (i+1)∧Turn M M')∧E≤28):=Hj fun W W5 V n E M' L' m' hW hp h4 hf=>(Tz (h.second hW hf) ⟨v.kind,v.space,v.name,V,v.A,v.n,v.c⟩ bs (hv.keep (Kz h4.bel)) f4 f5 f6).mono fun e w' ⟨n2,E2,M2,L2,m2,h1,h2,h3,h4'⟩=>by
  obtain⟨rfl,rfl,rfl,rfl,rfl⟩:=Puts.same hp h2
  exact⟨h1,h.both hW h4 hf h3 h4',hI.cre (v:=⟨v.kind,v.space,v.name,V,v.A,v.n,v.c⟩) (by omega) hv.1.symm hp⟩
 have HUpd:Hid (∀W V,Below w.heap.size w W→Calls Tryz.prog 31 #[.pointer (some ⟨gs,0,none⟩),.agg #[.int .i64 v.kind,.string v.space,.string v.name,.int .i64 V,.slice v.A v.n v.c]] W fun e w'=>∃n E M' L' m',e=.returned (.tuple #[.int .i64 ((n:Nat):Int),bK ea E])∧Puts M L m (mV M (⟨v.kind,v.space,v.name,V,v.A,v.n,v.c⟩:OV)) (false,dW M (⟨v.kind,v.space,v.name,V,v.A,v.n,v.c⟩:OV) bs) n E M' L' m'∧SW w0 w' (ext (fun k=>Qs k∧ay w k) W w') g m' gs L' M'∧Fr (fun k=>Qs k∧ay w k) W w'):=Hj fun W V hW=>FQ ⟨v.kind,v.space,v.name,V,v.A,v.n,v.c⟩ bs (h.first hW) he hE f1 f2 f3 (hv.keep (Kz (h.s.bel.trans (hW.mono h.s.bel.size)))) hk hs hn f4 f5 f6
 have HUpdR:Hid (∀W W5 V n E M' L' m',Below w.heap.size w W→Puts M L m (mV M (⟨v.kind,v.space,v.name,V,v.A,v.n,v.c⟩:OV)) (false,dW M (⟨v.kind,v.space,v.name,V,v.A,v.n,v.c⟩:OV) bs) n E M' L' m'→SW w0 W5 (ext (fun k=>Qs k∧ay w k) W W5) g m' gs L' M'→Fr (fun k=>Qs k∧ay w k) W W5→Calls Tryz.prog 32 #[.pointer (some ⟨gd,0,none⟩),.agg #[.int .i64 v.kind,.string v.space,.string v.name,.int .i64 V,.slice v.A v.n v.c]] W5 fun e w'=>e=.returned (.tuple #[.int .i64 ((n:Nat):Int),.int .i64 ((E:Nat):Int)])∧Step w0 w w' Qs Qd g gs gd m' L' M'∧(dH m' L' M' (i+1)∧Turn M M')∧E≤28):=Hj fun W W5 V n E M' L' m' hW hp h4 hf=>(Tq (h.second hW hf) ⟨v.kind,v.space,v.name,V,v.A,v.n,v.c⟩ bs (hv.keep (Kz h4.bel)) f4 f5 f6).mono fun e w' ⟨n2,E2,M2,L2,m2,h1,h2,h3,h4'⟩=>by
  obtain⟨rfl,rfl,rfl,rfl,rfl⟩:=Puts.same hp h2
  exact⟨h1,h.both hW h4 hf h3 h4',hI.upd (v:=⟨v.kind,v.space,v.name,V,v.A,v.n,v.c⟩) (by omega) hv.1.symm hp⟩
 have CY:Hid (∀W V,Below w.heap.size w W→Calls Tryz.prog 33 #[.pointer (some ⟨gs,0,none⟩),.agg #[.int .i64 v.kind,.string v.space,.string v.name,.int .i64 V,.slice v.A v.n v.c]] W fun e w'=>∃n E M' L' m',e=.returned (.tuple #[.int .i64 ((n:Nat):Int),bK ea E])∧Puts M L m (kL M (⟨v.kind,v.space,v.name,V,v.A,v.n,v.c⟩:OV)) (true,dW M (⟨v.kind,v.space,v.name,V,v.A,v.n,v.c⟩:OV) []) n E M' L' m'∧SW w0 w' (ext (fun k=>Qs k∧ay w k) W w') g m' gs L' M'∧Fr (fun k=>Qs k∧ay w k) W w'):=Hj fun W V hW=>FU ⟨v.kind,v.space,v.name,V,v.A,v.n,v.c⟩ (h.first hW) he hE f1 f2 f3 hk hs hn f4 f5 f6
 have HDelR:Hid (∀W W5 V n E M' L' m',Below w.heap.size w W→Puts M L m (kL M (⟨v.kind,v.space,v.name,V,v.A,v.n,v.c⟩:OV)) (true,dW M (⟨v.kind,v.space,v.name,V,v.A,v.n,v.c⟩:OV) []) n E M' L' m'→SW w0 W5 (ext (fun k=>Qs k∧ay w k) W W5) g m' gs L' M'→Fr (fun k=>Qs k∧ay w k) W W5→Calls Tryz.prog 34 #[.pointer (some ⟨gd,0,none⟩),.agg #[.int .i64 v.kind,.string v.space,.string v.name,.int .i64 V,.slice v.A v.n v.c]] W5 fun e w'=>e=.returned (.tuple #[.int .i64 ((n:Nat):Int),.int .i64 ((E:Nat):Int)])∧Step w0 w w' Qs Qd g gs gd m' L' M'∧(dH m' L' M' (i+1)∧Turn M M')∧E≤28):=Hj fun W W5 V n E M' L' m' hW hp h4 hf=>(Tt (h.second hW hf) ⟨v.kind,v.space,v.name,V,v.A,v.n,v.c⟩ f4 f5 f6).mono fun e w' ⟨n2,E2,M2,L2,m2,h1,h2,h3,h4'⟩=>by
  obtain⟨rfl,rfl,rfl,rfl,rfl⟩:=Puts.same hp h2
  exact⟨h1,h.both hW h4 hf h3 h4',hI.del (v:=⟨v.kind,v.space,v.name,V,v.A,v.n,v.c⟩) (by omega) hp⟩
 have Fj:Hid (∀W,Below w.heap.size w W→Calls Tryz.prog 35 #[.pointer (some ⟨gs,0,none⟩)] W fun e w'=>∃M' L' m',M'=(if L.mM m (aP M.rev M.tab)=0 then M.fresh else M)∧L'=L.cp m (aP M.rev M.tab)∧m'=L.lD m (aP M.rev M.tab)∧e=.returned (bK ea (L.mM m (aP M.rev M.tab)))∧SW w0 w' (ext (fun k=>Qs k∧ay w k) W w') g m' gs L' M'∧Fr (fun k=>Qs k∧ay w k) W w'):=Hj fun W hW=>(vU (h.first hW) hE f1 f2 (by omega) f5).mono fun e w' ⟨h1,h2,h3⟩=>⟨_,_,_,rfl,rfl,rfl,h1,h2,h3⟩
 have HCpR:Hid (∀W W5 M' L' m',Below w.heap.size w W→M'=(if L.mM m (aP M.rev M.tab)=0 then M.fresh else M)→L'=L.cp m (aP M.rev M.tab)→m'=L.lD m (aP M.rev M.tab)→SW w0 W5 (ext (fun k=>Qs k∧ay w k) W W5) g m' gs L' M'→Fr (fun k=>Qs k∧ay w k) W W5→Calls Tryz.prog 36 #[.pointer (some ⟨gd,0,none⟩)] W5 fun e w'=>e=.returned (.int .i64 (L.mM m (aP M.rev M.tab):Int))∧Step w0 w w' Qs Qd g gs gd m' L' M'∧(dH m' L' M' (i+1)∧Turn M M')∧L.mM m (aP M.rev M.tab)≤28):=Hj fun W W5 M' L' m' hW e1 e2 e3 h4 hf=>(qU (h.second hW hf) f5).mono fun e w' ⟨h1,h2,h3⟩=>by
  subst e1
  subst e2
  subst e3
  obtain⟨k1,k2⟩:=hI.comp (by omega)
  exact⟨h1,h.both hW h4 hf h2 h3,⟨k1.mono (by omega),by split;exact⟨_,.inr rfl,.inl rfl⟩;exact Turn.refl _⟩,by omega⟩
 have XA:Hid (∀W E,Below w0.heap.size w0 W→E≤28→Calls Tryz.prog 13 #[bK ea E] W fun e w'=>e=.returned (.int .i64 (E:Int))∧Below W.heap.size W w'):=Hj fun W E hW hE=>by
  have:=IU (he.below hW) E hE
  rwa [qF] at this
 have xZ:Hid (∀W,Below w.heap.size w W→Step w0 w W Qs Qd g gs gd m L M∧dH m L M (i+1)∧Turn M M):=Hj fun W hW=>⟨h.still hW,hI.mono (by omega),Turn.refl _⟩
 have HW:=Hj (And.intro hw2 hB)
 have HS2:Hid (w2.heap.size=B+2):=Hj (by omega)
 have hcase:kd=0∨kd=1∨kd=2∨kd=3∨((kd==0)=false∧(kd==1)=false∧(kd==2)=false∧(kd==3)=false):=by
  simp only[beq_eq_false_iff_ne]
  omega
 have hg:(getM M v.kind v.space v.name).isSome=false∨(getM M v.kind v.space v.name).isSome=true:=by cases getM M v.kind v.space v.name<;>simp
 clear h he hE hI hi hv hk hs hn hw2 k1 k2 k3 hsz hB f1 f2 f3 f4 f5 f6
 rcases hcase with rfl | rfl | rfl | rfl | ⟨q0,q1,q2,q3⟩<;>rcases hg with hg | hg
 all_goals
  have HG:=Hj hg
  clear hg
  go_enter Tryz.func10,Tryz.ntmps10
  go_wp2_with (first
   | (go_at_call 29;rw[←HW.out.1];((with_reducible refine HF.out.mono ?_);rintro e w3 ⟨r,rfl,hb3,hr⟩;have B3:=Hj hb3;rw[←HW.out.2];obtain⟨x0,x1⟩:=HK.out w3 hb3;obtain⟨b0,b1,b2,b3,b4⟩:VB w3 (B+1) v:=VB.aG x1;have c0:w3.cell? ⟨B,0,none⟩=some (.int .i64 _):=Kq 0 x0;have fz:w3.frozen? ⟨B+1,3,none⟩=false:=Kj x1;have hG:=HG.out;rcases hr with ⟨hn,rfl⟩ | ⟨hs,k,n,c,b,o,V,rfl,hkn,d1,d2⟩<;>(first | (rw[hn] at hG;cases hG;done) | (rw[hs] at hG;cases hG;done) | skip);(first | (have i0:(0:Int)≤(k:Int):=Int.natCast_nonneg k;have i1:(k:Int)<(n:Int):=Int.ofNat_lt.2 hkn;clear hkn) | skip);clear hb3 x0 x1))
   | fail)
  first
  | (obtain⟨w4,hw4⟩:∃W,W=w3.setCell ⟨B+1,3,none⟩ (.int .i64 V):=⟨_,rfl⟩
     rw[←hw4]
     have R4:Hid (Below w.heap.size w w4∧w2.heap.size≤w4.heap.size∧VB w4 (B+1) (⟨v.kind,v.space,v.name,V,v.A,v.n,v.c⟩:OV)):=Hj (by
      rw[hw4]
      exact⟨(HB.out w3 B3.out).setCell (p:=⟨B+1,3,none⟩) (by have:=HW.out.2;dsimp only;omega) _,r4set B3.out (HK.out w3 B3.out).2⟩)
     clear hw4 b0 b1 b2 b3 b4 c0 fz d1 d2
     obtain⟨b0,b1,b2,b3,b4⟩:=R4.out.2.2)
  | (obtain⟨V,hV⟩:∃V,V=v.ver:=⟨_,rfl⟩
     obtain⟨w4,rfl⟩:∃W,W=w3:=⟨_,rfl⟩
     rw[←hV]
     rw[←hV] at b3
     have R4:Hid (Below w.heap.size w w4∧w2.heap.size≤w4.heap.size∧VB w4 (B+1) (⟨v.kind,v.space,v.name,V,v.A,v.n,v.c⟩:OV)):=Hj ⟨HB.out w4 B3.out,B3.out.size,b0,b1,b2,b3,b4⟩
     clear hV c0 fz)
  go_wp2_with (first
   | (go_at_call 23;((with_reducible refine(HCre.out w4 V R4.out.1).mono ?_);rintro e w5 ⟨n,E,M',L',m',rfl,hp,hs5,hf5⟩;have P5:=Hj hp;have S5:=Hj hs5;have F5:=Hj hf5;obtain⟨b0,b1,b2,b3,b4⟩:=HV.out w4 w5 V R4.out.2.1 hf5 R4.out.2.2;clear hp hs5 hf5))
   | (go_at_call 30;((with_reducible refine(HCreR.out w4 w5 V n E M' L' m' R4.out.1 P5.out S5.out F5.out).mono ?_);rintro e w6 ⟨rfl,h1,h2,h3⟩;have ST:=Hj (And.intro h1 (And.intro h2 h3));clear h1 h2 h3))
   | (go_at_call 31;((with_reducible refine(HUpd.out w4 V R4.out.1).mono ?_);rintro e w5 ⟨n,E,M',L',m',rfl,hp,hs5,hf5⟩;have P5:=Hj hp;have S5:=Hj hs5;have F5:=Hj hf5;obtain⟨b0,b1,b2,b3,b4⟩:=HV.out w4 w5 V R4.out.2.1 hf5 R4.out.2.2;clear hp hs5 hf5))
   | (go_at_call 32;((with_reducible refine(HUpdR.out w4 w5 V n E M' L' m' R4.out.1 P5.out S5.out F5.out).mono ?_);rintro e w6 ⟨rfl,h1,h2,h3⟩;have ST:=Hj (And.intro h1 (And.intro h2 h3));clear h1 h2 h3))
   | (go_at_call 33;((with_reducible refine(CY.out w4 V R4.out.1).mono ?_);rintro e w5 ⟨n,E,M',L',m',rfl,hp,hs5,hf5⟩;have P5:=Hj hp;have S5:=Hj hs5;have F5:=Hj hf5;obtain⟨b0,b1,b2,b3,b4⟩:=HV.out w4 w5 V R4.out.2.1 hf5 R4.out.2.2;clear hp hs5 hf5))
   | (go_at_call 34;((with_reducible refine(HDelR.out w4 w5 V n E M' L' m' R4.out.1 P5.out S5.out F5.out).mono ?_);rintro e w6 ⟨rfl,h1,h2,h3⟩;have ST:=Hj (And.intro h1 (And.intro h2 h3));clear h1 h2 h3))
   | (go_at_call 35;((with_reducible refine(Fj.out w4 R4.out.1).mono ?_);rintro e w5 ⟨M',L',m',e1,e2,e3,rfl,hs5,hf5⟩;have P5:=Hj (And.intro e1 (And.intro e2 e3));have S5:=Hj hs5;have F5:=Hj hf5;clear e1 e2 e3 hs5 hf5))
   | (go_at_call 36;((with_reducible refine(HCpR.out w4 w5 M' L' m' R4.out.1 P5.out.1 P5.out.2.1 P5.out.2.2 S5.out F5.out).mono ?_);rintro e w6 ⟨rfl,h1,h2,h3⟩;have ST:=Hj (And.intro h1 (And.intro h2 h3));clear h1 h2 h3))
   | (go_at_call 13;(first
     | ((with_reducible refine(XA.out w6 _ ST.out.1.bel ST.out.2.2).mono ?_);rintro e w7 ⟨rfl,hb7⟩;have ST7:=Hj (And.intro (ST.out.1.below hb7) ST.out.2.1);clear hb7)
     | ((with_reducible refine(IQ w4).mono ?_);rintro e w7 ⟨rfl,rfl⟩;have ST7:=Hj (xZ.out _ R4.out.1))))
   | fail)
  go_ret
  exact⟨rfl,_,_,_,ST7.out⟩
end
/-- The table g holds the objects K, their bytes lie in P. -/
def KT (w:World) (P:Nat→Prop) (g:Nat) (K:List (ByteArray×aH)):Prop:=∃(sh:Code) (xs:List (ByteArray×(OV×aH))),TabAt w g sh (xs.map fun x=>(x.1,x.2.1))∧K=xs.map (fun x=>(x.1,x.2.2))∧(∀x∈xs,dI w x.2.1 x.2.2∧∀k,(sl x.2.1).ownBlock=some k→P k)∧aO aJ K
/-- v is a slice of the objects l. -/
def OS (w:World) (base:Nat) (v:Value) (l:List aH):Prop:=∃os:List (OV×aH),OL w base v (os.map fun x=>x.1)∧os.map (fun x=>x.2)=l∧∀x∈os,dI w x.1 x.2
/-- Only tables, reports, rows of objects turned. -/
def Sf (w w':World):Prop:=∃X:Nat→Prop,Fr X w w'∧∀k cs T,X k→w.heap[k]?=some (.cells cs T (0,0))→T=146∨T=43∨T=37∨T=85
section
variable {w w' w0:World} {X P P':Nat→Prop} {g base:Nat} {K:List (ByteArray×aH)} {v:Value} {l:List aH} {u:OV} {o:aH}
theorem Sf.own (h:Sf w w') {b e size n:Nat} {xs:List Value} (ho:ah w b e size v n xs) (h1:e≠146) (h2:e≠43) (h3:e≠37) (h4:e≠85):ah w' b e size v n xs:=by
 obtain⟨X,hf,hX⟩:=h
 refine ho.kept hf fun k hk hx=> ?_
 obtain⟨cur,hc⟩:=ak ho hk
 rcases hX k _ _ hx hc with e | e | e | e
 ·exact h1 e
 ·exact h2 e
 ·exact h3 e
 ·exact h4 e
theorem Sf.Rj (h:Sf w w') (hv:dI w u o):dI w' u o:=⟨hv.kind,hv.space,hv.name,hv.ver,hv.num,h.own hv.data (by decide) (by decide) (by decide) (by decide)⟩
theorem Sf.of_below (h:Below w.heap.size w w'):Sf w w':=⟨fun _=>False,Fr.of_below h,fun _ _ _ x=>x.elim⟩
theorem Sf.aG {cs:Array Value} {T:TypeId} {f:Nat×Nat} (hf:Fr (fun k=>k=g) w w') (hr:w.heap[g]?=some (.cells cs T f)) (hT:T=146∨T=43∨T=37∨T=85):Sf w w':=
 ⟨_,hf,fun k cs' T' hx hc=>by subst hx;rw[aj hc hr];exact hT⟩
theorem Sf.vO {b size n:Nat} {xs:List Value} (hf:Fr (fun k=>v.ownBlock=some k) w w') (ho:ah w b 37 size v n xs):Sf w w':=
 ⟨_,hf,fun k cs' T' hx hc=>by obtain⟨cur,hc2⟩:=ak ho hx;exact .inr (.inr (.inl (aj hc hc2)))⟩
/-- A table stays, if its own block does. -/
theorem Sf.tab (h:Sf w w') (hk:KT w P g K) (hg:w'.heap[g]?=w.heap[g]?):KT w' P g K:=by
 obtain⟨X,hf,hX⟩:=h
 obtain⟨sh,xs,h1,h2,h3,h4⟩:=hk
 have hf2:Fr (fun k=>X k∧k≠g) w w':=⟨hf.os,hf.tape,hf.output,hf.size,fun i hi hn=>by
  by_cases e:i=g
  ·rw [e];exact hg
  ·exact hf.block i hi fun hx=>hn ⟨hx,e⟩⟩
 refine⟨sh,xs,h1.fr hf2 (fun hx=>hx.2 rfl) (fun b cs hb hx=> ?_),h2,fun x hx=>⟨Sf.Rj ⟨X,hf,hX⟩ (h3 x hx).1,(h3 x hx).2⟩,h4⟩
 rcases hX b _ _ hx.1 hb with e | e | e | e<;>exact absurd e (by decide)
theorem OS.nil (w:World) (base:Nat):OS w base (.slice none 0 0) []:=⟨[],OL.nil _ _,rfl,fun x hx=>by cases hx⟩
theorem OS.form (h:OS w base v l):∃A c,v=.slice A l.length c∧l.length≤c∧c≤maxLen:=by
 obtain⟨os,h1,rfl,-⟩:=h
 obtain⟨A,c,e,h2⟩:=ah.form h1
 exact⟨A,c,by rw[e,List.length_map,List.length_map],by simpa using h2⟩
theorem Sf.os (h:Sf w w') (hv:OS w base v l) (hs:∀k,v.ownBlock=some k→w'.heap[k]?=w.heap[k]?):OS w' base v l:=by
 obtain⟨os,h1,h2,h3⟩:=hv
 exact⟨os,ah.dP h1 hs,h2,fun x hx=>h.Rj (h3 x hx)⟩
theorem OS.below (h:OS w base v l) (hb:Below w.heap.size w w'):OS w' base v l:=(Sf.of_below hb).os h fun k hk=>by
 obtain⟨os,h1,-⟩:=h
 exact hb.block k (ah.lt h1 k hk).2
theorem KT.below (h:KT w P g K) (hb:Below w.heap.size w w'):KT w' P g K:=(Sf.of_below hb).tab h (by
 obtain⟨sh,xs,⟨p,h1,_⟩,-⟩:=h
 exact hb.block g (Cq h1))
theorem KT.mono (h:KT w P g K) (hp:∀k,P k→k<w.heap.size→P' k):KT w P' g K:=let ⟨sh,xs,h1,h2,h3,h4⟩:=h;⟨sh,xs,h1,h2,fun x hx=>⟨(h3 x hx).1,fun k hk=>hp k ((h3 x hx).2 k hk) ((h3 x hx).1.data.lt k hk).2⟩,h4⟩
theorem KT.fr (h:KT w P g K) (hf:Fr X w w') (hn:∀k,X k→ay w k∧k≠g∧¬P k):KT w' P g K:=by
 obtain⟨sh,xs,h1,h2,h3,h4⟩:=h
 exact⟨sh,xs,h1.fr hf (fun hx=>(hn g hx).2.1 rfl) fun b cs hb hx=>(hn b hx).1 cs hb,h2,fun x hx=>⟨(h3 x hx).1.fr hf fun k hk e=>(hn k e).2.2 ((h3 x hx).2 k hk),(h3 x hx).2⟩,h4⟩
theorem KT.row (h:KT w P g K):∃p,w.heap[g]?=some (.cells #[.pointer p] 146 (0,0)):=let ⟨_,_,⟨p,h1,_⟩,_⟩:=h;⟨p,h1⟩
theorem KT.xs {xs:List (ByteArray×(OV×aH))} (h:K=xs.map fun x=>(x.1,x.2.2)) (hr:aO aJ K):aO aJ xs∧aO aJ (xs.map fun x=>(x.1,x.2.1)):=by
 rw[h] at hr
 have:=uw (fun y:OV×aH=>y.2) hr
 exact⟨this,zK (fun y:OV×aH=>y.1) this⟩
theorem KT.put (h:KT w P g K) (hv:dI w u o) (hp:∀k,(sl u).ownBlock=some k→P k) (k:ByteArray) (hl:K.length≤1000000):
  Calls Tryz.prog 84 #[.pointer (some ⟨g,0,none⟩),(.string k),(.agg #[.int .i64 u.kind,.string u.space,.string u.name,.int .i64 u.ver,.slice u.A u.n u.c])] w fun e w'=>(∃b,e=.returned (.bool b))∧KT w' P g (ins aJ k o K)∧Fr (fun i=>i=g) w w':=by
 obtain⟨p,hr⟩:=h.row
 obtain⟨sh,xs,h1,h2,h3,h4⟩:=h
 obtain⟨r1,r2⟩:=KT.xs h2 h4
 refine(UJ g k u sh _ w h1 r2 (by have:=congrArg List.length h2;simp only[List.length_map] at this ⊢;omega)).mono ?_
 rintro e w' ⟨rfl,ht,hf⟩
 refine⟨⟨_,rfl⟩,⟨jK aJ k sh (xs.map fun x=>(x.1,x.2.1)),ins aJ k (u,o) xs,?_,?_,fun x hx=> ?_,zn gB h4⟩,hf⟩
 ·have e:=nZ (lt:=aJ) (fun y:OV×aH=>y.1) k (u,o) xs
  simp only at e
  rw[←e]
  exact ht
 ·rw [h2]
  exact nZ (lt:=aJ) (fun y:OV×aH=>y.2) k (u,o) xs
 ·rcases qp hx with rfl | hx
  ·exact ⟨(Sf.aG hf hr (.inl rfl)).Rj hv,hp⟩
  ·exact ⟨(Sf.aG hf hr (.inl rfl)).Rj (h3 x hx).1,(h3 x hx).2⟩
theorem KT.del (h:KT w P g K) (k:ByteArray) (hl:K.length≤1000000):
  Calls Tryz.prog 86 #[.pointer (some ⟨g,0,none⟩),(.string k)] w fun e w'=>(∃b,e=.returned (.bool b))∧KT w' P g (rem aJ k K)∧Fr (fun i=>i=g) w w':=by
 obtain⟨p,hr⟩:=h.row
 obtain⟨sh,xs,h1,h2,h3,h4⟩:=h
 obtain⟨r1,r2⟩:=KT.xs h2 h4
 refine(UK g k sh _ w h1 r2 (by have:=congrArg List.length h2;simp only[List.length_map] at this ⊢;omega)).mono ?_
 rintro e w' ⟨rfl,ht,hf⟩
 refine⟨⟨_,rfl⟩,⟨delS aJ k sh (xs.map fun x=>(x.1,x.2.1)),rem aJ k xs,?_,?_,fun x hx=>let h:=h3 x (lH.subset hx);⟨(Sf.aG hf hr (.inl rfl)).Rj h.1,h.2⟩,zo h4⟩,hf⟩
 ·have e:=qy (lt:=aJ) (fun y:OV×aH=>y.1) k xs
  rw[←e]
  exact ht
 ·rw [h2]
  exact qy (lt:=aJ) (fun y:OV×aH=>y.2) k xs
end
theorem KT.nil {w:World} {P:Nat→Prop} {g:Nat} (h:w.heap[g]?=some (.cells #[.pointer none] 146 (0,0))):KT w P g []:=⟨.skip,[],⟨none,h,rfl,rfl⟩,rfl,fun x hx=>(by cases hx),List.Pairwise.nil⟩
/-- New, of namespaces. -/
theorem newB (all:Bool) (w:World):Calls Tryz.prog 9 #[.int .i64 1,.string ⟨#[]⟩,.bool all] w fun e w'=>∃gw gt,e=.returned (.tuple #[.pointer (some ⟨gw,0,none⟩),.nilIface])∧fA w' gw gt 1 ⟨#[]⟩ all 0∧w'.heap[gt]?=some (.cells #[.pointer none] 146 (0,0))∧w.heap.size≤gw∧w.heap.size≤gt∧Below w.heap.size w w':=by
 have HR:Hid (∀W,Calls Tryz.prog 27 #[.agg #[.int .i64 1,.string ⟨#[]⟩,.string ⟨#[97]⟩,.int .i64 0,.slice none 0 0]] W fun e w'=>e=.returned (.bool true)∧Below W.heap.size W w'):=Hj fun W=>(zh ⟨1,⟨#[]⟩,⟨#[97]⟩,0,none,0,0⟩ W).mono fun e w' h=>⟨h.1.trans (by kernel_rfl),h.2⟩
 cases all
 all_goals
  go_enter Tryz.func9,Tryz.ntmps9
  go_wp2_with (first
   | (go_at_call 27;obtain⟨w1,hw1⟩:∃W,W=w.alloc (.cells #[.int .i64 1,.string ⟨#[]⟩,.string ⟨#[97]⟩,.int .i64 0,.slice none 0 0] 37):=⟨_,rfl⟩;rw[←hw1];have B1:Hid (Below w.heap.size w w1):=Hj (by rw[hw1];exact(Below.refl _ w).alloc Kv _);clear hw1;((with_reducible refine(HR.out w1).mono ?_);rintro e w2 ⟨rfl,hb⟩;have B2:=Hj (B1.out.trans (hb.mono B1.out.size));clear hb))
   | (go_at_call 28;((with_reducible refine(Jm w2).mono ?_);rintro e w3 ⟨rfl,⟨p,hp,rfl,-⟩,hb⟩;have T3:=Hj hp;have B3:=Hj hb;clear hp hb))
   | fail)
  have hb:=fun o=>(Below.refl _ w3).alloc Kv o
  have hB:=B2.out.trans (B3.out.mono B2.out.size)
  exact bodyPost_ret (results_tmp2 rfl _ _ _) rfl ⟨_,w2.heap.size,rfl,heap_alloc_new w3 _,((hb _).block _ (Cq T3.out)).trans T3.out,hB.size,B2.out.size,hB.trans ((hb _).mono hB.size)⟩
/-- A report at gr. -/
def Rep (w:World) (base gr:Nat) (an:Bool) (lp ld:List aH):Prop:=∃pv dv,w.heap[gr]?=some (.cells #[.bool an,pv,dv] 43 (0,0))∧OS w base pv lp∧OS w base dv ld∧∀k,pv.ownBlock=some k→dv.ownBlock≠some k
/-- A watcher on its way, since ws stood. -/
structure TI (P:Nat→Prop) (ws w:World) (gw gt gr:Nat) (kind:Int) (space:ByteArray) (all:Bool) (cur:Nat) (K:List (ByteArray×aH)) (an:Bool) (lp ld:List aH):Prop where
 row:fA w gw gt kind space all cur
 tab:KT w (fun k=>P k∨ws.heap.size≤k) gt K
 rep:Rep w ws.heap.size gr an lp ld
 fr:Fr (fun k=>k=gt) ws w
 up:ws.heap.size≤gr
def Mc (kind:Int) (space:ByteArray) (all:Bool) (o:aH):Bool:=decide ((o.kind:Int)=kind)&&(all||decide (o.space=space))
section
variable {P:Nat→Prop} {ws w w' w4 w5 w8:World} {gw gt gr base cur:Nat} {kind:Int} {space:ByteArray} {all an:Bool} {K K':List (ByteArray×aH)} {lp ld l l2:List aH} {v v8 xv yv:Value} {u:OV} {o:aH}
theorem Rep.below (h:Rep w base gr an lp ld) (hb:Below w.heap.size w w'):Rep w' base gr an lp ld:=by
 obtain⟨pv,dv,h1,h2,h3,h4⟩:=h
 exact⟨pv,dv,(hb.block gr (Cq h1)).trans h1,h2.below hb,h3.below hb,h4⟩
theorem TI.below (h:TI P ws w gw gt gr kind space all cur K an lp ld) (hb:Below w.heap.size w w'):TI P ws w' gw gt gr kind space all cur K an lp ld:=
 ⟨(hb.block gw (Cq h.row)).trans h.row,h.tab.below hb,h.rep.below hb,h.fr.trans (Fr.of_below (S:=fun _=>False) hb) fun _ _ x=>x.elim,h.up⟩
theorem OS.own (h:OS w base v l) {k:Nat} (hk:v.ownBlock=some k):base≤k∧k<w.heap.size∧∃cs,w.heap[k]?=some (.cells cs 37 (0,0)):=by
 obtain⟨os,h1,-⟩:=h
 have:=ah.lt h1 k hk
 exact⟨this.1,this.2,ak h1 hk⟩
/-- The table turned. -/
theorem TI.turn (h:TI P ws w gw gt gr kind space all cur K an lp ld) (hf:Fr (fun k=>k=gt) w w') (hk:KT w' (fun k=>P k∨ws.heap.size≤k) gt K'):TI P ws w' gw gt gr kind space all cur K' an lp ld∧Sf w w':=by
 obtain⟨p,ht⟩:=h.tab.row
 have hs:Sf w w':=Sf.aG hf ht (.inl rfl)
 obtain⟨pv,dv,h1,h2,h3,h4⟩:=h.rep
 have hne:∀{k:Nat} {cs:Array Value} {T:TypeId},w.heap[k]?=some (.cells cs T (0,0))→T≠146→w'.heap[k]?=w.heap[k]?:=fun {k cs T} hc hT=>hf.block k (Cq hc) fun e=>hT (aj (by rw[←e];exact hc) ht)
 exact⟨⟨(hne h.row (by decide)).trans h.row,hk,⟨pv,dv,(hne h1 (by decide)).trans h1,hs.os h2 fun k hk=>(let ⟨_,hc⟩:=(h2.own hk).2.2;hne hc (by decide)),hs.os h3 fun k hk=>(let ⟨_,hc⟩:=(h3.own hk).2.2;hne hc (by decide)),h4⟩,h.fr.trans hf fun _ _ x=>x,h.up⟩,hs⟩
/-- One more object in a report's row: what stays. -/
theorem zO (j:Nat) {cs:Array Value} (hr:w4.heap[gr]?=some (.cells cs 43 (0,0))) {os:List (OV×aH)} (hx1:OL w4 base xv (os.map fun x=>x.1)) (hx2:os.map (fun x=>x.2)=l) (hx3:∀x∈os,dI w4 x.1 x.2) (hy:OS w4 base yv l2) (hap:∀k,xv.ownBlock=some k→yv.ownBlock≠some k) (hb:Below w4.heap.size w4 w5) (hg:w5.grownBy w8 xv.ownBlock)
  (ho:OL w8 base v8 (os.map (fun x=>x.1)++[u])) (hat:v8.ownBlock=xv.ownBlock∨v8.ownBlock=some w5.heap.size) (hu:dI w4 u o):
  OS (w8.setCell ⟨gr,j,none⟩ v8) base v8 (l++[o])∧OS (w8.setCell ⟨gr,j,none⟩ v8) base yv l2∧(∀k,v8.ownBlock=some k→yv.ownBlock≠some k)∧Sf w4 (w8.setCell ⟨gr,j,none⟩ v8)∧w8.heap[gr]?=w4.heap[gr]?∧Fr (fun k=>xv.ownBlock=some k∨k=gr) w4 (w8.setCell ⟨gr,j,none⟩ v8):=by
 have hx:OS w4 base xv l:=⟨os,hx1,hx2,hx3⟩
 have hs5:=hb.size
 have hlt:=(Cq hr)
 have hxg:xv.ownBlock≠some gr:=fun e=>by obtain⟨_,hc⟩:=(hx.own e).2.2;exact absurd (aj hc hr) (by decide)
 have hfa:Fr (fun k=>xv.ownBlock=some k) w4 w8:=(Fr.of_below hb).trans (Fr.aU hg) fun k _ hk=>hk.symm
 have hfs:Fr (fun k=>k=gr) w8 (w8.setCell ⟨gr,j,none⟩ v8):=(Fr.refl (fun k=>k=gr) w8).setCell (p:=⟨gr,j,none⟩) (fun _=>rfl) _
 have hF:Fr (fun k=>xv.ownBlock=some k∨k=gr) w4 (w8.setCell ⟨gr,j,none⟩ v8):=(hfa.mono fun _ _ h=>.inl h).trans hfs fun _ _ h=>.inr h
 have hS:Sf w4 (w8.setCell ⟨gr,j,none⟩ v8):=⟨_,hF,fun k cs' T' hk hc=>by
  rcases hk with hk | rfl
  ·obtain ⟨_,hc2⟩:=(hx.own hk).2.2;exact .inr (.inr (.inl (aj hc hc2)))
  ·exact .inr (.inl (aj hc hr))⟩
 refine⟨⟨os++[(u,o)],?_,by rw[List.map_append,hx2];rfl,fun x hx=> ?_⟩,hS.os hy fun k hk=> ?_,fun k hk he=> ?_,hS,hfa.block gr hlt hxg,hF⟩
 ·rw [List.map_append]
  refine ah.kept ho hfs fun k hk e=> ?_
  rcases hat with hat | hat
  ·rw [hat,e] at hk;exact hxg hk
  ·rw [hat] at hk;injection hk with hk;omega
 ·rcases List.mem_append.1 hx with hx | hx
  ·exact hS.Rj (hx3 x hx)
  ·obtain rfl:=List.mem_singleton.1 hx;exact hS.Rj hu
 ·have hyk:=hy.own hk
  refine hF.block k hyk.2.1 fun e=> ?_
  rcases e with e | rfl
  ·exact hap k e hk
  ·obtain ⟨_,hc⟩:=hyk.2.2;exact absurd (aj hc hr) (by decide)
 ·rcases hat with hat | hat
  ·exact hap k (by rw[←hat];exact hk) he
  ·rw [hat] at hk;injection hk with hk
   have:=(hy.own he).2.1
   omega
theorem TI.pushD (h:TI P ws w4 gw gt gr kind space all cur K an lp ld) (hr:w4.heap[gr]?=some (.cells #[.bool an,yv,xv] 43 (0,0))) {os:List (OV×aH)} (hx1:OL w4 ws.heap.size xv (os.map fun x=>x.1)) (hx2:os.map (fun x=>x.2)=ld) (hx3:∀x∈os,dI w4 x.1 x.2) (hy:OS w4 ws.heap.size yv lp) (hap:∀k,xv.ownBlock=some k→yv.ownBlock≠some k) (hb:Below w4.heap.size w4 w5) (hg:w5.grownBy w8 xv.ownBlock)
  (ho:OL w8 ws.heap.size v8 (os.map (fun x=>x.1)++[u])) (hat:v8.ownBlock=xv.ownBlock∨v8.ownBlock=some w5.heap.size) (hu:dI w4 u o):TI P ws (w8.setCell ⟨gr,2,none⟩ v8) gw gt gr kind space all cur K an lp (ld++[o])∧Sf w4 (w8.setCell ⟨gr,2,none⟩ v8):=by
 obtain⟨k1,k2,k3,k4,k5,k6⟩:=zO 2 hr hx1 hx2 hx3 hy hap hb hg ho hat hu
 have hx:OS w4 ws.heap.size xv ld:=⟨os,hx1,hx2,hx3⟩
 have hty:∀{k:Nat} {cs:Array Value} {T:TypeId},w4.heap[k]?=some (.cells cs T (0,0))→T≠43→T≠37→(w8.setCell ⟨gr,2,none⟩ v8).heap[k]?=w4.heap[k]?:=fun {k cs T} hc ha hb=>k6.block k (Cq hc) fun e=>e.elim (fun e=>let ⟨_,hc2⟩:=(hx.own e).2.2;hb (aj hc hc2)) fun e=>ha (aj (by rw[←e];exact hc) hr)
 obtain⟨p,ht⟩:=h.tab.row
 refine⟨⟨(hty h.row (by decide) (by decide)).trans h.row,k4.tab h.tab (hty ht (by decide) (by decide)),⟨_,_,heap_setCell_same _ _ 2 _ _ _ (k5.trans hr),k2,k1,fun k hk e=>k3 k e hk⟩,h.fr.trans k6 fun k hk e=> ?_,h.up⟩,k4⟩
 rcases e with e | rfl
 ·have:=(hx.own e).1;omega
 ·have:=h.up;omega
theorem TI.pushP (h:TI P ws w4 gw gt gr kind space all cur K an lp ld) (hr:w4.heap[gr]?=some (.cells #[.bool an,xv,yv] 43 (0,0))) {os:List (OV×aH)} (hx1:OL w4 ws.heap.size xv (os.map fun x=>x.1)) (hx2:os.map (fun x=>x.2)=lp) (hx3:∀x∈os,dI w4 x.1 x.2) (hy:OS w4 ws.heap.size yv ld) (hap:∀k,xv.ownBlock=some k→yv.ownBlock≠some k) (hb:Below w4.heap.size w4 w5) (hg:w5.grownBy w8 xv.ownBlock)
  (ho:OL w8 ws.heap.size v8 (os.map (fun x=>x.1)++[u])) (hat:v8.ownBlock=xv.ownBlock∨v8.ownBlock=some w5.heap.size) (hu:dI w4 u o):TI P ws (w8.setCell ⟨gr,1,none⟩ v8) gw gt gr kind space all cur K an (lp++[o]) ld∧Sf w4 (w8.setCell ⟨gr,1,none⟩ v8):=by
 obtain⟨k1,k2,k3,k4,k5,k6⟩:=zO 1 hr hx1 hx2 hx3 hy hap hb hg ho hat hu
 have hx:OS w4 ws.heap.size xv lp:=⟨os,hx1,hx2,hx3⟩
 have hty:∀{k:Nat} {cs:Array Value} {T:TypeId},w4.heap[k]?=some (.cells cs T (0,0))→T≠43→T≠37→(w8.setCell ⟨gr,1,none⟩ v8).heap[k]?=w4.heap[k]?:=fun {k cs T} hc ha hb=>k6.block k (Cq hc) fun e=>e.elim (fun e=>let ⟨_,hc2⟩:=(hx.own e).2.2;hb (aj hc hc2)) fun e=>ha (aj (by rw[←e];exact hc) hr)
 obtain⟨p,ht⟩:=h.tab.row
 refine⟨⟨(hty h.row (by decide) (by decide)).trans h.row,k4.tab h.tab (hty ht (by decide) (by decide)),⟨_,_,heap_setCell_same _ _ 1 _ _ _ (k5.trans hr),k1,k2,k3⟩,h.fr.trans k6 fun k hk e=> ?_,h.up⟩,k4⟩
 rcases e with e | rfl
 ·have:=(hx.own e).1;omega
 ·have:=h.up;omega
end
end Go.Proofs.YtdhbpajamlfacaaGreatDoor
