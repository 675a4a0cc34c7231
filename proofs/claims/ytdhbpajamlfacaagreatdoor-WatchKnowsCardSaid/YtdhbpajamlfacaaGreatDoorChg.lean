/- Layer 20 (store): change. -/
import Derived.Test.YtdhbpajamlfacaaGreatDoorCpt
namespace Go.Proofs.YtdhbpajamlfacaaGreatDoor
open Go.RowKit SO
section
variable {m:DM} {A:Nat→List UInt8} {L:LM}
theorem tC (m:DM):m.sync.waits.length≤m.waits.length:=by
 unfold DM.sync
 split
 ·rw [m.iW];exact Nat.le_refl _
 ·exact Nat.zero_le _
theorem oK (m:DM) (a p:Int) (bs:List UInt8):(m.write a p bs).waits.length≤m.waits.length+1:=by
 unfold DM.write
 split
 ·show (m.unit.waits++[_]).length≤_
  rw[m.iW,List.length_append];simp
 ·split
  ·rw [m.iW];omega
  ·omega
theorem tH (m:DM) (a n:Int):(m.cut a n).waits.length≤m.waits.length+1:=by
 unfold DM.cut
 split
 ·show (m.unit.waits++[_]).length≤_
  rw[m.iW,List.length_append];simp
 ·split
  ·rw [m.iW];omega
  ·omega
theorem tJ (m:DM) (a p:Int) (bs:List UInt8):(rQ m a p bs).waits.length≤m.waits.length+1:=by
 unfold rQ
 split
 ·exact Cz (tC _) (oK _ _ _ _)
 ·exact oK _ _ _ _
theorem kC (m:DM) (a:Int):(oL m a).waits.length≤m.waits.length+1:=by
 unfold oL
 split
 ·exact Cz (tC _) (tH _ _ _)
 ·exact tH _ _ _
theorem Dc (m:DM) (a:Int) (bs:List UInt8):(Jz m a bs).waits.length≤m.waits.length+3:=by
 unfold Jz
 split
 ·split
  ·have h1:=kC (rQ (oL m a) a 0 bs) 2
   have h2:=tJ (oL m a) a 0 bs
   have h3:=kC m a
   omega
  ·have h2:=tJ (oL m a) a 0 bs
   have h3:=kC m a
   omega
 ·have h3:=kC m a
  omega
theorem FD (m:DM) (L:LM) (t:List UInt8):(L.lD m t).waits.length≤m.waits.length+3:=by
 unfold LM.lD
 split
 ·exact Dc _ _ _
 ·omega
theorem DM.Ok.cpMS (h:m.Ok) (L:LM) (t:List UInt8):(L.lD m t).Ok:=by
 unfold LM.lD
 split
 ·exact h.Jz _ _
 ·exact h
theorem Na (L:LM) (m:DM) (t:List UInt8):L.dQ m t≤28:=by
 unfold LM.dQ LM.room
 repeat (first | split | omega)
theorem VO (h:L.Ok) (m:DM) (t:List UInt8) (ht:t.length≤1048576):(L.cp m t).Ok:=by
 unfold LM.cp
 split
 ·rename_i hs
  split
  ·refine ⟨by have:=(oZ hs).2.1;show L.gen+1≤_;omega,?_,ht,by show endOf []≤_;decide⟩
   have:=h.slot
   show 1-L.slot=0∨1-L.slot=1
   omega
  ·exact ⟨h.gen,h.slot,h.text,h.recs⟩
 ·exact h
end
theorem JA {r R:Nat} (h:r<1099511627776) (e:R=r+1):IntKind.i64.wrap ((r:Int)+1)=(R:Int)∧wrap64 ((r:Int)+1)=(R:Int):=by
 refine⟨?_,?_⟩
 ·rw [IntWalk.i64_in _ (by omega)];omega
 ·unfold wrap64;omega
section
variable {w w' w0 w5 w6:World} {Q Y:Nat→Prop} {g gs:Nat} {m m':DM} {L L':LM} {M M':aY} {ea:Nat→Addr}
theorem SW.fin (h:SW w0 w Q g m gs L M) (hb:Below w.heap.size w w5) (h6:Fr Q w5 w6) (h9:SW w0 w' (fun k=>ext (ext Q w5 w6) w6 w' k∨Y k) g m' gs L' M') (uQ:Fr (ext Q w5 w6) w6 w') (hY:∀k,Y k→w.heap.size≤k∧k<w'.heap.size):
  SW w0 w' (ext Q w w') g m' gs L' M'∧Fr Q w w':=by
 have hs:=hb.size
 refine⟨h9.mono (fun k hk=> ?_) fun k hk=>eU h.up h.hi h.bel.size (Cz hs (Cz h6.size uQ.size)) hk,((Fr.of_below (S:=Q) hb).trans h6 fun _ _ hk=>hk).trans uQ fun i hi hk=>hk.elim id fun hk=>absurd hk.1 (by omega)⟩
 rcases hk with hk | hk
 ·rcases iC h6.size uQ.size hk with hk | hk
  ·exact .inl hk
  ·exact .inr ⟨Cz hs hk.1,hk.2⟩
 ·exact .inr (hY k hk)
theorem yL (A:Option Addr) (n k:Nat) (b:List UInt8) (h:SW w0 w Q g m gs L M) (hE:EW w0 ea) (hok:m.Ok) (hL:L.Ok) (hw:m.waits.length≤1000) (ho:OB w 0 (.slice A n k) b) (hoff:∀q,(Value.slice A n k).ownBlock=some q→¬Q q):
  ∃gl,w.cell? ⟨gs,0,none⟩=some (.pointer (some ⟨gl,0,none⟩))∧Calls Tryz.prog 100 #[.pointer (some ⟨gl,0,none⟩),.slice A n k] w fun e w'=>e=.returned (bK ea (L.dQ m b))∧SW w0 w' (ext Q w w') g (L.iE m b) gs (L.app m b) M∧Fr Q w w':=by
 obtain⟨S,gl,hdw,hc0,UM,hcl⟩:=h.log
 obtain⟨A',c',e',h1,h2,h3⟩:=OB.form ho
 injection e' with e1 e2 e3
 refine⟨gl,hc0,(FH A n k b hdw hE hok hL (by rw[e1,e2];exact h3) (fun _ p hp hs=>hoff p.block (by rw[hp];rfl) (UM _ hs)) (by rw[e2,e3];exact h1) (by rw[e3];exact h2) hw).mono ?_⟩
 rintro e w' ⟨rfl,VQ,hf2⟩
 have h2:=hcl _ _ _ VQ hf2
 exact⟨rfl,h2.1,h2.2⟩
theorem JB (v:OV) (o:aH) (d:Bool) (hv:dI w v o) (ho:o.Ok) (hm:o.ver≤1099511627776):
  Calls Tryz.prog 99 #[.agg #[.int .i64 (o.ver:Int),.bool d,.int .i64 v.kind,.string v.space,.string v.name,.int .i64 v.ver,.slice v.A v.n v.c]] w fun e w'=>∃A c,e=.returned (.tuple #[.slice A (fQ (d,o)).length c,.nilIface])∧OB w' w.heap.size (.slice A (fQ (d,o)).length c) (fQ (d,o))∧Below w.heap.size w w':=by
 obtain⟨p1,p2,p3,p4,p5⟩:=ho.parts
 have hpd:=ho.data
 cases d with
 | false=>
  have h:=yM o.ver o.kind v o.data w hv.kind (by omega) (by omega) (by rw[hv.space];omega) (by rw[hv.name];omega) hv.rb (by rw[hv.num];omega) hv.cap.1 hv.cap.2
  have e:fQ (false,o)=Df 1 o.kind o.ver v.space.data.toList v.name.data.toList o.data:=by rw[hv.space,hv.name];rfl
  rw[e]
  exact h
 | true=>
  have h:=JC o.ver o.kind v o.data w hv.kind (by omega) (by omega) (by rw[hv.space];omega) (by rw[hv.name];omega) hv.rb (by rw[hv.num];omega) hv.cap.1 hv.cap.2
  have e:fQ (true,o)=Df 2 o.kind o.ver v.space.data.toList v.name.data.toList []:=by rw[hv.space,hv.name];rfl
  rw[e]
  exact h
theorem JD (a b c:Nat):a=0∨(a≠0∧a≠26)∨(a=26∧b≠0)∨(a=26∧b=0∧c=0)∨(a=26∧b=0∧c≠0):=by omega
set_option maxHeartbeats 20000000 in
set_option maxRecDepth 100000 in
theorem o7 (v:OV) (o:aH) (del:Bool) (h:SW w0 w Q g m gs L M) (Yn:Errs w0 ea) (hE:EW w0 ea) (hok:m.Ok) (hL:L.Ok) (hw:m.waits.length≤900) (hrb:RB w v.A v.n o.data) (hk:v.kind=(o.kind:Int)∧v.space=o.space∧v.name=o.name) (hc:M.Can (del,o)) (hr:M.rev<1099511627776) (hl:M.tab.length≤90) (hl2:M.evs.length≤100000):
  Calls Tryz.prog 60 #[.pointer (some ⟨gs,0,none⟩),.agg #[.int .i64 v.kind,.string v.space,.string v.name,.int .i64 v.ver,.slice v.A v.n v.c],.bool del] w fun en w'=>∃n E M' L' m',en=.returned (.tuple #[.int .i64 ((n:Nat):Int),bK ea E])∧Ir M L m (del,o) n E M' L' m'∧SW w0 w' (ext Q w w') g m' gs L' M'∧Fr Q w w':=by
 have hge:¬(1099511627776:Int)≤(M.rev:Int):=by clear hw hl hl2;omega
 obtain⟨w1,hw1,B,hB,hb1,hr1⟩:=aX w v
 have HS:Hid (∀W,Below w1.heap.size w1 W→(fun w'=>w'.cell? ⟨gs,2,none⟩=some (.int .i64 (M.rev:Int))∧w'.cell? ⟨B,0,none⟩=some (.int .i64 v.kind)∧w'.cell? ⟨B,1,none⟩=some (.string v.space)∧w'.cell? ⟨B,2,none⟩=some (.string v.name)∧w'.cell? ⟨B,3,none⟩=some (.int .i64 v.ver)∧w'.cell? ⟨B,4,none⟩=some (.slice v.A v.n v.c)) W):=Hj fun W hW=>by
  have hr:=(hW.block B (Cq hr1)).trans hr1
  obtain⟨_,_,_,_,_,_,_,hV,_,_⟩:=((h.below hb1).below hW).use
  exact⟨hV.cell.2.2.1,Kq 0 hr,Kq 1 hr,Kq 2 hr,Kq 3 hr,Kq 4 hr⟩
 dsimp only at HS
 have hnum:o.data.length=v.n:=hrb.1
 have hdl:=hc.ok.data
 have HCo:Hid (∀W,Below w1.heap.size w1 W→Calls Tryz.prog 46 #[.agg #[.int .i64 v.kind,.string v.space,.string v.name,.int .i64 v.ver,.slice v.A v.n v.c]] W fun e w'=>∃A1 c1,e=.returned (.agg #[.int .i64 v.kind,.string v.space,.string v.name,.int .i64 v.ver,.slice A1 v.n c1])∧OB w' W.heap.size (.slice A1 v.n c1) o.data∧Below W.heap.size W w'):=Hj fun W hW=>jM v W o.data ((hrb.keep (Kz hb1)).keep (Kz hW)) (by simp only at hdl;omega)
 obtain⟨R,hR⟩:∃r,r=M.rev+1:=⟨_,rfl⟩
 have xU:=hc.ver
 simp only at xU
 rw[←hR] at xU
 have Nb:Hid (o.ver=R):=Hj xU
 have HK:Hid (v.kind=(o.kind:Int)∧v.space=o.space∧v.name=o.name∧(R:Int)=(o.ver:Int)∧v.n=o.data.length):=Hj ⟨hk.1,hk.2.1,hk.2.2,by rw[xU],hnum.symm⟩
 have UN:w1.cell? ⟨gs,2,none⟩=some (.int .i64 (M.rev:Int)):=(HS.out w1 (Below.refl _ _)).1
 have Yo:(w.alloc (.cells #[.int .i64 v.kind,.string v.space,.string v.name,.int .i64 v.ver,.slice v.A v.n v.c] 37)).cell? ⟨gs,2,none⟩=some (.int .i64 (M.rev:Int)):=by rw[←hw1];exact UN
 obtain⟨bb,hbb⟩:∃b,b=fQ (del,o):=⟨_,rfl⟩
 obtain⟨EL,XP⟩:∃n,n=bb.length:=⟨_,rfl⟩
 obtain⟨E1,hE1⟩:∃n,n=L.dQ m bb:=⟨_,rfl⟩
 have fH:Hid (bb=fQ (del,o)):=Hj hbb
 have Yp:Hid (EL=bb.length):=Hj XP
 have QY:Hid (E1=L.dQ m bb):=Hj hE1
 have Yq:E1≤28:=by rw[hE1];exact Na _ _ _
 have HE28:=Hj Yq
 have ng:=Hj h
 have xW:=Hj hc
 have jG:=Hj Yn
 have HEW:=Hj hE
 have Yr:=Hj hok
 have Yt:=Hj hL
 have HMw:Hid (m.waits.length≤1000):=Hj (by omega)
 have HMw9:=Hj hw
 have HTl:=Hj hl
 have XQ:=Hj hl2
 have Nc:=Hj hr
 have HB1:=Hj hb1
 have HW1:=Hj hw1
 have jB:=Hj hB
 obtain⟨tt,htt⟩:∃t,t=aP M.rev M.tab:=⟨_,rfl⟩
 obtain⟨E2,hE2⟩:∃n,n=L.mM m tt:=⟨_,rfl⟩
 have UO:Hid (tt=aP M.rev M.tab):=Hj htt
 have HE2:Hid (E2=L.mM m tt):=Hj hE2
 have JE:Hid (E1=26→L.iE m bb=m∧L.app m bb=L):=Hj fun e=>vS L m bb (by rw[←hE1];exact e)
 have HTtl:Hid (tt.length≤1000000):=Hj (by rw[htt];have:=vT h.ok.tab h.ok.most;omega)
 have HLc:Hid ((L.cp m tt).Ok):=Hj (VO hL m tt (by have:=HTtl.out;omega))
 have HMc:Hid ((L.lD m tt).Ok):=Hj (DM.Ok.cpMS hok L tt)
 have Yu:Hid ((L.lD m tt).waits.length≤1000):=Hj (by have:=FD m L tt;omega)
 obtain⟨L1,hL1⟩:∃x,x=L.cp m tt:=⟨_,rfl⟩
 obtain⟨m1,hm1⟩:∃x,x=L.lD m tt:=⟨_,rfl⟩
 rw[←hL1] at HLc
 rw[←hm1] at HMc Yu
 obtain⟨E3,hE3⟩:∃n,n=L1.dQ m1 bb:=⟨_,rfl⟩
 have Yv:Hid (L1=L.cp m tt):=Hj hL1
 have Rq:Hid (m1=L.lD m tt):=Hj hm1
 have XR:Hid (E3=L1.dQ m1 bb):=Hj hE3
 obtain⟨hwr,hwr2⟩:=JA hr hR
 clear h Yn hE hok hL hw hrb hk hc hr hl hl2 hw1 hB hb1 hr1 xU hnum hdl hR hbb XP hE1 Yq UN htt hE2 hL1 hm1 hE3
 go_enter Tryz.func60,Tryz.ntmps60
 go_wp2
 rw[←HW1.out,←jB.out]
 clear Yo
 refine wp_region_noPanic ?_
 refine wp_region_held_drew (S:=(fun w'=>w'.cell? ⟨gs,2,none⟩=some (.int .i64 (M.rev:Int))∧w'.cell? ⟨B,0,none⟩=some (.int .i64 v.kind)∧w'.cell? ⟨B,1,none⟩=some (.string v.space)∧w'.cell? ⟨B,2,none⟩=some (.string v.name)∧w'.cell? ⟨B,3,none⟩=some (.int .i64 v.ver)∧w'.cell? ⟨B,4,none⟩=some (.slice v.A v.n v.c))) (by kernel_rfl) ?_ (fun hHeld=> ?_)
 ·exact HS.out w1.drew ⟨rfl,rfl,rfl,Nat.le_refl _,fun _ _=>rfl⟩
 refine tk 0 hHeld ?_
 try simp only[pa]
 refine tk 1 hHeld ?_
 try simp only[pa]
 refine tk 2 hHeld ?_
 try simp only[pa]
 refine tk 3 hHeld ?_
 try simp only[pa]
 refine tk 4 hHeld ?_
 try simp only[pa]
 refine tk 5 hHeld ?_
 try simp only[pa]
 refine tk 6 hHeld ?_
 try simp only[pa]
 refine Rk 7 9 rfl rfl (fun K hK=> ?_) (fun K hK=> ?_)
 focus
  go_simp
  refine(HCo.out w1.drew ⟨rfl,rfl,rfl,Nat.le_refl _,fun _ _=>rfl⟩).mono ?_
  rintro e wk ⟨A9,c9,rfl,MH,hbk⟩
  have qj:Hid (Below w1.heap.size w1 wk):=Hj (Below.trans (Below.refl w1.heap.size w1) (Below.mono ⟨hbk.os,hbk.tape,hbk.output,hbk.size,hbk.block⟩ ((Below.refl w1.heap.size w1)).size))
  have Nh:Hid (OB wk w1.heap.size (.slice A9 v.n c9) o.data):=Hj (OB.mono MH ((Below.refl w1.heap.size w1)).size)
  have hwk:=HS.out _ qj.out
  clear hbk MH
  refine hK.out _ _ ?_ (fun hHeld=> ?_)
  ·exact hwk
  clear hK K
  try simp only[pa]
  refine tk 8 hHeld ?_
  try simp only[pa]
  refine mJ 9 rfl (fun K hK=> ?_)
  go_simp
  obtain⟨wx,hwx⟩:∃W,W=(wk).alloc (.cells #[.int .i64 0,.bool false,.int .i64 0,.string ⟨#[]⟩,.string ⟨#[]⟩,.int .i64 0,.slice none 0 0] 99):=⟨_,rfl⟩
  obtain⟨BX,tK⟩:∃B,B=(wk).heap.size:=⟨_,rfl⟩
  have Dh:Hid (wx.heap[BX]?=some (.cells #[.int .i64 0,.bool false,.int .i64 0,.string ⟨#[]⟩,.string ⟨#[]⟩,.int .i64 0,.slice none 0 0] 99 (0,0))):=Hj (by rw[hwx,tK];exact heap_alloc_new (wk) _)
  have hbx:=(Below.refl (wk).heap.size (wk)).alloc Kv (.cells #[.int .i64 0,.bool false,.int .i64 0,.string ⟨#[]⟩,.string ⟨#[]⟩,.int .i64 0,.slice none 0 0] 99)
  have HOx:Hid (OB wx w1.heap.size (.slice A9 v.n c9) o.data):=Hj (by rw[hwx];exact OB.below Nh.out hbx)
  have yN:Hid (Below w1.heap.size w1 wx):=Hj (by rw[hwx];exact qj.out.alloc qj.out.size _)
  have Nj:Hid (w1.heap.size≤BX):=Hj (by rw[tK];exact(qj.out).size)
  have fx:∀k,wx.frozen? ⟨BX,k,none⟩=false:=fun k=>Kj Dh.out
  obtain⟨d0,d1,d2,d3,d4,d5,d6⟩:=rV Dh.out
  have zU:=HS.out _ yN.out
  rw[←hwx,←tK]
  clear hwx tK hbx
  refine hK.out _ _ ?_ (fun hHeld=> ?_)
  ·exact zU
  clear hK K
  try simp only[pa]
  refine mJ 10 rfl (fun K hK=> ?_)
  go_simp
  obtain⟨wf,hwf⟩:∃W,W=(((((((wx.setCell ⟨BX,0,none⟩ (.int .i64 (R:Int))).setCell ⟨BX,1,none⟩ (.bool del)).setCell ⟨BX,2,none⟩ (.int .i64 v.kind)).setCell ⟨BX,3,none⟩ (.string v.space)).setCell ⟨BX,4,none⟩ (.string v.name)).setCell ⟨BX,5,none⟩ (.int .i64 v.ver)).setCell ⟨BX,6,none⟩ (.slice A9 v.n c9)):=⟨_,rfl⟩
  have Js:Hid (wf.heap[BX]?=some (.cells #[.int .i64 (R:Int),.bool del,.int .i64 v.kind,.string v.space,.string v.name,.int .i64 v.ver,.slice A9 v.n c9] 99 (0,0))):=Hj (by rw[hwf];exact(st7 Dh.out))
  have CZ:Hid (Below w1.heap.size w1 wf):=Hj (by rw[hwf];exact(Yw yN.out Nj.out (.int .i64 (R:Int)) (.bool del) (.int .i64 v.kind) (.string v.space) (.string v.name) (.int .i64 v.ver) (.slice A9 v.n c9)))
  have HOF:Hid (OB wf w1.heap.size (.slice A9 v.n c9) o.data):=Hj (by
   have hF:=(fr7 BX wx (.int .i64 (R:Int)) (.bool del) (.int .i64 v.kind) (.string v.space) (.string v.name) (.int .i64 v.ver) (.slice A9 v.n c9))
   rw[←hwf] at hF
   exact OB.dP HOx.out fun k hk=>hF.block k (HOx.out.lt k hk).2 fun e=>(by
    obtain⟨cur,hcur⟩:=ak HOx.out hk
    exact kJ hcur e Dh.out (by decide)))
 rotate_right
 focus
  go_simp
  obtain⟨wx,hwx⟩:∃W,W=(w1.alloc (.cells #[.int .i64 0,.bool false,.int .i64 0,.string ⟨#[]⟩,.string ⟨#[]⟩,.int .i64 0,.slice none 0 0] 99)).drew:=⟨_,rfl⟩
  obtain⟨BX,tK⟩:∃B,B=w1.heap.size:=⟨_,rfl⟩
  have Dh:Hid (wx.heap[BX]?=some (.cells #[.int .i64 0,.bool false,.int .i64 0,.string ⟨#[]⟩,.string ⟨#[]⟩,.int .i64 0,.slice none 0 0] 99 (0,0))):=Hj (by rw[hwx,tK];exact heap_alloc_new w1 _)
  have yN:Hid (Below w1.heap.size w1 wx):=Hj (by rw[hwx];exact⟨((Below.refl w1.heap.size w1).alloc Kv (.cells #[.int .i64 0,.bool false,.int .i64 0,.string ⟨#[]⟩,.string ⟨#[]⟩,.int .i64 0,.slice none 0 0] 99)).os,((Below.refl w1.heap.size w1).alloc Kv (.cells #[.int .i64 0,.bool false,.int .i64 0,.string ⟨#[]⟩,.string ⟨#[]⟩,.int .i64 0,.slice none 0 0] 99)).tape,((Below.refl w1.heap.size w1).alloc Kv (.cells #[.int .i64 0,.bool false,.int .i64 0,.string ⟨#[]⟩,.string ⟨#[]⟩,.int .i64 0,.slice none 0 0] 99)).output,((Below.refl w1.heap.size w1).alloc Kv (.cells #[.int .i64 0,.bool false,.int .i64 0,.string ⟨#[]⟩,.string ⟨#[]⟩,.int .i64 0,.slice none 0 0] 99)).size,((Below.refl w1.heap.size w1).alloc Kv (.cells #[.int .i64 0,.bool false,.int .i64 0,.string ⟨#[]⟩,.string ⟨#[]⟩,.int .i64 0,.slice none 0 0] 99)).block⟩)
  have Nj:Hid (w1.heap.size≤BX):=Hj (by rw[tK];exact Nat.le_refl _)
  have zU:=HS.out _ yN.out
  rw[←hwx,←tK]
  clear hwx tK
  refine hK.out _ _ ?_ (fun hHeld=> ?_)
  ·exact zU
  clear hK K
  try simp only[pa]
  refine mJ 7 rfl (fun K hK=> ?_)
  go_simp
  refine(HCo.out wx yN.out).mono ?_
  rintro e wk ⟨A9,c9,rfl,MH,hbk⟩
  have qj:Hid (Below w1.heap.size w1 wk):=Hj (Below.trans yN.out (Below.mono ⟨hbk.os,hbk.tape,hbk.output,hbk.size,hbk.block⟩ (yN.out).size))
  have Nh:Hid (OB wk w1.heap.size (.slice A9 v.n c9) o.data):=Hj (OB.mono MH (yN.out).size)
  have HRk:Hid (wk.heap[BX]?=some (.cells #[.int .i64 0,.bool false,.int .i64 0,.string ⟨#[]⟩,.string ⟨#[]⟩,.int .i64 0,.slice none 0 0] 99 (0,0))):=Hj ((hbk.block BX (Cq Dh.out)).trans Dh.out)
  have fx:∀k,wk.frozen? ⟨BX,k,none⟩=false:=fun k=>Kj HRk.out
  obtain⟨d0,d1,d2,d3,d4,d5,d6⟩:=rV HRk.out
  have hwk:=HS.out _ qj.out
  clear hbk MH
  refine hK.out _ _ ?_ (fun hHeld=> ?_)
  ·exact hwk
  clear hK K
  try simp only[pa]
  refine tk 8 hHeld ?_
  try simp only[pa]
  refine mJ 10 rfl (fun K hK=> ?_)
  go_simp
  obtain⟨wf,hwf⟩:∃W,W=(((((((wk.setCell ⟨BX,0,none⟩ (.int .i64 (R:Int))).setCell ⟨BX,1,none⟩ (.bool del)).setCell ⟨BX,2,none⟩ (.int .i64 v.kind)).setCell ⟨BX,3,none⟩ (.string v.space)).setCell ⟨BX,4,none⟩ (.string v.name)).setCell ⟨BX,5,none⟩ (.int .i64 v.ver)).setCell ⟨BX,6,none⟩ (.slice A9 v.n c9)):=⟨_,rfl⟩
  have Js:Hid (wf.heap[BX]?=some (.cells #[.int .i64 (R:Int),.bool del,.int .i64 v.kind,.string v.space,.string v.name,.int .i64 v.ver,.slice A9 v.n c9] 99 (0,0))):=Hj (by rw[hwf];exact(st7 HRk.out))
  have CZ:Hid (Below w1.heap.size w1 wf):=Hj (by rw[hwf];exact(Yw qj.out Nj.out (.int .i64 (R:Int)) (.bool del) (.int .i64 v.kind) (.string v.space) (.string v.name) (.int .i64 v.ver) (.slice A9 v.n c9)))
  have HOF:Hid (OB wf w1.heap.size (.slice A9 v.n c9) o.data):=Hj (by
   have hF:=(fr7 BX wk (.int .i64 (R:Int)) (.bool del) (.int .i64 v.kind) (.string v.space) (.string v.name) (.int .i64 v.ver) (.slice A9 v.n c9))
   rw[←hwf] at hF
   exact OB.dP Nh.out fun k hk=>hF.block k (Nh.out.lt k hk).2 fun e=>(by
    obtain⟨cur,hcur⟩:=ak Nh.out hk
    exact kJ hcur e HRk.out (by decide)))
 all_goals
  have VL:=Hj (HS.out _ CZ.out)
  rw[←hwf]
  clear hwf d0 d1 d2 d3 d4 d5 d6 fx
  refine hK.out _ _ ?_ (fun hHeld=> ?_)
  ·exact VL.out
  clear hK K
  try simp only[pa]
  refine wpAnyH_done (by kernel_rfl) ?_ _
  refine NoPanic.normal ?_
  obtain⟨hfwf0,hfwf1,hfwf2,hfwf3,hfwf4,hfwf5,hfwf6⟩:=rV Js.out;have hfzwf:∀k,wf.frozen? ⟨BX,k,none⟩=false:=(fun k=>Kj Js.out)
  have hcs:E1=0∨(E1≠0∧E1≠26)∨(E1=26∧E2≠0)∨(E1=26∧E2=0∧E3=0)∨(E1=26∧E2=0∧E3≠0):=JD E1 E2 E3
  rcases hcs with h1 | ⟨h1,xJ⟩ | ⟨h1,h2⟩ | ⟨h1,h2,h3⟩ | ⟨h1,h2,h3⟩
  focus
   subst h1
  rotate_left
  focus
   have HD1:=Hj (bM ea h1)
   have HN1:=Hj h1
   have HN26:=Hj xJ
   have HDec:=Hj (decide_eq_false xJ)
   clear h1 xJ
  rotate_left
  focus
   have HfM:=Hj (JE.out h1).1
   have HfL:=Hj (JE.out h1).2
   have HD2:=Hj (bM ea h2)
   have HN2:=Hj h2
   subst h1
   clear h2
  rotate_left
  focus
   have HfM:=Hj (JE.out h1).1
   have HfL:=Hj (JE.out h1).2
   subst h1
   subst h2
   subst h3
  rotate_left
  focus
   have HfM:=Hj (JE.out h1).1
   have HfL:=Hj (JE.out h1).2
   have HD3:=Hj (bM ea h3)
   have HN3:=Hj h3
   subst h1
   subst h2
   clear h3
  rotate_left
  all_goals
   go_wp2_with (first
    | (go_at_call 99;(
     obtain⟨wg,hwg⟩:∃W,W=wf.setCell ⟨BX,5,none⟩ (.int .i64 (R:Int)):=⟨_,rfl⟩
     have hRg:wg.heap[BX]?=some (.cells #[.int .i64 (R:Int),.bool del,.int .i64 v.kind,.string v.space,.string v.name,.int .i64 (R:Int),.slice A9 v.n c9] 99 (0,0)):=(by rw[hwg];exact heap_setCell_same _ _ 5 _ _ (.int .i64 (R:Int)) Js.out)
     have hBg:Below w1.heap.size w1 wg:=(by rw[hwg];exact Below.setCell CZ.out (p:=⟨BX,5,none⟩) Nj.out _)
     have hOg:OB wg w1.heap.size (.slice A9 v.n c9) o.data:=(by rw[hwg];exact OB.other HOF.out Js.out (by decide))
     have hIg:dI wg ⟨v.kind,v.space,v.name,(R:Int),A9,v.n,c9⟩ o:=⟨HK.out.1,HK.out.2.1,HK.out.2.2.1,HK.out.2.2.2.1,HK.out.2.2.2.2,OB.mono hOg (Nat.zero_le _)⟩
     rw[←hwg]
     have hBy:=JB ⟨v.kind,v.space,v.name,(R:Int),A9,v.n,c9⟩ o del hIg xW.out.ok xW.out.most
     rw[Nb.out,←fH.out,←Yp.out] at hBy
     (with_reducible refine hBy.mono ?_)
     rintro e w5 ⟨A5,k5,rfl,vF,hb5⟩
     have kT:Hid (Below w.heap.size w w5):=Hj ((HB1.out.trans (hBg.mono HB1.out.size)).trans (hb5.mono (Cz HB1.out.size hBg.size)))
     have CO:Hid (OB w5 w.heap.size (.slice A5 EL k5) bb):=Hj (OB.mono vF (Cz HB1.out.size hBg.size))
     have HV5:Hid (dI w5 ⟨v.kind,v.space,v.name,(R:Int),A9,v.n,c9⟩ o):=Hj (hIg.below hb5)
     have UQ:Hid (∀k,(sl ⟨v.kind,v.space,v.name,(R:Int),A9,v.n,c9⟩).ownBlock=some k→w.heap.size≤k):=Hj fun k hk=>Cz HB1.out.size (ah.lt hOg k hk).1
     have JF:Hid (w5.heap[BX]?=some (.cells #[.int .i64 (R:Int),.bool del,.int .i64 v.kind,.string v.space,.string v.name,.int .i64 (R:Int),.slice A9 v.n c9] 99 (0,0))):=Hj ((hb5.block BX (Cq hRg)).trans hRg)
     have Nk:Hid (w.heap.size≤BX):=Hj (Cz HB1.out.size Nj.out)
     have h5:=ng.out.below kT.out
     have H5:=Hj h5
     obtain⟨gl,hc0,hap⟩:=yL A5 EL k5 bb h5 HEW.out Yr.out Yt.out HMw.out (OB.mono vF (Nat.zero_le _)) (fun q hq hQ=>absurd (ng.out.hi q hQ) (Nat.not_lt.2 (ah.lt CO.out q hq).1))
     rw[←QY.out] at hap
     first | rw[bQ] at hap | rw[HD1.out] at hap | rw[bM ea (by decide:(26:Nat)≠0),HfM.out,HfL.out] at hap
     have Rt:=Hj hap
     clear hwg hRg hBg hOg hIg hBy vF hb5 h5 hap))
    | (go_at_call 100;have hg2:=JG;clear hg2;(
     (with_reducible refine JG.out.mono ?_)
     rintro e w8 ⟨rfl,hs8,JH⟩
     obtain⟨hs8,JH⟩:=H5.out.then VR.out ⟨hs8,JH⟩
     have Nl:=Hj hs8
     have VT:=Hj JH
     have UR:Hid (∀k,w.heap.size≤k→k<w5.heap.size→w8.heap[k]?=w5.heap[k]?):=Hj fun k h1 h2=>VT.out.block k h2 fun hq=>absurd (ng.out.hi k hq) (Nat.not_lt.2 h1)
     have Ru:Hid (w8.heap[BX]?=some (.cells #[.int .i64 (R:Int),.bool del,.int .i64 v.kind,.string v.space,.string v.name,.int .i64 (R:Int),.slice A9 v.n c9] 99 (0,0))):=Hj ((UR.out BX Nk.out (Cq JF.out)).trans JF.out)
     have herrw8:w8.cell? ⟨25,0,none⟩=some (.iface 368 (.pointer (some (ea 26)))):=(jG.out.below Nl.out.bel).cell 26 (by decide) (by decide)
     have HErw8:Hid (Errs w8 ea):=Hj (jG.out.below Nl.out.bel)
     obtain⟨hfw80,hfw81,hfw82,hfw83,hfw84,hfw85,hfw86⟩:=rV Ru.out;have hfzw8:∀k,w8.frozen? ⟨BX,k,none⟩=false:=(fun k=>Kj Ru.out)
     clear hs8 JH))
    | (go_at_call 100;(
     (with_reducible refine Rt.out.mono ?_)
     rintro e w6 ⟨rfl,hs6,hf6⟩
     have Np:=Hj hs6
     have Rw:=Hj hf6
     have UU:Hid (∀k,w.heap.size≤k→k<w5.heap.size→w6.heap[k]?=w5.heap[k]?):=Hj fun k h1 h2=>Rw.out.block k h2 fun hq=>absurd (ng.out.hi k hq) (Nat.not_lt.2 h1)
     have Rx:Hid (w6.heap[BX]?=some (.cells #[.int .i64 (R:Int),.bool del,.int .i64 v.kind,.string v.space,.string v.name,.int .i64 (R:Int),.slice A9 v.n c9] 99 (0,0))):=Hj ((UU.out BX Nk.out (Cq JF.out)).trans JF.out)
     have herrw6:w6.cell? ⟨25,0,none⟩=some (.iface 368 (.pointer (some (ea 26)))):=(jG.out.below Np.out.bel).cell 26 (by decide) (by decide)
     have UW:Hid (Errs w6 ea):=Hj (jG.out.below Np.out.bel)
     obtain⟨hfw60,hfw61,hfw62,hfw63,hfw64,hfw65,hfw66⟩:=rV Rx.out;have hfzw6:∀k,w6.frozen? ⟨BX,k,none⟩=false:=(fun k=>Kj Rx.out)
     clear hs6 hf6))
    | (go_at_call 41;(
     first
      | (with_reducible refine(is_nil (ea 26) w6).mono ?_)
      | (have his:=UW.out.is E1 26 (Nat.pos_of_ne_zero HN1.out) HE28.out (by decide) (by decide);rw[HDec.out] at his;(with_reducible refine his.mono ?_))
      | (have his:=UW.out.is 26 26 (by decide) (by decide) (by decide) (by decide);rw[decide_eq_true rfl] at his;(with_reducible refine his.mono ?_))
     rintro e w' ⟨rfl,rfl⟩))
    | (go_at_call 35;(
     have hcm:=vU Np.out HEW.out Yr.out Yt.out HMw.out HTl.out
     rw[←UO.out,←HE2.out] at hcm
     first | rw[HD2.out,if_neg HN2.out] at hcm | rw[bQ,if_pos rfl,←Yv.out,←Rq.out] at hcm
     (with_reducible refine hcm.mono ?_)
     rintro e w7 ⟨rfl,hs7,UY⟩
     obtain⟨hs7,UY⟩:=H5.out.then Rw.out ⟨hs7,UY⟩
     have VU:=Hj hs7
     have VR:=Hj UY
     have UZ:Hid (∀k,w.heap.size≤k→k<w5.heap.size→w7.heap[k]?=w5.heap[k]?):=Hj fun k h1 h2=>VR.out.block k h2 fun hq=>absurd (ng.out.hi k hq) (Nat.not_lt.2 h1)
     have HRw7:Hid (w7.heap[BX]?=some (.cells #[.int .i64 (R:Int),.bool del,.int .i64 v.kind,.string v.space,.string v.name,.int .i64 (R:Int),.slice A9 v.n c9] 99 (0,0))):=Hj ((UZ.out BX Nk.out (Cq JF.out)).trans JF.out)
     have herrw7:w7.cell? ⟨25,0,none⟩=some (.iface 368 (.pointer (some (ea 26)))):=(jG.out.below VU.out.bel).cell 26 (by decide) (by decide)
     have HErw7:Hid (Errs w7 ea):=Hj (jG.out.below VU.out.bel)
     try (obtain⟨gl7,hc7,Nq⟩:=yL A5 EL k5 bb hs7 HEW.out HMc.out HLc.out Yu.out (OB.dP (OB.mono CO.out (Nat.zero_le _)) fun k hk=>UZ.out k (ah.lt CO.out k hk).1 (ah.lt CO.out k hk).2) (fun q hq hQ=>hQ.elim (fun hQ=>absurd (ng.out.hi q hQ) (Nat.not_lt.2 (ah.lt CO.out q hq).1)) fun hQ=>absurd (ah.lt CO.out q hq).2 (Nat.not_lt.2 hQ.1));rw[←XR.out] at Nq;(first | rw[bQ] at Nq | rw[HD3.out] at Nq);have JG:=Hj Nq;clear Nq)
     clear hs7 UY hcm))
    | (go_at_call 67;have HS8:=Nl;clear HS8;(
     have VW:dI w8 ⟨v.kind,v.space,v.name,(R:Int),A9,v.n,c9⟩ o:=HV5.out.dP fun k hk=>UR.out k (UQ.out k hk) (HV5.out.data.lt k hk).2
     have Yx:∀k,(sl ⟨v.kind,v.space,v.name,(R:Int),A9,v.n,c9⟩).ownBlock=some k→¬ext Q w5 w8 k∧w0.heap.size≤k:=(fun k hk=>⟨fun hq=>hq.elim (fun hq=>absurd (ng.out.hi k hq) (Nat.not_lt.2 (UQ.out k hk))) fun hq=>absurd (HV5.out.data.lt k hk).2 (Nat.not_lt.2 hq.1),Cz ng.out.bel.size (UQ.out k hk)⟩)
     have FI:=yJ ⟨v.kind,v.space,v.name,(R:Int),A9,v.n,c9⟩ o del Nl.out VW Yx (rW xW.out) (show M.tab.length≤_ from Cz HTl.out (by decide)) (by show ([]:List (Bool×aH)).length≤_;decide)
     rw[Nb.out] at FI
     (with_reducible refine FI.mono ?_)
     rintro e w9 ⟨rfl,hs9,uQ⟩
     have HY9:Hid (∀k,(sl ⟨v.kind,v.space,v.name,(R:Int),A9,v.n,c9⟩).ownBlock=some k→w.heap.size≤k∧k<w9.heap.size):=Hj fun k hk=>⟨UQ.out k hk,Nat.lt_of_lt_of_le (VW.data.lt k hk).2 uQ.size⟩
     have HFin:=Hj (ng.out.fin kT.out VT.out hs9 uQ HY9.out)
     have VX:Hid (w9.heap[BX]?=some (.cells #[.int .i64 (R:Int),.bool del,.int .i64 v.kind,.string v.space,.string v.name,.int .i64 (R:Int),.slice A9 v.n c9] 99 (0,0))):=Hj ((uQ.block BX (Cq Ru.out) fun hq=>hq.elim (fun hq=>absurd (ng.out.hi BX hq) (Nat.not_lt.2 Nk.out)) fun hq=>absurd (Cq JF.out) (Nat.not_lt.2 hq.1)).trans Ru.out)
     have VY:=Kq 0 VX.out
     simp at VY
     clear hs9 uQ FI VW Yx))
    | (go_at_call 67;(
     have VZ:dI w6 ⟨v.kind,v.space,v.name,(R:Int),A9,v.n,c9⟩ o:=HV5.out.dP fun k hk=>UU.out k (UQ.out k hk) (HV5.out.data.lt k hk).2
     have Yy:∀k,(sl ⟨v.kind,v.space,v.name,(R:Int),A9,v.n,c9⟩).ownBlock=some k→¬ext Q w5 w6 k∧w0.heap.size≤k:=(fun k hk=>⟨fun hq=>hq.elim (fun hq=>absurd (ng.out.hi k hq) (Nat.not_lt.2 (UQ.out k hk))) fun hq=>absurd (HV5.out.data.lt k hk).2 (Nat.not_lt.2 hq.1),Cz ng.out.bel.size (UQ.out k hk)⟩)
     have FI:=yJ ⟨v.kind,v.space,v.name,(R:Int),A9,v.n,c9⟩ o del Np.out VZ Yy xW.out (Cz HTl.out (by decide)) XQ.out
     rw[Nb.out] at FI
     (with_reducible refine FI.mono ?_)
     rintro e w9 ⟨rfl,hs9,uQ⟩
     have HY9:Hid (∀k,(sl ⟨v.kind,v.space,v.name,(R:Int),A9,v.n,c9⟩).ownBlock=some k→w.heap.size≤k∧k<w9.heap.size):=Hj fun k hk=>⟨UQ.out k hk,Nat.lt_of_lt_of_le (VZ.data.lt k hk).2 uQ.size⟩
     have HFin:=Hj (ng.out.fin kT.out Rw.out hs9 uQ HY9.out)
     have VX:Hid (w9.heap[BX]?=some (.cells #[.int .i64 (R:Int),.bool del,.int .i64 v.kind,.string v.space,.string v.name,.int .i64 (R:Int),.slice A9 v.n c9] 99 (0,0))):=Hj ((uQ.block BX (Cq Rx.out) fun hq=>hq.elim (fun hq=>absurd (ng.out.hi BX hq) (Nat.not_lt.2 Nk.out)) fun hq=>absurd (Cq JF.out) (Nat.not_lt.2 hq.1)).trans Rx.out)
     have VY:=Kq 0 VX.out
     simp at VY
     clear hs9 uQ FI VZ Yy))
    | fail)
   go_ret2
   first
    | (refine⟨R,0,M.app (del,o),L.app m bb,L.iE m bb,rfl,.inr ⟨Nc.out,.inl ?_⟩,HFin.out.1,HFin.out.2⟩;rw[←fH.out];exact⟨QY.out.symm,Nb.out.symm,rfl,rfl,rfl,rfl⟩)
    | (obtain⟨r1,r2⟩:=ng.out.behind kT.out ⟨Np.out,Rw.out⟩;refine⟨0,E1,M,L.app m bb,L.iE m bb,by rw[HD1.out];rfl,.inr ⟨Nc.out,.inr (.inl ?_)⟩,r1,r2⟩;rw[←fH.out,←QY.out];exact⟨HN1.out,HN26.out,rfl,rfl,rfl,rfl,rfl⟩)
    | (obtain⟨r1,r2⟩:=ng.out.behind kT.out ⟨VU.out,VR.out⟩;refine⟨0,E2,M,L.cp m tt,L.lD m tt,by rw[HD2.out];rfl,.inr ⟨Nc.out,.inr (.inr ⟨by rw[←fH.out];exact QY.out.symm,.inl ?_⟩)⟩,r1,r2⟩;rw[←UO.out,←HE2.out];exact⟨HN2.out,rfl,rfl,rfl,rfl,rfl⟩)
    | (refine⟨R,0,M.fresh.app (del,o),L1.app m1 bb,L1.iE m1 bb,rfl,.inr ⟨Nc.out,.inr (.inr ⟨by rw[←fH.out];exact QY.out.symm,.inr ⟨by rw[←UO.out];exact HE2.out.symm,L1,m1,by rw[←UO.out];exact Yv.out,by rw[←UO.out];exact Rq.out,.inl ?_⟩⟩)⟩,HFin.out.1,HFin.out.2⟩;rw[←fH.out];exact⟨XR.out.symm,Nb.out.symm,rfl,rfl,rfl,rfl⟩)
    | (obtain⟨r1,r2⟩:=ng.out.behind kT.out ⟨Nl.out,VT.out⟩;refine⟨0,E3,M.fresh,L1.app m1 bb,L1.iE m1 bb,by rw[HD3.out];rfl,.inr ⟨Nc.out,.inr (.inr ⟨by rw[←fH.out];exact QY.out.symm,.inr ⟨by rw[←UO.out];exact HE2.out.symm,L1,m1,by rw[←UO.out];exact Yv.out,by rw[←UO.out];exact Rq.out,.inr ?_⟩⟩)⟩,r1,r2⟩;rw[←fH.out,←XR.out];exact⟨HN3.out,rfl,rfl,rfl,rfl,rfl⟩)
end
end Go.Proofs.YtdhbpajamlfacaaGreatDoor
