/- The document's writer (layer 8) by its lengths: an element's end, Done; a change's text. -/
import Derived.Test.YtdhbpajamlfacaaGreatDoorRy
import Derived.Test.YtdhbpajamlfacaaGreatDoorLd
import Derived.Test.YtdhbpajamlfacaaGreatDoorWalT
set_option maxRecDepth 100000
namespace Go.Proofs.YtdhbpajamlfacaaGreatDoor
open Go.RowKit
section
variable {w w':World} {B g k:Nat} {n0 n1:List Nat}
theorem eF {n:Nat} (h:n<4611686018427387904):dX n≤9:=by have:=iG h;rwa [jV] at this
theorem Ql (ls:List Nat) (j:Nat) (h:j<ls.length):(ls.take (j+1)).sum=(ls.take j).sum+ls.getD j 0:=by
 rw[List.take_succ_eq_append_getElem h,List.sum_append]
 simp[List.getD_eq_getElem?_getD,h]
theorem EH (ls:List Nat) (j:Nat):(ls.take j).sum≤ls.sum:=by
 have h:=congrArg List.sum (List.take_append_drop j ls)
 rw[List.sum_append] at h
 omega
/-- The cells of a row. -/
theorem kR.get {A:Option Addr} {c:Nat} {ns:List Nat} (h:kR w B (.slice A ns.length c) ns) (h0:0<ns.length):∃b o,A=some ⟨b,o,none⟩∧∀j,j<ns.length→∃A c,w.cell? ⟨b,o+j,none⟩=some (.slice A (ns.getD j 0) c)∧LR w (.slice A (ns.getD j 0) c) (ns.getD j 0):=by
 obtain⟨ws,h1,h2,h3⟩:=h
 have hl:ws.length=ns.length:=by have:=h1.1;simpa using this
 obtain⟨b,o,_,e,_,_,hc⟩:=h1.cells (by rw[List.length_map];omega)
 injection e with e _ _
 refine⟨b,o,e,fun j hj=> ?_⟩
 obtain⟨x,hx⟩:∃x,ws[j]?=some x:=⟨_,List.getElem?_eq_getElem (by omega)⟩
 obtain⟨A,c,l,e,-,-,hr⟩:=(h3 x (List.mem_of_getElem? hx)).form
 have e2:ns.getD j 0=x.1:=by rw[←h2,List.getD_eq_getElem?_getD,List.getElem?_map,hx];rfl
 exact⟨A,c,by rw[hc j x.2 (by rw[List.getElem?_map,hx];rfl),e,e2],by rw[e2];exact LR.of hr⟩
set_option maxHeartbeats 4000000 in
theorem EI (h:oV w B g 1 n0 n1) (hl:n0.length≤100∧n1.length≤100) (hs:n1.sum≤65530):
  Calls Tryz.prog 195 #[.pointer (some ⟨g,0,none⟩),.agg #[.int .i64 2,.int .i64 0,.bool false,.slice none 0 0,.string ⟨#[]⟩]] w fun e w'=>e=.returned (.tuple #[])∧oV w' B g 0 (n0++[bJ n1.sum]) n1∧Below B w w':=by
 have hB:=h.up
 obtain⟨At,ct,Ar,cr,r0,r1,h⟩:=h
 have hT:ah w B 3 1 (.slice At 1 ct) 1 [.int .i64 48]:=(h.tags.resolve_left (by decide)).2
 obtain⟨bt,ot,_,e,hbt,hbtl,htc⟩:=hT.cells (by simp)
 cases e
 obtain⟨br,ZO,_,e,hbr,Xq,hrc⟩:=h.rows.cells (by simp)
 cases e
 obtain⟨A1,c1,e⟩:=h.Lh.form
 subst e
 have hcap:(0:Int)≤(ct:Int):=by omega
 have KW:Hid (∀W,Below w.heap.size w W→W.cell? ⟨g,0,none⟩=some (.slice (some ⟨bt,ot,none⟩) 1 ct)∧W.cell? ⟨g,1,none⟩=some (.slice (some ⟨br,ZO,none⟩) 2 cr)∧W.cell? ⟨g,2,none⟩=some (.int .i64 0)∧W.cell? ⟨br,ZO+1,none⟩=some (.slice A1 n1.length c1)∧W.cell? ⟨bt,ot,none⟩=some (.int .i64 48)∧W.frozen? ⟨g,0,none⟩=false):=Hj fun W hW=>
  ⟨Kq 0 (h.below hW).cells,Kq 1 (h.below hW).cells,Kq 2 (h.below hW).cells,Kz hW _ _ (hrc 1 _ rfl),Kz hW _ _ (htc 0 _ rfl),Kj (h.below hW).cells⟩
 have HP:Hid (∀W,Below w.heap.size w W→(∀A n c,LB W B (.slice A n c) n→LR (W.setCell ⟨g,0,none⟩ (.slice (some ⟨bt,ot,none⟩) 0 ct)) (.slice A n c) n)∧oV (W.setCell ⟨g,0,none⟩ (.slice (some ⟨bt,ot,none⟩) 0 ct)) B g 0 n0 n1∧Below B w (W.setCell ⟨g,0,none⟩ (.slice (some ⟨bt,ot,none⟩) 0 ct))):=Hj fun W hW=>by
  have h7:=h.below hW
  have hF:=(Fr.refl (fun q=>q=g) W).setCell (p:=⟨g,0,none⟩) (fun _=>rfl) (.slice (some ⟨bt,ot,none⟩) 0 ct)
  refine⟨fun A n c h=>(h.kept h7.cells (by decide) hF).lr,⟨_,ct,_,cr,r0,_,⟨heap_setCell_same _ g 0 _ _ _ h7.cells,.inl rfl,ah.kept h7.rows hF fun k hk e=> ?_,h7.row0.kept h7.cells (by decide) (by decide) hF,h7.Lh.kept h7.cells (by decide) (by decide) hF,h.own⟩⟩,(hW.mono hB).trans (hF.below (B:=B) (Cz hB hW.size) fun q _ e=>by subst e;exact h.own)⟩
  subst e
  obtain⟨cur,hc⟩:=ak h7.rows hk
  exact absurd (aj hc h7.cells) (by decide)
 have HG:Hid (0<n1.length→∃b o,A1=some ⟨b,o,none⟩∧∀j,j<n1.length→∃A c,w.cell? ⟨b,o+j,none⟩=some (.slice A (n1.getD j 0) c)∧LR w (.slice A (n1.getD j 0) c) (n1.getD j 0)):=Hj fun h0=>h.Lh.get h0
 have HS:=Hj (Ql n1)
 have Ye:=Hj (EH n1)
 have HSu:=Hj hs
 have HF:Hid ((n1.take n1.length).sum=n1.sum):=Hj (by rw[List.take_length])
 have rM:=Hj fun W (hW:oV W B g 0 n0 n1) A c hx=>Vr hW 48 (by decide) (by decide) A n1.sum c hx hs hl
 have HB:=Hj hB
 have Yv:Hid (n1.length≤100):=Hj hl.2
 clear h hT htc hrc hB hs hl hbt hbtl hbr Xq
 generalize bJ n1.sum=E at*
 obtain⟨sj,hsj⟩:∃sj:Nat→Nat,sj=fun j=>(n1.take j).sum:=⟨_,rfl⟩
 have H0:Hid (sj 0=0):=Hj (by rw[hsj];rfl)
 replace HS:Hid (∀j,j<n1.length→sj (j+1)=sj j+n1.getD j 0):=Hj (by rw[hsj];exact HS.out)
 replace Ye:Hid (∀j,sj j≤n1.sum):=Hj (by rw[hsj];exact Ye.out)
 replace HF:Hid (sj n1.length=n1.sum):=Hj (by rw[hsj];exact HF.out)
 clear hsj
 have K2:=fun o=>(KW.out (w.alloc o) ((Below.refl _ w).alloc Kv o)).2.2.1
 have K0:=fun o=>(KW.out (w.alloc o) ((Below.refl _ w).alloc Kv o)).1
 have K1:=fun o=>(KW.out (w.alloc o) ((Below.refl _ w).alloc Kv o)).2.1
 have K3:=fun o=>(KW.out (w.alloc o) ((Below.refl _ w).alloc Kv o)).2.2.2.1
 have K4:=fun o=>(KW.out (w.alloc o) ((Below.refl _ w).alloc Kv o)).2.2.2.2.1
 go_enter Tryz.func195,Tryz.ntmps195
 go_wp2
 obtain⟨wq,hwq⟩:∃W,W=((w.alloc (.cells #[.int .i64 2,.int .i64 0,.bool false,.slice none 0 0,.string ⟨#[]⟩] 200)).alloc (.cells #[] 5)):=⟨_,rfl⟩
 have HQ:Hid (LB wq w.heap.size (.slice (some ⟨w.heap.size+1,0,none⟩) 0 0) 0∧Below w.heap.size w wq):=Hj (by
  rw[hwq]
  refine⟨?_,((Below.refl _ w).alloc Kv _).alloc (by simp) _⟩
  simpa using LB.empty (B:=w.heap.size) (w.alloc (.cells #[.int .i64 2,.int .i64 0,.bool false,.slice none 0 0,.string ⟨#[]⟩] 200)) (by simp))
 rw[←hwq]
 clear hwq K0 K1 K2 K3 K4
 go_loopg [6,133] n1.length (fun k s6 s133 wr=>∃A c j,j+k=n1.length∧s133=.int .i64 (j:Int)∧s6=.slice A (sj j) c∧LB wr w.heap.size (.slice A (sj j) c) (sj j)∧Below w.heap.size w wr)
 case atStart=>exact⟨_,_,0,by omega,rfl,by rw[H0.out],by rw[H0.out];exact HQ.out.1,HQ.out.2⟩
 case round=>
  obtain⟨A,c,j,hj,rfl,rfl,hown,hbel⟩:=hrel
  have HJ:=Hj hj
  have cZ:=Hj hown
  have bV:=Hj hbel
  clear hown hbel
  by_cases hlt:j<n1.length
  ·obtain ⟨b,o,rfl,hc⟩:=HG.out (by omega)
   obtain⟨A',c',c1',hr⟩:=hc j hlt
   have d1:=Kz bV.out _ _ c1'
   have HR:=Hj (hr.below bV.out)
   have HE:=Hj (HS.out j hlt)
   have YZ:=Hj (Ye.out (j+1))
   have k0:(0:Int)≤(j:Int):=by omega
   have k1:(j:Int)<(n1.length:Int):=by omega
   have k2:(j:Int)≤100:=by have:=Yv.out;omega
   have FM:=Hj hlt
   clear hc hr c1' hlt hj
   generalize n1.getD j 0=t at*
   go_wp2_with (first
    | (at_builtin;(refine jF rfl (.tmp 137) (.tmp 138) rfl (sj (j+1)) bV.out bV.out.size cZ.out rfl HR.out rfl HE.out.symm (by have:=YZ.out;have:=HSu.out;omega) ?_;intro A2 c2 w2 ho2 hb2;have O2:=Hj ho2;have B2:=Hj hb2;clear ho2 hb2))
    | fail)
   go_roundg (gk-1)
   case measure=>have:=HJ.out;have:=FM.out;omega
   case rel=>exact⟨A2,c2,j+1,by have:=HJ.out;have:=FM.out;omega,by go_num,rfl,O2.out,B2.out⟩
  ·obtain rfl:j=n1.length:=by omega
   have k1:decide ((n1.length:Int)<(n1.length:Int))=false:=decide_eq_false (by omega)
   obtain⟨y0,y1,y2,y3,y4,yf⟩:=KW.out wr bV.out
   obtain⟨hp1,hp2,hp3⟩:=HP.out wr bV.out
   rw[HF.out] at cZ
   have HLR:=Hj (hp1 _ _ _ (cZ.out.mono HB.out))
   have HW:=Hj hp2
   have HW3:=Hj hp3
   clear hlt hj hp1 hp2 hp3
   rw[HF.out]
   go_wp2_with (first
    | (go_at_call 229;((with_reducible refine(rM.out _ HW.out A c HLR.out).mono ?_);rintro e w2 ⟨rfl,z1,z2⟩;have Z1:=Hj z1;have Z2:=Hj z2;clear z1 z2))
    | fail)
   exact bodyPost_end (results_none rfl _ _ _) rfl ⟨rfl,Z1.out,HW3.out.trans Z2.out⟩
theorem sS (h:oV w B g 1 n0 n1) (kind tag:Int) (hk:kind=3∧tag=2∨kind=4∧tag=10) (n:Nat) (hn:n<4611686018427387904) (hl:n0.length≤100∧n1.length≤100):
  Calls Tryz.prog 195 #[.pointer (some ⟨g,0,none⟩),.agg #[.int .i64 kind,.int .i64 (n:Int),.bool false,.slice none 0 0,.string ⟨#[]⟩]] w fun e w'=>e=.returned (.tuple #[])∧oV w' B g 1 n0 (n1++[bJ (dX n)])∧Below B w w':=
 Qj h kind n tag none 0 0 (dX n) (by omega) (by omega) (by omega) (fun W _=>Qh kind tag hk n hn W) (Cz (eF hn) (by decide)) hl
theorem G6 (h:oV w B g 1 n0 n1) (A:Option Addr) (n c:Nat) (hb:LR w (.slice A n c) n) (hn:n≤65530) (hl:n0.length≤100∧n1.length≤100):
  Calls Tryz.prog 195 #[.pointer (some ⟨g,0,none⟩),.agg #[.int .i64 6,.int .i64 0,.bool false,.slice A n c,.string ⟨#[]⟩]] w fun e w'=>e=.returned (.tuple #[])∧oV w' B g 1 n0 (n1++[bJ n])∧Below B w w':=
 Qj h 6 0 4 A n c n (by decide) (by decide) (by decide) (fun W hW=>(Qi A n c W).mono fun e w' ⟨h1,h2⟩=>⟨A,c,h1,(hb.below hW).below h2,h2⟩) hn hl
theorem Qm (h:oV w B g 0 [k] n1) (hk:k≤65536):
  Calls Tryz.prog 196 #[.pointer (some ⟨g,0,none⟩)] w fun e w'=>∃A c,e=.returned (.tuple #[.slice A k c,.int .i64 0])∧LB w' w.heap.size (.slice A k c) k∧Below w.heap.size w w':=by
 obtain⟨At,ct,Ar,cr,r0,r1,h⟩:=h
 obtain⟨br,ZO,_,e,hbr,Xq,hrc⟩:=h.rows.cells (by simp)
 cases e
 obtain⟨A0,c0,e⟩:=h.row0.form
 subst e
 obtain⟨b,o,rfl,hc⟩:=h.row0.get (by simp)
 obtain⟨A1,c1,x1,hr⟩:=hc 0 (by simp)
 have KW:Hid (∀W,Below w.heap.size w W→W.cell? ⟨g,0,none⟩=some (.slice At 0 ct)∧W.cell? ⟨g,1,none⟩=some (.slice (some ⟨br,ZO,none⟩) 2 cr)∧W.cell? ⟨g,2,none⟩=some (.int .i64 0)∧W.cell? ⟨br,ZO,none⟩=some (.slice (some ⟨b,o,none⟩) 1 c0)∧W.cell? ⟨b,o,none⟩=some (.slice A1 k c1)):=Hj fun W hW=>
  ⟨Kq 0 (h.below hW).cells,Kq 1 (h.below hW).cells,Kq 2 (h.below hW).cells,Kz hW _ _ (hrc 0 _ rfl),Kz hW _ _ x1⟩
 have HR:Hid (LR w (.slice A1 k c1) k):=Hj hr
 have HK:=Hj hk
 obtain⟨y0,y1,y2,y3,y4⟩:=KW.out w (Below.refl _ _)
 have z1:=fun o'=>(KW.out (w.alloc o') ((Below.refl _ w).alloc Kv o')).2.1
 have z3:=fun o'=>(KW.out (w.alloc o') ((Below.refl _ w).alloc Kv o')).2.2.2.1
 have z4:=fun o'=>(KW.out (w.alloc o') ((Below.refl _ w).alloc Kv o')).2.2.2.2
 have hk0:¬(65536:Int)<(k:Int):=by omega
 clear h hrc hc x1 hr hk hbr Xq
 go_enter Tryz.func196,Tryz.ntmps196
 go_wp2
 have HQ:Hid (LB (w.alloc (.cells #[] 5)) w.heap.size (.slice (some ⟨w.heap.size,0,none⟩) 0 0) 0∧Below w.heap.size w (w.alloc (.cells #[] 5))):=Hj ⟨LB.empty w Kv,(Below.refl _ w).alloc Kv _⟩
 clear y0 y1 y2 y3 y4 z1 z3 z4
 go_loopg [4,36] 1 (fun kk s4 s36 wr=>∃(A:Option Addr) (c j m:Nat),(j=0∧m=0∧kk=1∨j=1∧m=k∧kk=0)∧s36=.int .i64 (j:Int)∧s4=.slice A m c∧LB wr w.heap.size (.slice A m c) m∧Below w.heap.size w wr)
 case atStart=>exact⟨_,_,0,0,.inl ⟨rfl,rfl,rfl⟩,rfl,rfl,HQ.out.1,HQ.out.2⟩
 case round=>
  obtain⟨A,c,j,m,hj,rfl,rfl,hown,hbel⟩:=hrel
  have cZ:=Hj hown
  have bV:=Hj hbel
  clear hown hbel
  rcases hj with ⟨rfl,rfl,e⟩ | ⟨rfl,rfl,e⟩
  ·have x1:=(KW.out wr bV.out).2.2.2.2
   have HG:=Hj e
   clear e
   go_wp2_with (first
    | (at_builtin;(refine jF rfl (.tmp 40) (.tmp 41) rfl k bV.out bV.out.size cZ.out rfl (HR.out.below bV.out) rfl (Nat.zero_add _) (by have:=HK.out;omega) ?_;intro A2 c2 w2 ho2 hb2;have O2:=Hj ho2;have B2:=Hj hb2;clear ho2 hb2))
    | fail)
   go_roundg (gk-1)
   case measure=>have:=HG.out;omega
   case rel=>exact⟨A2,c2,1,k,.inr ⟨rfl,rfl,by have:=HG.out;omega⟩,rfl,rfl,O2.out,B2.out⟩
  ·clear e
   go_wp2
   exact bodyPost_ret (results_tmp2 rfl _ _ _) rfl ⟨A,c,rfl,cZ.out,bV.out⟩
end
def oU (what kind rev sp nm dl:Nat):Nat:=bJ (bJ (dX what)+bJ (dX kind)+bJ sp+bJ nm+bJ (dX rev)+bJ dl)
theorem EJ {what kind rev sp nm dl:Nat} (h:dX what≤9∧dX kind≤9∧dX rev≤9) (h4:sp≤200) (h5:nm≤200) (h6:dl≤10000):oU what kind rev sp nm dl≤65536:=by
 unfold oU
 have a1:=iM (dX what)
 have a2:=iM (dX kind)
 have a3:=iM (dX rev)
 have a4:=iM sp
 have a5:=iM nm
 have a6:=iM dl
 have a7:=iM (bJ (dX what)+bJ (dX kind)+bJ sp+bJ nm+bJ (dX rev)+bJ dl)
 omega
theorem ZL {what kind rev:Nat} {space name data:List UInt8} (h1:what<4611686018427387904) (h2:kind<4611686018427387904) (h3:rev<4611686018427387904) (h4:space.length≤200) (h5:name.length≤200) (h6:data.length≤10000):(Df what kind rev space name data).length=oU what kind rev space.length name.length data.length:=by
 have hk:=vH h1 h2 h3 h4 h5 h6
 unfold Df oU
 rw[jJ 48 (by omega)]
 congr 1
 have i1:=eF h1
 have i2:=eF h2
 have i3:=eF h3
 simp only[RQ,List.flatten_cons,List.flatten_nil,List.length_append,List.length_nil]
 rw[jJ 10 (by rw[jV];omega),jJ 10 (by rw[jV];omega),jJ 4 (by omega),jJ 4 (by omega),jJ 2 (by rw[jV];omega),jJ 4 (by omega),jV,jV,jV]
 omega
set_option maxHeartbeats 4000000 in
theorem Pg (what kind rev:Nat) (v:SO.OV) (w:World) (hw:what=1∨what=2∧v.n=0) (hk:v.kind=(kind:Int)) (hkl:kind<1000000) (hr:rev<4611686018427387904) (hs:v.space.size≤200) (hn:v.name.size≤200) (hd:v.n≤10000) (hb:LR w (.slice v.A v.n v.c) v.n):
  Calls Tryz.prog 132 #[.int .i64 (what:Int),.agg #[.int .i64 v.kind,.string v.space,.string v.name,.int .i64 v.ver,.slice v.A v.n v.c],.int .i64 (rev:Int)] w fun e w'=>∃A c,e=.returned (.slice A (oU what kind rev v.space.size v.name.size v.n) c)∧LB w' w.heap.size (.slice A (oU what kind rev v.space.size v.name.size v.n) c) (oU what kind rev v.space.size v.name.size v.n)∧Below w.heap.size w w':=by
 obtain⟨kd,sp,nm,ve,A,n,c⟩:=v
 simp only at hw hk hs hn hd hb ⊢
 subst hk
 obtain⟨wb,q,hwb,hq,hbb,hrow⟩:∃(wb:World) (q:Nat),wb=w.alloc (.cells #[.int .i64 (kind:Int),.string sp,.string nm,.int .i64 ve,.slice A n c] 37)∧q=w.heap.size∧Below w.heap.size w wb∧wb.heap[q]?=some (.cells #[.int .i64 (kind:Int),.string sp,.string nm,.int .i64 ve,.slice A n c] 37 (0,0)):=⟨_,_,rfl,rfl,(Below.refl _ w).alloc Kv _,heap_alloc_new w _⟩
 obtain⟨w2,g,hw2,hg,hb2,hrow2⟩:∃(w2:World) (g:Nat),w2=wb.alloc (.cells #[.slice none 0 0,.slice none 0 0,.int .i64 0] 271)∧g=wb.heap.size∧Below wb.heap.size wb w2∧w2.heap[g]?=some (.cells #[.slice none 0 0,.slice none 0 0,.int .i64 0] 271 (0,0)):=⟨_,_,rfl,rfl,(Below.refl _ wb).alloc Kv _,heap_alloc_new wb _⟩
 have hgq:g=w.heap.size+1:=by rw[hg,hwb];simp
 have HK:Hid (∀W,Below wb.heap.size wb W→W.cell? ⟨q,0,none⟩=some (.int .i64 (kind:Int))∧W.cell? ⟨q,1,none⟩=some (.string sp)∧W.cell? ⟨q,2,none⟩=some (.string nm)∧W.cell? ⟨q,4,none⟩=some (.slice A n c)):=
  Hj fun W hW=>⟨Kz hW _ _ (Kq 0 hrow),Kz hW _ _ (Kq 1 hrow),Kz hW _ _ (Kq 2 hrow),Kz hW _ _ (Kq 4 hrow)⟩
 have hcs:∀(s:ByteArray) W,(convert 9 35 (.string s)).run Tryz.prog W=.ok (.slice (some ⟨W.heap.size,0,none⟩) s.size (grownCap W s.size 0 5)) (Lib.bytesWorld W 5 s):=fun s W=>Lib.run_convert_string_bytes W _ _ _ s Tryz.underlying9 Tryz.underlying35 Tryz.underlying5
 have XY:=Hj (TT w2 wb.heap.size g (by omega) hrow2)
 have HB:Hid (∀W,Below w.heap.size w W→LR W (.slice A n c) n):=Hj fun W hW=>hb.below hW
 have Vt:=Hj (And.intro hbb (hbb.trans (hb2.mono hbb.size)))
 have HB2:=Hj hb2
 have HN:=Hj (And.intro hkl (And.intro hr (And.intro hs (And.intro hn hd))))
 have Q7:Hid (∀W (s:ByteArray) n1,s.size≤200→n1.length≤100→oV W wb.heap.size g 1 [] n1→Calls Tryz.prog 195 #[.pointer (some ⟨g,0,none⟩),.agg #[.int .i64 6,.int .i64 0,.bool false,.slice (some ⟨W.heap.size,0,none⟩) s.size (grownCap W s.size 0 5),.string ⟨#[]⟩]] (Lib.bytesWorld W 5 s) fun e w'=>e=.returned (.tuple #[])∧oV w' wb.heap.size g 1 [] (n1++[bJ s.size])∧Below wb.heap.size W w'):=Hj fun W s n1 h1 h2 h3=>by
  have hbw:=lT W 5 s
  exact(G6 (h3.below hbw) _ _ _ (LR.of (sG W _ s)) (by omega) ⟨by simp,h2⟩).mono fun e w' ⟨e1,e2,e3⟩=>⟨e1,e2,(hbw.mono h3.up).trans e3⟩
 have HT:Hid (∀a b c d e f:Nat,bJ ([]++[a]++[b]++[c]++[d]++[e]++[f]).sum=bJ (a+b+c+d+e+f)):=Hj fun a b c d e f=>by simp;congr 1;omega
 have HL:Hid (∀a,a≤10000→bJ a≤10004):=Hj fun a h=>by have:=iM a;omega
 have HTW:Hid (dX what≤9∧dX kind≤9∧dX rev≤9):=Hj ⟨eF (by omega),eF (by omega),eF hr⟩
 have HI:=Hj (And.intro (eF (n:=kind) (by omega)) (eF hr))
 have HE:=Hj (And.intro hwb (And.intro hw2 (And.intro hgq hq)))
 rcases hw with rfl | ⟨rfl,rfl⟩
 ·clear hb hr hs hn hd hkl hrow hrow2 hbb hb2 hwb hw2 hgq hq hg
  have HI1:Hid (∀W,oV W wb.heap.size g 1 [] []→Calls Tryz.prog 195 #[.pointer (some ⟨g,0,none⟩),.agg #[.int .i64 4,.int .i64 1,.bool false,.slice none 0 0,.string ⟨#[]⟩]] W fun e w'=>e=.returned (.tuple #[])∧oV w' wb.heap.size g 1 [] ([]++[bJ (dX 1)])∧Below wb.heap.size W w'):=Hj fun W h=>sS h 4 10 (.inr ⟨rfl,rfl⟩) 1 (by decide) ⟨by simp,by simp⟩
  go_enter Tryz.func132,Tryz.ntmps132
  go_wp2_with (first
   | (go_at_call 195;(rw[←HE.out.1,←HE.out.2.1,←HE.out.2.2.1,←HE.out.2.2.2];(with_reducible refine XY.out.mono ?_);rintro e w3 ⟨rfl,hz,hb⟩;have R3:=Hj hz;have B3:=Hj (HB2.out.trans hb);obtain⟨x30,x31,x32,x34⟩:=HK.out w3 B3.out;clear hz hb))
   | (go_at_call 195;((with_reducible refine(HI1.out w3 R3.out).mono ?_);rintro e w4 ⟨rfl,hz,hb⟩;have R4:=Hj hz;have B4:=Hj (B3.out.trans hb);obtain⟨x40,x41,x42,x44⟩:=HK.out w4 B4.out;clear hz hb))
   | (go_at_call 195;((with_reducible refine(sS R4.out 4 10 (.inr ⟨rfl,rfl⟩) kind (by have:=HN.out;omega) ⟨by simp,by simp⟩).mono ?_);rintro e w5 ⟨rfl,hz,hb⟩;have R5:=Hj hz;have B5:=Hj (B4.out.trans hb);obtain⟨x50,x51,x52,x54⟩:=HK.out w5 B5.out;clear hz hb))
   | (go_at_call 195;((with_reducible refine(Q7.out w5 sp _ HN.out.2.2.1 (by simp) R5.out).mono ?_);rintro e w6 ⟨rfl,hz,hb⟩;have R6:=Hj hz;have B6:=Hj (B5.out.trans hb);obtain⟨x60,x61,x62,x64⟩:=HK.out w6 B6.out;clear hz hb))
   | (go_at_call 195;((with_reducible refine(Q7.out w6 nm _ HN.out.2.2.2.1 (by simp) R6.out).mono ?_);rintro e w7 ⟨rfl,hz,hb⟩;have R7:=Hj hz;have B7:=Hj (B6.out.trans hb);obtain⟨x70,x71,x72,x74⟩:=HK.out w7 B7.out;clear hz hb))
   | (go_at_call 195;((with_reducible refine(sS R7.out 3 2 (.inl ⟨rfl,rfl⟩) rev HN.out.2.1 ⟨by simp,by simp⟩).mono ?_);rintro e w8 ⟨rfl,hz,hb⟩;have R8:=Hj hz;have B8:=Hj (B7.out.trans hb);obtain⟨x80,x81,x82,x84⟩:=HK.out w8 B8.out;clear hz hb))
   | (go_at_call 195;((with_reducible refine(G6 R8.out A n c (HB.out _ (Vt.out.1.trans (B8.out.mono Vt.out.1.size))) (by have:=HN.out;omega) ⟨by simp,by simp⟩).mono ?_);rintro e w9 ⟨rfl,hz,hb⟩;have R9:=Hj hz;have B9:=Hj (B8.out.trans hb);clear hz hb))
   | (go_at_call 195;((with_reducible refine(EI R9.out ⟨by simp,by simp⟩ (by have h1:=HL.out (dX 1) (Cz (eF (by decide)) (by decide));have h2:=HL.out (dX kind) (by have:=HI.out;omega);have h3:=HL.out sp.size (by have:=HN.out;omega);have h4:=HL.out nm.size (by have:=HN.out;omega);have h5:=HL.out (dX rev) (by have:=HI.out;omega);have h6:=HL.out n (by have:=HN.out;omega);simp;omega)).mono ?_);rintro e w10 ⟨rfl,hz,hb⟩;rw[HT.out] at hz;have R10:=Hj (show oV w10 wb.heap.size g 0 [oU 1 kind rev sp.size nm.size n] _ from hz);have B10:=Hj (B9.out.trans hb);clear hz hb))
   | (go_at_call 196;((with_reducible refine(Qm R10.out (EJ HTW.out (by have:=HN.out;omega) (by have:=HN.out;omega) (by have:=HN.out;omega))).mono ?_);rintro e YR ⟨Wu,c11,rfl,wE,wF⟩;have N9:=Hj wE;have B11:=Hj wF;clear wE wF))
   | fail)
  go_ret
  exact⟨Wu,c11,rfl,N9.out.mono (Cz Vt.out.1.size R10.out.up),Vt.out.1.trans ((B10.out.trans (B11.out.mono R10.out.up)).mono Vt.out.1.size)⟩
 ·clear hb hr hs hn hd hkl hrow hrow2 hbb hb2 hwb hw2 hgq hq hg
  have HI1:Hid (∀W,oV W wb.heap.size g 1 [] []→Calls Tryz.prog 195 #[.pointer (some ⟨g,0,none⟩),.agg #[.int .i64 4,.int .i64 2,.bool false,.slice none 0 0,.string ⟨#[]⟩]] W fun e w'=>e=.returned (.tuple #[])∧oV w' wb.heap.size g 1 [] ([]++[bJ (dX 2)])∧Below wb.heap.size W w'):=Hj fun W h=>sS h 4 10 (.inr ⟨rfl,rfl⟩) 2 (by decide) ⟨by simp,by simp⟩
  go_enter Tryz.func132,Tryz.ntmps132
  go_wp2_with (first
   | (go_at_call 195;(rw[←HE.out.1,←HE.out.2.1,←HE.out.2.2.1,←HE.out.2.2.2];(with_reducible refine XY.out.mono ?_);rintro e w3 ⟨rfl,hz,hb⟩;have R3:=Hj hz;have B3:=Hj (HB2.out.trans hb);obtain⟨x30,x31,x32,x34⟩:=HK.out w3 B3.out;clear hz hb))
   | (go_at_call 195;((with_reducible refine(HI1.out w3 R3.out).mono ?_);rintro e w4 ⟨rfl,hz,hb⟩;have R4:=Hj hz;have B4:=Hj (B3.out.trans hb);obtain⟨x40,x41,x42,x44⟩:=HK.out w4 B4.out;clear hz hb))
   | (go_at_call 195;((with_reducible refine(sS R4.out 4 10 (.inr ⟨rfl,rfl⟩) kind (by have:=HN.out;omega) ⟨by simp,by simp⟩).mono ?_);rintro e w5 ⟨rfl,hz,hb⟩;have R5:=Hj hz;have B5:=Hj (B4.out.trans hb);obtain⟨x50,x51,x52,x54⟩:=HK.out w5 B5.out;clear hz hb))
   | (go_at_call 195;((with_reducible refine(Q7.out w5 sp _ HN.out.2.2.1 (by simp) R5.out).mono ?_);rintro e w6 ⟨rfl,hz,hb⟩;have R6:=Hj hz;have B6:=Hj (B5.out.trans hb);obtain⟨x60,x61,x62,x64⟩:=HK.out w6 B6.out;clear hz hb))
   | (go_at_call 195;((with_reducible refine(Q7.out w6 nm _ HN.out.2.2.2.1 (by simp) R6.out).mono ?_);rintro e w7 ⟨rfl,hz,hb⟩;have R7:=Hj hz;have B7:=Hj (B6.out.trans hb);obtain⟨x70,x71,x72,x74⟩:=HK.out w7 B7.out;clear hz hb))
   | (go_at_call 195;((with_reducible refine(sS R7.out 3 2 (.inl ⟨rfl,rfl⟩) rev HN.out.2.1 ⟨by simp,by simp⟩).mono ?_);rintro e w8 ⟨rfl,hz,hb⟩;have R8:=Hj hz;have B8:=Hj (B7.out.trans hb);obtain⟨x80,x81,x82,x84⟩:=HK.out w8 B8.out;clear hz hb))
   | (go_at_call 195;((with_reducible refine(G6 R8.out none 0 0 (LR.of (RB.nil _ none)) (by have:=HN.out;omega) ⟨by simp,by simp⟩).mono ?_);rintro e w9 ⟨rfl,hz,hb⟩;have R9:=Hj hz;have B9:=Hj (B8.out.trans hb);clear hz hb))
   | (go_at_call 195;((with_reducible refine(EI R9.out ⟨by simp,by simp⟩ (by have h1:=HL.out (dX 2) (Cz (eF (by decide)) (by decide));have h2:=HL.out (dX kind) (by have:=HI.out;omega);have h3:=HL.out sp.size (by have:=HN.out;omega);have h4:=HL.out nm.size (by have:=HN.out;omega);have h5:=HL.out (dX rev) (by have:=HI.out;omega);have h6:=HL.out 0 (by have:=HN.out;omega);simp;omega)).mono ?_);rintro e w10 ⟨rfl,hz,hb⟩;rw[HT.out] at hz;have R10:=Hj (show oV w10 wb.heap.size g 0 [oU 2 kind rev sp.size nm.size 0] _ from hz);have B10:=Hj (B9.out.trans hb);clear hz hb))
   | (go_at_call 196;((with_reducible refine(Qm R10.out (EJ HTW.out (by have:=HN.out;omega) (by have:=HN.out;omega) (by have:=HN.out;omega))).mono ?_);rintro e YR ⟨Wu,c11,rfl,wE,wF⟩;have N9:=Hj wE;have B11:=Hj wF;clear wE wF))
   | fail)
  go_ret
  exact⟨Wu,c11,rfl,N9.out.mono (Cz Vt.out.1.size R10.out.up),Vt.out.1.trans ((B10.out.trans (B11.out.mono R10.out.up)).mono Vt.out.1.size)⟩
open SO
theorem Pv {s:ByteArray} (wG:s.size≤24) (l0:0<s.size) (lm:s.size-1<s.size):
  dK s.data.toList=(!((s[0].toNat:Int)==45)&&(!((s[s.size-1].toNat:Int)==45)&&s.data.toList.all fun c=>(c==45)||oH c)):=by
 have e:∀c:UInt8,((c.toNat:Int)==45)=(c==45):=fun c=>by
  rw[Bool.eq_iff_iff,beq_iff_eq,beq_iff_eq]
  exact⟨fun h=>UInt8.toNat_inj.1 (by show c.toNat=45;omega),fun h=>by subst h;rfl⟩
 rw[e,e,←vI l0,←vI lm]
 have hl:=size_data s
 unfold dK
 rw[hl,decide_eq_true l0,decide_eq_true wG,Bool.true_and,Bool.true_and]
 generalize s.data.toList=l at*
 rw[←hl] at l0 ⊢
 congr 1
 ·cases l with
  | nil=>simp at l0
  | cons a l=>simp[Lib.hasPrefix,List.isPrefixOf,Bool.beq_comm]
 ·congr 2
  unfold Lib.hasSuffix List.isSuffixOf
  have hr:l.getD (l.length-1) 0=l.reverse.getD 0 0:=by
   rw[List.getD_eq_getElem?_getD,List.getD_eq_getElem?_getD,List.getElem?_reverse (by omega)]
   congr 2
  rw[hr]
  cases hq:l.reverse with
  | nil=>have:=congrArg List.length hq;simp at this;rw[this] at l0;simp at l0
  | cons a l=>simp[List.isPrefixOf,Bool.beq_comm]
theorem Pz (c:UInt8):((c==45)||oH c)=(decide (c.toNat=45)||((decide (97≤c.toNat)&&decide (c.toNat≤122))||(decide (48≤c.toNat)&&decide (c.toNat≤57)))):=by
 have e:(c==45)=decide (c.toNat=45):=by
  rw[Bool.eq_iff_iff,beq_iff_eq,decide_eq_true_iff]
  exact⟨fun h=>by subst h;rfl,fun h=>UInt8.toNat_inj.1 h⟩
 rw[e]
 rfl
theorem PD {c:UInt8} (h:c.toNat=45∨(97≤c.toNat∧c.toNat≤122)∨(48≤c.toNat∧c.toNat≤57)):((c==45)||oH c)=true:=by
 rw[Pz]
 simpa using h
theorem PE {c:UInt8} (h:¬(c.toNat=45∨(97≤c.toNat∧c.toNat≤122)∨(48≤c.toNat∧c.toNat≤57))):((c==45)||oH c)=false:=by
 rw[Pz,←Bool.not_eq_true]
 simpa using h
theorem TA {l:List UInt8} {p:UInt8→Bool} {i:Nat} (hi:i<l.length) (h:p (l.getD i 0)=false):l.all p=false:=by
 rw[List.all_eq_false]
 refine⟨l[i],List.getElem_mem _,?_⟩
 rw[List.getD_eq_getElem?_getD,List.getElem?_eq_getElem hi,Option.getD_some] at h
 rw[h];decide
set_option maxHeartbeats 1000000 in
theorem PG (s:ByteArray) (w:World) (l0:0<s.size) (wG:¬24<s.size):
  Calls Tryz.prog 96 #[.string s] w fun e w'=>e=.returned (.bool (dK s.data.toList))∧w'=w:=by
 have lm:s.size-1<s.size:=by omega
 have HL:=Hj (Pv (by omega) l0 lm)
 have q1:¬(s.size:Int)<1:=by omega
 have q2:¬(24:Int)<(s.size:Int):=by omega
 have k0:(0:Int)<(s.size:Int):=by omega
 have k1:(1:Int)≤(s.size:Int):=by omega
 have k2:(s.size:Int)≤24:=by omega
 have km:(s.size:Int)-1<(s.size:Int):=by omega
 have kt:((s.size:Int)-1).toNat=s.size-1:=by omega
 have HM:=Hj wG
 clear wG
 by_cases c0:(s[0].toNat:Int)=45
 ·have HA:Hid (dK s.data.toList=false):=Hj (by rw[HL.out,c0];rfl)
  go_enter Tryz.func96,Tryz.ntmps96
  go_wp2
  go_ret
  exact⟨aQ HA.out.symm,rfl⟩
 have c0':((s[0].toNat:Int)==45)=false:=beq_eq_false_iff_ne.2 c0
 by_cases c1:(s[s.size-1].toNat:Int)=45
 ·have HA:Hid (dK s.data.toList=false):=Hj (by rw[HL.out,c1,Bool.and_comm];rfl)
  go_enter Tryz.func96,Tryz.ntmps96
  go_wp2
  go_ret
  exact⟨aQ HA.out.symm,rfl⟩
 have c1':((s[s.size-1].toNat:Int)==45)=false:=beq_eq_false_iff_ne.2 c1
 have HA:Hid (dK s.data.toList=s.data.toList.all fun c=>(c==45)||oH c):=Hj (by rw[HL.out,c0',c1'];rfl)
 clear HL c0 c1
 go_enter Tryz.func96,Tryz.ntmps96
 go_wp2
 clear c0' c1' q1
 go_loopg [3] s.size (fun gk s3 wr=>∃i:Nat,s3=.int .i64 (i:Int)∧i+gk=s.size∧(∀j,j<i→((s.data.toList.getD j 0==45)||oH (s.data.toList.getD j 0))=true)∧wr=w)
 case atStart=>exact⟨0,rfl,by omega,fun j hj=>absurd hj (by omega),rfl⟩
 case round=>
  obtain⟨i,rfl,hik,hall,rfl⟩:=hrel
  have HI:=Hj hik
  have mW:=Hj hall
  clear hik hall
  by_cases hlt:i<s.size
  ·have HG:=Hj (vI hlt)
   have hsi:(i:Int)<(s.size:Int):=by omega
   have hi0:(0:Int)≤(i:Int):=by omega
   have HN:=Hj (fun(h:((s[i]==45)||oH s[i])=true) j (hj:j<i+1)=>show ((s.data.toList.getD j 0==45)||oH (s.data.toList.getD j 0))=true from (Nat.lt_or_ge j i).elim (mW.out j) fun hge=>by
    obtain rfl:j=i:=by omega
    rw[HG.out];exact h)
   have HF:=Hj (fun(h:((s[i]==45)||oH s[i])=false)=>show dK s.data.toList=false from HA.out.trans (TA (i:=i) (by rw[size_data];exact hlt) (by rw[HG.out];exact h)))
   clear mW HG
   by_cases c45:s[i].toNat=45
   ·have d45:((s[i].toNat:Int) !=45)=false:=by rw[c45];rfl
    go_wp2
    all_goals
     first
     | (go_roundg (gk-1)
        case measure=>have:=HI.out;omega
        case rel=>exact⟨i+1,by go_num,by have:=HI.out;omega,HN.out (PD (by omega)),rfl⟩)
     | (go_ret;exact⟨aQ (HF.out (PE (by omega))).symm,rfl⟩)
   ·have d45:((s[i].toNat:Int) !=45)=true:=by rw[bne_iff_ne];omega
    go_wp2
    all_goals
     first
     | (go_roundg (gk-1)
        case measure=>have:=HI.out;omega
        case rel=>exact⟨i+1,by go_num,by have:=HI.out;omega,HN.out (PD (by omega)),rfl⟩)
     | (go_ret;exact⟨aQ (HF.out (PE (by omega))).symm,rfl⟩)
  ·obtain rfl:i=s.size:=by have:=HI.out;omega
   go_wp2
   go_ret
   refine⟨aQ ?_,rfl⟩
   rw[HA.out]
   exact(IX fun j hj=>mW.out j (by rw[size_data] at hj;exact hj)).symm
theorem PI (s:ByteArray) (w:World):Calls Tryz.prog 96 #[.string s] w fun e w'=>e=.returned (.bool (dK s.data.toList))∧w'=w:=by
 by_cases h0:s.size=0
 ·have HL:Hid (dK s.data.toList=false):=Hj (by unfold dK;rw[size_data,h0];rfl)
  have q1:(s.size:Int)<1:=by omega
  clear h0
  go_enter Tryz.func96,Tryz.ntmps96
  go_wp2
  go_ret
  exact⟨aQ HL.out.symm,rfl⟩
 by_cases wG:24<s.size
 ·have HL:Hid (dK s.data.toList=false):=Hj (by unfold dK;rw[size_data,decide_eq_false (show ¬s.size≤24 by omega),Bool.false_and,Bool.and_false])
  have q1:¬(s.size:Int)<1:=by omega
  have q2:(24:Int)<(s.size:Int):=by omega
  clear h0 wG
  go_enter Tryz.func96,Tryz.ntmps96
  go_wp2
  go_ret
  exact⟨aQ HL.out.symm,rfl⟩
 exact PG s w (by omega) wG
theorem fK (kind:Int) (w:World):Calls Tryz.prog 73 #[.int .i64 kind] w fun e w'=>e=.returned (.bool (iH kind))∧w'=w:=by
 have HI:Hid (iH kind=((kind==5)||(kind==6))):=Hj rfl
 go_enter Tryz.func73,Tryz.ntmps73
 go_wp2
 ·rename_i h
  subst h
  go_ret
  exact⟨rfl,rfl⟩
 ·go_ret
  exact⟨aQ HI.out.symm,rfl⟩
theorem TB (s:ByteArray):(s.toList==[])=decide (s.size=0):=by
 have h:=size_data s
 rw[ByteArray.toList_eq]
 cases hl:s.data.toList with
 | nil=>rw[hl] at h;rw[←h];rfl
 | cons a b=>rw[hl] at h;rw[←h];rfl
set_option maxHeartbeats 1000000 in
theorem AZ (v:OV) (w:World):Calls Tryz.prog 49 #[.agg #[.int .i64 v.kind,.string v.space,.string v.name,.int .i64 v.ver,.slice v.A v.n v.c]] w fun e w'=>e=.returned (.bool (bU v.kind v.space v.name))∧Below w.heap.size w w':=by
 obtain⟨kd,sp,nm,ve,A,n,c⟩:=v
 simp only
 have HB:=Hj fun o=>(Below.refl w.heap.size w).alloc Kv o
 have H1:=Hj fun W=>PI nm W
 have H2:=Hj fun W=>PI sp W
 have HI:=Hj fun W=>fK kd W
 have hs:=TB sp
 have HD:Hid (bU kd sp nm=((if iH kd=true then dK sp.data.toList else decide (sp.size=0))&&(decide (1≤kd)&&(decide (kd≤7)&&dK nm.data.toList)))):=Hj rfl
 generalize dK nm.data.toList=bn at*
 generalize dK sp.data.toList=bs at*
 generalize iH kd=bi at*
 generalize decide (sp.size=0)=be at*
 generalize bU kd sp nm=R at*
 by_cases k1:kd<1
 ·have HR:Hid (R=false):=Hj (by rw[HD.out,decide_eq_false (show ¬1≤kd by omega),Bool.false_and,Bool.and_false])
  clear HD
  go_enter Tryz.func49,Tryz.ntmps49
  go_wp2
  go_ret
  exact⟨aQ HR.out.symm,HB.out _⟩
 by_cases k7:7<kd
 ·have HR:Hid (R=false):=Hj (by rw[HD.out,decide_eq_false (show ¬kd≤7 by omega),Bool.false_and,Bool.and_false,Bool.and_false])
  clear HD
  go_enter Tryz.func49,Tryz.ntmps49
  go_wp2
  go_ret
  exact⟨aQ HR.out.symm,HB.out _⟩
 replace HD:Hid (R=((if bi=true then bs else be)&&bn)):=Hj (by rw[HD.out,decide_eq_true (show 1≤kd by omega),decide_eq_true (show kd≤7 by omega)];rfl)
 cases bn<;>cases bi
 all_goals
  go_enter Tryz.func49,Tryz.ntmps49
  go_wp2_with (first
   | (go_at_call 96;(with_reducible refine(H1.out _).mono ?_);rintro e w1 ⟨rfl,rfl⟩)
   | (go_at_call 96;(with_reducible refine(H2.out _).mono ?_);rintro e w1 ⟨rfl,rfl⟩)
   | (go_at_call 73;(with_reducible refine(HI.out _).mono ?_);rintro e w1 ⟨rfl,rfl⟩)
   | fail)
  go_ret
  refine⟨aQ ?_,HB.out _⟩
  rw[HD.out]
  first | rfl | exact(Bool.and_false _).symm | exact(Bool.and_true _).symm
theorem TD (k:Nat) (hk:k<10) (w:World):Calls Tryz.prog 187 #[.int .i64 (k:Int)] w fun e w'=>e=.returned (.string (bF (iF (k:Int))))∧Below w.heap.size w w':=by
 obtain⟨c,hc⟩:∃c:UInt8,c=UInt8.ofNat (48+k):=⟨_,rfl⟩
 have hcn:(c.toNat:Int)=48+(k:Int):=by rw[hc,UInt8.toNat_ofNat'];omega
 have hS:Hid (bF (iF (k:Int))=⟨#[c]⟩):=Hj (by
  unfold iF
  rw[if_neg (by omega),Int.toNat_natCast,jS hk,hc]
  rfl)
 have k0:(0:Int)≤(k:Int):=by omega
 have k9:(k:Int)<10:=by omega
 have hcv:(convert 35 9 (.slice (some ⟨w.heap.size,0,none⟩) 1 1)).run Tryz.prog (w.alloc (.cells #[.int .u8 (48+(k:Int))] 5))=.ok (.string ⟨#[c]⟩) (w.alloc (.cells #[.int .u8 (48+(k:Int))] 5)):=by
  refine fU Tryz.underlying35 Tryz.underlying5 Tryz.underlying9 (l:=[c]) ⟨rfl,fun _=>⟨_,_,rfl,fun j hj=> ?_⟩⟩
  obtain rfl:j=0:=by omega
  rw[cell_of_row _ _ _ _ _ _ (heap_alloc_new w _),←hcn]
  rfl
 clear hc hcn hk
 go_enter Tryz.func187,Tryz.ntmps187
 go_wp2
 go_ret
 exact⟨by rw[hS.out];rfl,(Below.refl _ w).alloc Kv _⟩
set_option maxHeartbeats 1000000 in
theorem KeyR (v:OV) (k:Nat) (w:World) (hk:v.kind=(k:Int)) (hk9:k<10) (hs:v.space.size≤1000) (hn:v.name.size≤1000):
  Calls Tryz.prog 126 #[.agg #[.int .i64 v.kind,.string v.space,.string v.name,.int .i64 v.ver,.slice v.A v.n v.c]] w fun e w'=>e=.returned (.string (ji v.kind v.space v.name))∧Below w.heap.size w w':=by
 obtain⟨w1,hw1,B,hB,hb1,hr1⟩:=aX w v
 have HB1:=Hj hb1
 have dR:=Hj hr1
 have HW:=Hj (And.intro hw1 hB)
 obtain⟨vb0,vb1,xK,-,-⟩:=VB.aG hr1
 have KW:Hid (∀W,Below w1.heap.size w1 W→W.cell? ⟨B,0,none⟩=some (.int .i64 v.kind)∧W.cell? ⟨B,1,none⟩=some (.string v.space)∧W.cell? ⟨B,2,none⟩=some (.string v.name)):=Hj fun W hW=>by
  obtain⟨a,b,c,-,-⟩:=VB.aG ((hW.block B (Cq hr1)).trans hr1)
  exact⟨a,b,c⟩
 obtain⟨s1,hs1⟩:∃s,s=bF (iF v.kind):=⟨_,rfl⟩
 have HS:Hid (∀W,Calls Tryz.prog 187 #[.int .i64 v.kind] W fun e w'=>e=.returned (.string s1)∧Below W.heap.size W w'):=Hj fun W=>by rw[hs1,hk];exact TD k hk9 W
 have h1:s1.size≤100:=by rw[hs1,iY,hk];unfold iF;rw[if_neg (by omega),List.length_reverse];exact Cz (qM 1 _ (by rw[Int.toNat_natCast];omega)) (by decide)
 have Dz:=Hj hs1
 have z1:¬9223372036854775807<s1.size+1:=by omega
 have z2:¬9223372036854775807<s1.size+1+v.space.size:=by omega
 have z3:¬9223372036854775807<s1.size+1+v.space.size+1:=by omega
 have z4:¬9223372036854775807<s1.size+1+v.space.size+1+v.name.size:=by omega
 clear hw1 hB hb1 hr1 hk hs1 hs hn h1 hk9
 go_enter Tryz.func126,Tryz.ntmps126
 go_wp2
 rw[←HW.out.1,←HW.out.2]
 go_region_held3 (fun w'=>w'.cell? ⟨B,0,none⟩=some (.int .i64 v.kind)∧w'.cell? ⟨B,1,none⟩=some (.string v.space)∧w'.cell? ⟨B,2,none⟩=some (.string v.name)) (first | exact⟨by assumption,by assumption,by assumption⟩ | go_keep)
  (first
   | (go_at_call 187;((with_reducible refine(HS.out w1.drew).mono ?_);rintro e w5 ⟨rfl,hb5⟩;have B5:Hid (Below w1.heap.size w1 w5):=Hj (Below.cu hb5);obtain⟨y0,y1,y2⟩:=KW.out w5 B5.out;clear hb5))
   | fail)
 all_goals
  go_wp2
  go_ret
  refine⟨congrArg (fun s=>Ending.returned (.string s)) ?_,HB1.out.trans (B5.out.mono HB1.out.size)⟩
  rw[Dz.out]
  exact ByteArray.ext (by simp[bF,ji,dZ])
end Go.Proofs.YtdhbpajamlfacaaGreatDoor
