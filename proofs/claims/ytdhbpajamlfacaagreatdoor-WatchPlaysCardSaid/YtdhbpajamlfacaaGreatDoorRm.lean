/- The document's writer (layer 8) by its lengths: an element's end, Done; a change's text. -/
import Derived.Test.YtdhbpajamlfacaaGreatDoorRy
import Derived.Test.YtdhbpajamlfacaaGreatDoorLd
import Derived.Test.YtdhbpajamlfacaaGreatDoorNam
set_option maxHeartbeats 4000000
set_option maxRecDepth 100000
namespace Go.Proofs.YtdhbpajamlfacaaGreatDoor
open Go.RowKit
section
variable {w w':World} {B g k:Nat} {n0 n1:List Nat}
theorem gB {n:Nat} (h:n<4611686018427387904):fK n≤9:=by have:=jE h;rwa [l9] at this
theorem SI (ls:List Nat) (j:Nat) (h:j<ls.length):(ls.take (j+1)).sum=(ls.take j).sum+ls.getD j 0:=by
 rw[mO h,List.sum_append]
 simp[List.getD_eq_getElem?_getD,h]
theorem GV (ls:List Nat) (j:Nat):(ls.take j).sum≤ls.sum:=by
 have h:=bJ List.sum (rE j ls)
 rw[List.sum_append] at h
 omega
/-- The cells of a row. -/
theorem nM.get {A:Option Addr} {c:Nat} {ns:List Nat} (h:nM w B (.slice A ns.length c) ns) (h0:0<ns.length):∃b o,A=some ⟨b,o,none⟩∧∀j,j<ns.length→∃A c,w.cell? ⟨b,o+j,none⟩=some (.slice A (ns.getD j 0) c)∧LR w (.slice A (ns.getD j 0) c) (ns.getD j 0):=by
 obtain⟨ws,h1,h2,h3⟩:=h
 have hl:ws.length=ns.length:=by have:=h1.1;simpa using this
 obtain⟨b,o,_,e,_,_,hc⟩:=h1.cells (by rw[aX];omega)
 injection e with e _ _
 refine⟨b,o,e,fun j hj=> ?_⟩
 obtain⟨x,hx⟩:∃x,ws[j]?=some x:=⟨_,fJ (by omega)⟩
 obtain⟨A,c,l,e,-,-,hr⟩:=(h3 x (gJ hx)).form
 have e2:ns.getD j 0=x.1:=by rw[←h2,nG,dK,hx];rfl
 exact⟨A,c,by rw[hc j x.2 (by rw[dK,hx];rfl),e,e2],by rw[e2];exact LR.of hr⟩
theorem GY (h:rV w B g 1 n0 n1) (hl:n0.length≤100∧n1.length≤100) (hs:n1.sum≤65530):
  Cl 195 #[pt g,.agg #[.int .i64 2,.int .i64 0,.bool false,.slice none 0 0,.string ⟨#[]⟩]] w fun e w'=>e=.returned (.tuple #[])∧rV w' B g 0 (n0++[dF n1.sum]) n1∧Below B w w':=by
 have hB:=h.up
 obtain⟨At,ct,Ar,cr,r0,r1,h⟩:=h
 have hT:ah w B 3 1 (.slice At 1 ct) 1 [.int .i64 48]:=(h.tags.resolve_left (by decide)).2
 obtain⟨bt,ot,_,e,hbt,hbtl,htc⟩:=hT.cells (by simp)
 cases e
 obtain⟨br,or_,_,e,hbr,Zq,hrc⟩:=h.rows.cells (by simp)
 cases e
 obtain⟨A1,c1,e⟩:=h.Oe.form
 subst e
 have hcap:(0:Int)≤(ct:Int):=by omega
 have KW:Hid (∀W,Bw w W→W.cell? ⟨g,0,none⟩=some (.slice (some ⟨bt,ot,none⟩) 1 ct)∧W.cell? ⟨g,1,none⟩=some (.slice (some ⟨br,or_,none⟩) 2 cr)∧W.cell? ⟨g,2,none⟩=some (.int .i64 0)∧W.cell? ⟨br,or_+1,none⟩=some (.slice A1 n1.length c1)∧W.cell? ⟨bt,ot,none⟩=some (.int .i64 48)∧W.frozen? ⟨g,0,none⟩=false):=Hj fun W hW=>
  ⟨Kq 0 (h.below hW).cells,Kq 1 (h.below hW).cells,Kq 2 (h.below hW).cells,Kz hW _ _ (hrc 1 _ rfl),Kz hW _ _ (htc 0 _ rfl),Kj (h.below hW).cells⟩
 have HP:Hid (∀W,Bw w W→(∀A n c,LB W B (.slice A n c) n→LR (W.setCell ⟨g,0,none⟩ (.slice (some ⟨bt,ot,none⟩) 0 ct)) (.slice A n c) n)∧rV (W.setCell ⟨g,0,none⟩ (.slice (some ⟨bt,ot,none⟩) 0 ct)) B g 0 n0 n1∧Below B w (W.setCell ⟨g,0,none⟩ (.slice (some ⟨bt,ot,none⟩) 0 ct))):=Hj fun W hW=>by
  have h7:=h.below hW
  have hF:=(Fr.refl (fun q=>q=g) W).setCell (p:=⟨g,0,none⟩) (fun _=>rfl) (.slice (some ⟨bt,ot,none⟩) 0 ct)
  refine⟨fun A n c h=>(h.kept h7.cells (by decide) hF).lr,⟨_,ct,_,cr,r0,_,⟨aI _ g 0 _ _ _ h7.cells,.inl rfl,ah.kept h7.rows hF fun k hk e=> ?_,h7.row0.kept h7.cells (by decide) (by decide) hF,h7.Oe.kept h7.cells (by decide) (by decide) hF,h.own⟩⟩,(hW.mono hB).trans (hF.below (B:=B) (Cz hB hW.size) fun q _ e=>by subst e;exact h.own)⟩
  subst e
  obtain⟨cur,hc⟩:=au h7.rows hk
  exact absurd (ak hc h7.cells) (by decide)
 have HG:Hid (0<n1.length→∃b o,A1=some ⟨b,o,none⟩∧∀j,j<n1.length→∃A c,w.cell? ⟨b,o+j,none⟩=some (.slice A (n1.getD j 0) c)∧LR w (.slice A (n1.getD j 0) c) (n1.getD j 0)):=Hj fun h0=>h.Oe.get h0
 have HS:=Hj (SI n1)
 have HSl:=Hj (GV n1)
 have HSu:=Hj hs
 have HF:Hid ((n1.take n1.length).sum=n1.sum):=Hj (by rw[List.take_length])
 have uO:=Hj fun W (hW:rV W B g 0 n0 n1) A c hx=>XM hW 48 (by decide) (by decide) A n1.sum c hx hs hl
 have HB:=Hj hB
 have HL1:Hid (n1.length≤100):=Hj hl.2
 clear h hT htc hrc hB hs hl hbt hbtl hbr Zq
 generalize dF n1.sum=E at*
 obtain⟨sj,hsj⟩:∃sj:Nat→Nat,sj=fun j=>(n1.take j).sum:=⟨_,rfl⟩
 have H0:Hid (sj 0=0):=Hj (by rw[hsj];rfl)
 replace HS:Hid (∀j,j<n1.length→sj (j+1)=sj j+n1.getD j 0):=Hj (by rw[hsj];exact HS.out)
 replace HSl:Hid (∀j,sj j≤n1.sum):=Hj (by rw[hsj];exact HSl.out)
 replace HF:Hid (sj n1.length=n1.sum):=Hj (by rw[hsj];exact HF.out)
 clear hsj
 have K2:=fun o=>(KW.out (w.alloc o) ((aj _ w).alloc Kv o)).2.2.1
 have K0:=fun o=>(KW.out (w.alloc o) ((aj _ w).alloc Kv o)).1
 have K1:=fun o=>(KW.out (w.alloc o) ((aj _ w).alloc Kv o)).2.1
 have K3:=fun o=>(KW.out (w.alloc o) ((aj _ w).alloc Kv o)).2.2.2.1
 have K4:=fun o=>(KW.out (w.alloc o) ((aj _ w).alloc Kv o)).2.2.2.2.1
 go_enter Tryz.func195,Tryz.ntmps195
 go_wp2
 obtain⟨wq,hwq⟩:∃W,W=((w.alloc (.cells #[.int .i64 2,.int .i64 0,.bool false,.slice none 0 0,.string ⟨#[]⟩] 200)).alloc (.cells #[] 5)):=⟨_,rfl⟩
 have HQ:Hid (LB wq w.heap.size (.slice (some ⟨w.heap.size+1,0,none⟩) 0 0) 0∧Bw w wq):=Hj (by
  rw[hwq]
  refine⟨?_,((aj _ w).alloc Kv _).alloc (by simp) _⟩
  simpa using LB.empty (B:=w.heap.size) (w.alloc (.cells #[.int .i64 2,.int .i64 0,.bool false,.slice none 0 0,.string ⟨#[]⟩] 200)) (by simp))
 rw[←hwq]
 clear hwq K0 K1 K2 K3 K4
 go_loopg [6,133] n1.length (fun k s6 s133 wr=>∃A c j,j+k=n1.length∧s133=.int .i64 (j:Int)∧s6=.slice A (sj j) c∧LB wr w.heap.size (.slice A (sj j) c) (sj j)∧Bw w wr)
 case atStart=>exact⟨_,_,0,by omega,rfl,by rw[H0.out],by rw[H0.out];exact HQ.out.1,HQ.out.2⟩
 case round=>
  obtain⟨A,c,j,hj,rfl,rfl,hown,hbel⟩:=hrel
  have HJ:=Hj hj
  have dS:=Hj hown
  have dN:=Hj hbel
  clear hown hbel
  by_cases hlt:j<n1.length
  ·obtain ⟨b,o,rfl,hc⟩:=HG.out (by omega)
   obtain⟨A',c',c1',hr⟩:=hc j hlt
   have d1:=Kz dN.out _ _ c1'
   have HR:=Hj (hr.below dN.out)
   have HE:=Hj (HS.out j hlt)
   have HLE:=Hj (HSl.out (j+1))
   have k0:(0:Int)≤(j:Int):=by omega
   have k1:(j:Int)<(n1.length:Int):=by omega
   have k2:(j:Int)≤100:=by have:=HL1.out;omega
   have IX:=Hj hlt
   clear hc hr c1' hlt hj
   generalize n1.getD j 0=t at*
   go_wp2_with (first
    | (at_builtin;(refine lG rfl (.tmp 137) (.tmp 138) rfl (sj (j+1)) dN.out dN.out.size dS.out rfl HR.out rfl HE.out.symm (by have:=HLE.out;have:=HSu.out;omega) ?_;intro A2 c2 w2 ho2 hb2;have O2:=Hj ho2;have B2:=Hj hb2;clear ho2 hb2))
    | fail)
   go_roundg (gk-1)
   case measure=>have:=HJ.out;have:=IX.out;omega
   case rel=>exact⟨A2,c2,j+1,by have:=HJ.out;have:=IX.out;omega,by go_num,rfl,O2.out,B2.out⟩
  ·obtain rfl:j=n1.length:=by omega
   have k1:decide ((n1.length:Int)<(n1.length:Int))=false:=aQ (by omega)
   obtain⟨y0,y1,y2,y3,y4,yf⟩:=KW.out wr dN.out
   obtain⟨hp1,hp2,hp3⟩:=HP.out wr dN.out
   rw[HF.out] at dS
   have HLR:=Hj (hp1 _ _ _ (dS.out.mono HB.out))
   have HW:=Hj hp2
   have HW3:=Hj hp3
   clear hlt hj hp1 hp2 hp3
   rw[HF.out]
   go_wp2_with (first
    | (go_at_call 229;((refine(uO.out _ HW.out A c HLR.out).mono ?_);rintro e w2 ⟨rfl,z1,z2⟩;have Z1:=Hj z1;have Z2:=Hj z2;clear z1 z2))
    | fail)
   exact bodyPost_end (fM rfl _ _ _) rfl ⟨rfl,Z1.out,HW3.out.trans Z2.out⟩
theorem vI (h:rV w B g 1 n0 n1) (kind tag:Int) (hk:kind=3∧tag=2∨kind=4∧tag=10) (n:Nat) (hn:n<4611686018427387904) (hl:n0.length≤100∧n1.length≤100):
  Cl 195 #[pt g,.agg #[.int .i64 kind,.int .i64 (n:Int),.bool false,.slice none 0 0,.string ⟨#[]⟩]] w fun e w'=>e=.returned (.tuple #[])∧rV w' B g 1 n0 (n1++[dF (fK n)])∧Below B w w':=
 SG h kind n tag none 0 0 (fK n) (by omega) (by omega) (by omega) (fun W _=>SC kind tag hk n hn W) (Cz (gB hn) (by decide)) hl
theorem JF (h:rV w B g 1 n0 n1) (A:Option Addr) (n c:Nat) (hb:LR w (.slice A n c) n) (hn:n≤65530) (hl:n0.length≤100∧n1.length≤100):
  Cl 195 #[pt g,.agg #[.int .i64 6,.int .i64 0,.bool false,.slice A n c,.string ⟨#[]⟩]] w fun e w'=>e=.returned (.tuple #[])∧rV w' B g 1 n0 (n1++[dF n])∧Below B w w':=
 SG h 6 0 4 A n c n (by decide) (by decide) (by decide) (fun W hW=>(SE A n c W).mono fun e w' ⟨h1,h2⟩=>⟨A,c,h1,(hb.below hW).below h2,h2⟩) hn hl
theorem SK (h:rV w B g 0 [k] n1) (hk:k≤65536):
  Cl 196 #[pt g] w fun e w'=>∃A c,e=.returned (.tuple #[.slice A k c,.int .i64 0])∧LB w' w.heap.size (.slice A k c) k∧Bw w w':=by
 obtain⟨At,ct,Ar,cr,r0,r1,h⟩:=h
 obtain⟨br,or_,_,e,hbr,Zq,hrc⟩:=h.rows.cells (by simp)
 cases e
 obtain⟨A0,c0,e⟩:=h.row0.form
 subst e
 obtain⟨b,o,rfl,hc⟩:=h.row0.get (by simp)
 obtain⟨A1,c1,x1,hr⟩:=hc 0 (by simp)
 have KW:Hid (∀W,Bw w W→W.cell? ⟨g,0,none⟩=some (.slice At 0 ct)∧W.cell? ⟨g,1,none⟩=some (.slice (some ⟨br,or_,none⟩) 2 cr)∧W.cell? ⟨g,2,none⟩=some (.int .i64 0)∧W.cell? ⟨br,or_,none⟩=some (.slice (some ⟨b,o,none⟩) 1 c0)∧W.cell? ⟨b,o,none⟩=some (.slice A1 k c1)):=Hj fun W hW=>
  ⟨Kq 0 (h.below hW).cells,Kq 1 (h.below hW).cells,Kq 2 (h.below hW).cells,Kz hW _ _ (hrc 0 _ rfl),Kz hW _ _ x1⟩
 have HR:Hid (LR w (.slice A1 k c1) k):=Hj hr
 have HK:=Hj hk
 obtain⟨y0,y1,y2,y3,y4⟩:=KW.out w (aj _ _)
 have z1:=fun o'=>(KW.out (w.alloc o') ((aj _ w).alloc Kv o')).2.1
 have z3:=fun o'=>(KW.out (w.alloc o') ((aj _ w).alloc Kv o')).2.2.2.1
 have z4:=fun o'=>(KW.out (w.alloc o') ((aj _ w).alloc Kv o')).2.2.2.2
 have hk0:¬(65536:Int)<(k:Int):=by omega
 clear h hrc hc x1 hr hk hbr Zq
 go_enter Tryz.func196,Tryz.ntmps196
 go_wp2
 have HQ:Hid (LB (w.alloc (.cells #[] 5)) w.heap.size (.slice (some ⟨w.heap.size,0,none⟩) 0 0) 0∧Bw w (w.alloc (.cells #[] 5))):=Hj ⟨LB.empty w Kv,(aj _ w).alloc Kv _⟩
 clear y0 y1 y2 y3 y4 z1 z3 z4
 go_loopg [4,36] 1 (fun kk s4 s36 wr=>∃(A:Option Addr) (c j m:Nat),(j=0∧m=0∧kk=1∨j=1∧m=k∧kk=0)∧s36=.int .i64 (j:Int)∧s4=.slice A m c∧LB wr w.heap.size (.slice A m c) m∧Bw w wr)
 case atStart=>exact⟨_,_,0,0,.inl ⟨rfl,rfl,rfl⟩,rfl,rfl,HQ.out.1,HQ.out.2⟩
 case round=>
  obtain⟨A,c,j,m,hj,rfl,rfl,hown,hbel⟩:=hrel
  have dS:=Hj hown
  have dN:=Hj hbel
  clear hown hbel
  rcases hj with ⟨rfl,rfl,e⟩ | ⟨rfl,rfl,e⟩
  ·have x1:=(KW.out wr dN.out).2.2.2.2
   have HG:=Hj e
   clear e
   go_wp2_with (first
    | (at_builtin;(refine lG rfl (.tmp 40) (.tmp 41) rfl k dN.out dN.out.size dS.out rfl (HR.out.below dN.out) rfl (dV _) (by have:=HK.out;omega) ?_;intro A2 c2 w2 ho2 hb2;have O2:=Hj ho2;have B2:=Hj hb2;clear ho2 hb2))
    | fail)
   go_roundg (gk-1)
   case measure=>have:=HG.out;omega
   case rel=>exact⟨A2,c2,1,k,.inr ⟨rfl,rfl,by have:=HG.out;omega⟩,rfl,rfl,O2.out,B2.out⟩
  ·clear e
   go_wp2
   exact bg (eG rfl _ _ _) rfl ⟨A,c,rfl,dS.out,dN.out⟩
end
def rQ (what kind rev sp nm dl:Nat):Nat:=dF (dF (fK what)+dF (fK kind)+dF sp+dF nm+dF (fK rev)+dF dl)
theorem GZ {what kind rev sp nm dl:Nat} (h:fK what≤9∧fK kind≤9∧fK rev≤9) (h4:sp≤200) (h5:nm≤200) (h6:dl≤10000):rQ what kind rev sp nm dl≤65536:=by
 unfold rQ
 have a1:=jL (fK what)
 have a2:=jL (fK kind)
 have a3:=jL (fK rev)
 have a4:=jL sp
 have a5:=jL nm
 have a6:=jL dl
 have a7:=jL (dF (fK what)+dF (fK kind)+dF sp+dF nm+dF (fK rev)+dF dl)
 omega
theorem evB_n {what kind rev:Nat} {space name data:List UInt8} (h1:what<4611686018427387904) (h2:kind<4611686018427387904) (h3:rev<4611686018427387904) (h4:space.length≤200) (h5:name.length≤200) (h6:data.length≤10000):(E5 what kind rev space name data).length=rQ what kind rev space.length name.length data.length:=by
 have hk:=xP h1 h2 h3 h4 h5 h6
 unfold E5 rQ
 rw[lK 48 (by omega)]
 congr 1
 have i1:=gB h1
 have i2:=gB h2
 have i3:=gB h3
 simp only[U1,List.flatten_cons,List.flatten_nil,List.length_append,List.length_nil]
 rw[lK 10 (by rw[l9];omega),lK 10 (by rw[l9];omega),lK 4 (by omega),lK 4 (by omega),lK 2 (by rw[l9];omega),lK 4 (by omega),l9,l9,l9]
 omega
theorem Rf (what kind rev:Nat) (v:SO.OV) (w:World) (hw:what=1∨what=2∧v.n=0) (hk:v.kind=(kind:Int)) (hkl:kind<1000000) (hr:rev<4611686018427387904) (hs:v.space.size≤200) (hn:v.name.size≤200) (hd:v.n≤10000) (hb:LR w (.slice v.A v.n v.c) v.n):
  Cl 132 #[.int .i64 (what:Int),.agg #[.int .i64 v.kind,.string v.space,.string v.name,.int .i64 v.ver,.slice v.A v.n v.c],.int .i64 (rev:Int)] w fun e w'=>∃A c,e=.returned (.slice A (rQ what kind rev v.space.size v.name.size v.n) c)∧LB w' w.heap.size (.slice A (rQ what kind rev v.space.size v.name.size v.n) c) (rQ what kind rev v.space.size v.name.size v.n)∧Bw w w':=by
 obtain⟨kd,sp,nm,ve,A,n,c⟩:=v
 simp only at hw hk hs hn hd hb ⊢
 subst hk
 obtain⟨wb,q,hwb,hq,hbb,hrow⟩:∃(wb:World) (q:Nat),wb=w.alloc (.cells #[.int .i64 (kind:Int),.string sp,.string nm,.int .i64 ve,.slice A n c] 37)∧q=w.heap.size∧Bw w wb∧wb.heap[q]?=some (.cells #[.int .i64 (kind:Int),.string sp,.string nm,.int .i64 ve,.slice A n c] 37 (0,0)):=⟨_,_,rfl,rfl,(aj _ w).alloc Kv _,aA w _⟩
 obtain⟨w2,g,hw2,hg,hb2,hrow2⟩:∃(w2:World) (g:Nat),w2=wb.alloc (.cells #[.slice none 0 0,.slice none 0 0,.int .i64 0] 271)∧g=wb.heap.size∧Bw wb w2∧w2.heap[g]?=some (.cells #[.slice none 0 0,.slice none 0 0,.int .i64 0] 271 (0,0)):=⟨_,_,rfl,rfl,(aj _ wb).alloc Kv _,aA wb _⟩
 have hgq:g=w.heap.size+1:=by rw[hg,hwb];simp
 have HK:Hid (∀W,Bw wb W→W.cell? ⟨q,0,none⟩=some (.int .i64 (kind:Int))∧W.cell? ⟨q,1,none⟩=some (.string sp)∧W.cell? ⟨q,2,none⟩=some (.string nm)∧W.cell? ⟨q,4,none⟩=some (.slice A n c)):=
  Hj fun W hW=>⟨Kz hW _ _ (Kq 0 hrow),Kz hW _ _ (Kq 1 hrow),Kz hW _ _ (Kq 2 hrow),Kz hW _ _ (Kq 4 hrow)⟩
 have hcs:∀(s:ByteArray) W,(convert 9 35 (.string s)).run Tryz.prog W=.ok (.slice (some ⟨W.heap.size,0,none⟩) s.size (grownCap W s.size 0 5)) (Lib.bytesWorld W 5 s):=fun s W=>Lib.run_convert_string_bytes W _ _ _ s Tryz.underlying9 Tryz.underlying35 Tryz.underlying5
 have HOp:=Hj (VU w2 wb.heap.size g (by omega) hrow2)
 have HB:Hid (∀W,Bw w W→LR W (.slice A n c) n):=Hj fun W hW=>hb.below hW
 have Uy:=Hj (aB hbb (hbb.trans (hb2.mono hbb.size)))
 have HB2:=Hj hb2
 have HN:=Hj (aB hkl (aB hr (aB hs (aB hn hd))))
 have Lr:Hid (∀W (s:ByteArray) n1,s.size≤200→n1.length≤100→rV W wb.heap.size g 1 [] n1→Cl 195 #[pt g,.agg #[.int .i64 6,.int .i64 0,.bool false,.slice (some ⟨W.heap.size,0,none⟩) s.size (grownCap W s.size 0 5),.string ⟨#[]⟩]] (Lib.bytesWorld W 5 s) fun e w'=>e=.returned (.tuple #[])∧rV w' wb.heap.size g 1 [] (n1++[dF s.size])∧Below wb.heap.size W w'):=Hj fun W s n1 h1 h2 h3=>by
  have hbw:=oL W 5 s
  exact(JF (h3.below hbw) _ _ _ (LR.of (uZ W _ s)) (by omega) ⟨by simp,h2⟩).mono fun e w' ⟨e1,e2,e3⟩=>⟨e1,e2,(hbw.mono h3.up).trans e3⟩
 have HT:Hid (∀a b c d e f:Nat,dF ([]++[a]++[b]++[c]++[d]++[e]++[f]).sum=dF (a+b+c+d+e+f)):=Hj fun a b c d e f=>by simp;congr 1;omega
 have HL:Hid (∀a,a≤10000→dF a≤10004):=Hj fun a h=>by have:=jL a;omega
 have HTW:Hid (fK what≤9∧fK kind≤9∧fK rev≤9):=Hj ⟨gB (by omega),gB (by omega),gB hr⟩
 have HI:=Hj (aB (gB (n:=kind) (by omega)) (gB hr))
 have HE:=Hj (aB hwb (aB hw2 (aB hgq hq)))
 rcases hw with rfl | ⟨rfl,rfl⟩
 ·clear hb hr hs hn hd hkl hrow hrow2 hbb hb2 hwb hw2 hgq hq hg
  have HI1:Hid (∀W,rV W wb.heap.size g 1 [] []→Cl 195 #[pt g,.agg #[.int .i64 4,.int .i64 1,.bool false,.slice none 0 0,.string ⟨#[]⟩]] W fun e w'=>e=.returned (.tuple #[])∧rV w' wb.heap.size g 1 [] ([]++[dF (fK 1)])∧Below wb.heap.size W w'):=Hj fun W h=>vI h 4 10 (.inr ⟨rfl,rfl⟩) 1 (by decide) ⟨by simp,by simp⟩
  go_enter Tryz.func132,Tryz.ntmps132
  go_wp2_with (first
   | (go_at_call 195;(rw[←HE.out.1,←HE.out.2.1,←HE.out.2.2.1,←HE.out.2.2.2];(with_reducible refine HOp.out.mono ?_);rintro e w3 ⟨rfl,hz,hb⟩;have R3:=Hj hz;have B3:=Hj (HB2.out.trans hb);obtain⟨x30,x31,x32,x34⟩:=HK.out w3 B3.out;clear hz hb))
   | (go_at_call 195;((with_reducible refine(HI1.out w3 R3.out).mono ?_);rintro e w4 ⟨rfl,hz,hb⟩;have R4:=Hj hz;have B4:=Hj (B3.out.trans hb);obtain⟨x40,x41,x42,x44⟩:=HK.out w4 B4.out;clear hz hb))
   | (go_at_call 195;((with_reducible refine(vI R4.out 4 10 (.inr ⟨rfl,rfl⟩) kind (by have:=HN.out;omega) ⟨by simp,by simp⟩).mono ?_);rintro e w5 ⟨rfl,hz,hb⟩;have R5:=Hj hz;have B5:=Hj (B4.out.trans hb);obtain⟨x50,x51,x52,x54⟩:=HK.out w5 B5.out;clear hz hb))
   | (go_at_call 195;((with_reducible refine(Lr.out w5 sp _ HN.out.2.2.1 (by simp) R5.out).mono ?_);rintro e w6 ⟨rfl,hz,hb⟩;have R6:=Hj hz;have B6:=Hj (B5.out.trans hb);obtain⟨x60,x61,x62,x64⟩:=HK.out w6 B6.out;clear hz hb))
   | (go_at_call 195;((with_reducible refine(Lr.out w6 nm _ HN.out.2.2.2.1 (by simp) R6.out).mono ?_);rintro e w7 ⟨rfl,hz,hb⟩;have R7:=Hj hz;have B7:=Hj (B6.out.trans hb);obtain⟨x70,x71,x72,x74⟩:=HK.out w7 B7.out;clear hz hb))
   | (go_at_call 195;((with_reducible refine(vI R7.out 3 2 (.inl ⟨rfl,rfl⟩) rev HN.out.2.1 ⟨by simp,by simp⟩).mono ?_);rintro e w8 ⟨rfl,hz,hb⟩;have R8:=Hj hz;have B8:=Hj (B7.out.trans hb);obtain⟨x80,x81,x82,x84⟩:=HK.out w8 B8.out;clear hz hb))
   | (go_at_call 195;((with_reducible refine(JF R8.out A n c (HB.out _ (Uy.out.1.trans (B8.out.mono Uy.out.1.size))) (by have:=HN.out;omega) ⟨by simp,by simp⟩).mono ?_);rintro e w9 ⟨rfl,hz,hb⟩;have R9:=Hj hz;have B9:=Hj (B8.out.trans hb);clear hz hb))
   | (go_at_call 195;((with_reducible refine(GY R9.out ⟨by simp,by simp⟩ (by have h1:=HL.out (fK 1) (Cz (gB (by decide)) (by decide));have h2:=HL.out (fK kind) (by have:=HI.out;omega);have h3:=HL.out sp.size (by have:=HN.out;omega);have h4:=HL.out nm.size (by have:=HN.out;omega);have h5:=HL.out (fK rev) (by have:=HI.out;omega);have h6:=HL.out n (by have:=HN.out;omega);simp;omega)).mono ?_);rintro e w10 ⟨rfl,hz,hb⟩;rw[HT.out] at hz;have R10:=Hj (show rV w10 wb.heap.size g 0 [rQ 1 kind rev sp.size nm.size n] _ from hz);have B10:=Hj (B9.out.trans hb);clear hz hb))
   | (go_at_call 196;((refine(SK R10.out (GZ HTW.out (by have:=HN.out;omega) (by have:=HN.out;omega) (by have:=HN.out;omega))).mono ?_);rintro e Xr ⟨YH,c11,rfl,yH,yI⟩;have YJ:=Hj yH;have B11:=Hj yI;clear yH yI))
   | fail)
  go_ret
  exact⟨YH,c11,rfl,YJ.out.mono (Cz Uy.out.1.size R10.out.up),Uy.out.1.trans ((B10.out.trans (B11.out.mono R10.out.up)).mono Uy.out.1.size)⟩
 ·clear hb hr hs hn hd hkl hrow hrow2 hbb hb2 hwb hw2 hgq hq hg
  have HI1:Hid (∀W,rV W wb.heap.size g 1 [] []→Cl 195 #[pt g,.agg #[.int .i64 4,.int .i64 2,.bool false,.slice none 0 0,.string ⟨#[]⟩]] W fun e w'=>e=.returned (.tuple #[])∧rV w' wb.heap.size g 1 [] ([]++[dF (fK 2)])∧Below wb.heap.size W w'):=Hj fun W h=>vI h 4 10 (.inr ⟨rfl,rfl⟩) 2 (by decide) ⟨by simp,by simp⟩
  go_enter Tryz.func132,Tryz.ntmps132
  go_wp2_with (first
   | (go_at_call 195;(rw[←HE.out.1,←HE.out.2.1,←HE.out.2.2.1,←HE.out.2.2.2];(with_reducible refine HOp.out.mono ?_);rintro e w3 ⟨rfl,hz,hb⟩;have R3:=Hj hz;have B3:=Hj (HB2.out.trans hb);obtain⟨x30,x31,x32,x34⟩:=HK.out w3 B3.out;clear hz hb))
   | (go_at_call 195;((with_reducible refine(HI1.out w3 R3.out).mono ?_);rintro e w4 ⟨rfl,hz,hb⟩;have R4:=Hj hz;have B4:=Hj (B3.out.trans hb);obtain⟨x40,x41,x42,x44⟩:=HK.out w4 B4.out;clear hz hb))
   | (go_at_call 195;((with_reducible refine(vI R4.out 4 10 (.inr ⟨rfl,rfl⟩) kind (by have:=HN.out;omega) ⟨by simp,by simp⟩).mono ?_);rintro e w5 ⟨rfl,hz,hb⟩;have R5:=Hj hz;have B5:=Hj (B4.out.trans hb);obtain⟨x50,x51,x52,x54⟩:=HK.out w5 B5.out;clear hz hb))
   | (go_at_call 195;((with_reducible refine(Lr.out w5 sp _ HN.out.2.2.1 (by simp) R5.out).mono ?_);rintro e w6 ⟨rfl,hz,hb⟩;have R6:=Hj hz;have B6:=Hj (B5.out.trans hb);obtain⟨x60,x61,x62,x64⟩:=HK.out w6 B6.out;clear hz hb))
   | (go_at_call 195;((with_reducible refine(Lr.out w6 nm _ HN.out.2.2.2.1 (by simp) R6.out).mono ?_);rintro e w7 ⟨rfl,hz,hb⟩;have R7:=Hj hz;have B7:=Hj (B6.out.trans hb);obtain⟨x70,x71,x72,x74⟩:=HK.out w7 B7.out;clear hz hb))
   | (go_at_call 195;((with_reducible refine(vI R7.out 3 2 (.inl ⟨rfl,rfl⟩) rev HN.out.2.1 ⟨by simp,by simp⟩).mono ?_);rintro e w8 ⟨rfl,hz,hb⟩;have R8:=Hj hz;have B8:=Hj (B7.out.trans hb);obtain⟨x80,x81,x82,x84⟩:=HK.out w8 B8.out;clear hz hb))
   | (go_at_call 195;((with_reducible refine(JF R8.out none 0 0 (LR.of (RB.nil _ none)) (by have:=HN.out;omega) ⟨by simp,by simp⟩).mono ?_);rintro e w9 ⟨rfl,hz,hb⟩;have R9:=Hj hz;have B9:=Hj (B8.out.trans hb);clear hz hb))
   | (go_at_call 195;((with_reducible refine(GY R9.out ⟨by simp,by simp⟩ (by have h1:=HL.out (fK 2) (Cz (gB (by decide)) (by decide));have h2:=HL.out (fK kind) (by have:=HI.out;omega);have h3:=HL.out sp.size (by have:=HN.out;omega);have h4:=HL.out nm.size (by have:=HN.out;omega);have h5:=HL.out (fK rev) (by have:=HI.out;omega);have h6:=HL.out 0 (by have:=HN.out;omega);simp;omega)).mono ?_);rintro e w10 ⟨rfl,hz,hb⟩;rw[HT.out] at hz;have R10:=Hj (show rV w10 wb.heap.size g 0 [rQ 2 kind rev sp.size nm.size 0] _ from hz);have B10:=Hj (B9.out.trans hb);clear hz hb))
   | (go_at_call 196;((refine(SK R10.out (GZ HTW.out (by have:=HN.out;omega) (by have:=HN.out;omega) (by have:=HN.out;omega))).mono ?_);rintro e Xr ⟨YH,c11,rfl,yH,yI⟩;have YJ:=Hj yH;have B11:=Hj yI;clear yH yI))
   | fail)
  go_ret
  exact⟨YH,c11,rfl,YJ.out.mono (Cz Uy.out.1.size R10.out.up),Uy.out.1.trans ((B10.out.trans (B11.out.mono R10.out.up)).mono Uy.out.1.size)⟩
open SO
theorem Rn {s:ByteArray} (yM:s.size≤24) (l0:0<s.size) (lm:s.size-1<s.size):
  eF s.data.toList=(!((s[0].toNat:Int)==45)&&(!((s[s.size-1].toNat:Int)==45)&&s.data.toList.all fun c=>(c==45)||qZ c)):=by
 have e:∀c:UInt8,((c.toNat:Int)==45)=(c==45):=fun c=>by
  rw[Bool.eq_iff_iff,beq_iff_eq,beq_iff_eq]
  exact⟨fun h=>UInt8.toNat_inj.1 (by show c.toNat=45;omega),fun h=>by subst h;rfl⟩
 rw[e,e,←xQ l0,←xQ lm]
 have hl:=size_data s
 unfold eF
 rw[hl,aZ l0,aZ yM,Bool.true_and,Bool.true_and]
 generalize s.data.toList=l at*
 rw[←hl] at l0 ⊢
 congr 1
 ·cases l with
  | nil=>simp at l0
  | cons a l=>simp[Lib.hasPrefix,List.isPrefixOf,Bool.beq_comm]
 ·congr 2
  unfold Lib.hasSuffix List.isSuffixOf
  have hr:l.getD (l.length-1) 0=l.reverse.getD 0 0:=by
   rw[nG,nG,List.getElem?_reverse (by omega)]
   congr 2
  rw[hr]
  cases hq:l.reverse with
  | nil=>have:=bJ List.length hq;simp at this;rw[this] at l0;simp at l0
  | cons a l=>simp[List.isPrefixOf,Bool.beq_comm]
theorem Ro (c:UInt8):((c==45)||qZ c)=(decide (c.toNat=45)||((decide (97≤c.toNat)&&decide (c.toNat≤122))||(decide (48≤c.toNat)&&decide (c.toNat≤57)))):=by
 have e:(c==45)=decide (c.toNat=45):=by
  rw[Bool.eq_iff_iff,beq_iff_eq,lD]
  exact⟨fun h=>by subst h;rfl,fun h=>UInt8.toNat_inj.1 h⟩
 rw[e]
 rfl
theorem Rq {c:UInt8} (h:c.toNat=45∨(97≤c.toNat∧c.toNat≤122)∨(48≤c.toNat∧c.toNat≤57)):((c==45)||qZ c)=true:=by
 rw[Ro]
 simpa using h
theorem Rt {c:UInt8} (h:¬(c.toNat=45∨(97≤c.toNat∧c.toNat≤122)∨(48≤c.toNat∧c.toNat≤57))):((c==45)||qZ c)=false:=by
 rw[Ro,←Bool.not_eq_true]
 simpa using h
theorem VD {l:List UInt8} {p:UInt8→Bool} {i:Nat} (hi:i<l.length) (h:p (l.getD i 0)=false):l.all p=false:=by
 rw[List.all_eq_false]
 refine⟨l[i],List.getElem_mem _,?_⟩
 rw[nG,fJ hi,Option.getD_some] at h
 rw[h];decide
theorem Ru (s:ByteArray) (w:World) (l0:0<s.size) (yM:¬24<s.size):
  Cl 96 #[.string s] w fun e w'=>e=.returned (.bool (eF s.data.toList))∧w'=w:=by
 have lm:s.size-1<s.size:=by omega
 have HL:=Hj (Rn (by omega) l0 lm)
 have q1:¬(s.size:Int)<1:=by omega
 have q2:¬(24:Int)<(s.size:Int):=by omega
 have k0:(0:Int)<(s.size:Int):=by omega
 have k1:(1:Int)≤(s.size:Int):=by omega
 have k2:(s.size:Int)≤24:=by omega
 have km:(s.size:Int)-1<(s.size:Int):=by omega
 have kt:((s.size:Int)-1).toNat=s.size-1:=by omega
 have HM:=Hj yM
 clear yM
 by_cases c0:(s[0].toNat:Int)=45
 ·have HA:Hid (eF s.data.toList=false):=Hj (by rw[HL.out,c0];rfl)
  go_enter Tryz.func96,Tryz.ntmps96
  go_wp2
  go_ret
  exact⟨bC HA.out.symm,rfl⟩
 have c0':((s[0].toNat:Int)==45)=false:=gQ.2 c0
 by_cases c1:(s[s.size-1].toNat:Int)=45
 ·have HA:Hid (eF s.data.toList=false):=Hj (by rw[HL.out,c1,Bool.and_comm];rfl)
  go_enter Tryz.func96,Tryz.ntmps96
  go_wp2
  go_ret
  exact⟨bC HA.out.symm,rfl⟩
 have c1':((s[s.size-1].toNat:Int)==45)=false:=gQ.2 c1
 have HA:Hid (eF s.data.toList=s.data.toList.all fun c=>(c==45)||qZ c):=Hj (by rw[HL.out,c0',c1'];rfl)
 clear HL c0 c1
 go_enter Tryz.func96,Tryz.ntmps96
 go_wp2
 clear c0' c1' q1
 go_loopg [3] s.size (fun gk s3 wr=>∃i:Nat,s3=.int .i64 (i:Int)∧i+gk=s.size∧(∀j,j<i→((s.data.toList.getD j 0==45)||qZ (s.data.toList.getD j 0))=true)∧wr=w)
 case atStart=>exact⟨0,rfl,by omega,fun j hj=>absurd hj (by omega),rfl⟩
 case round=>
  obtain⟨i,rfl,hik,hall,rfl⟩:=hrel
  have HI:=Hj hik
  have pK:=Hj hall
  clear hik hall
  by_cases hlt:i<s.size
  ·have HG:=Hj (xQ hlt)
   have hsi:(i:Int)<(s.size:Int):=by omega
   have hi0:(0:Int)≤(i:Int):=by omega
   have HN:=Hj (fun(h:((s[i]==45)||qZ s[i])=true) j (hj:j<i+1)=>show ((s.data.toList.getD j 0==45)||qZ (s.data.toList.getD j 0))=true from (Nat.lt_or_ge j i).elim (pK.out j) fun hge=>by
    obtain rfl:j=i:=by omega
    rw[HG.out];exact h)
   have HF:=Hj (fun(h:((s[i]==45)||qZ s[i])=false)=>show eF s.data.toList=false from HA.out.trans (VD (i:=i) (by rw[size_data];exact hlt) (by rw[HG.out];exact h)))
   clear pK HG
   by_cases c45:s[i].toNat=45
   ·have d45:((s[i].toNat:Int) !=45)=false:=by rw[c45];rfl
    go_wp2
    all_goals
     first
     | (go_roundg (gk-1)
        case measure=>have:=HI.out;omega
        case rel=>exact⟨i+1,by go_num,by have:=HI.out;omega,HN.out (Rq (by omega)),rfl⟩)
     | (go_ret;exact⟨bC (HF.out (Rt (by omega))).symm,rfl⟩)
   ·have d45:((s[i].toNat:Int) !=45)=true:=by rw[bne_iff_ne];omega
    go_wp2
    all_goals
     first
     | (go_roundg (gk-1)
        case measure=>have:=HI.out;omega
        case rel=>exact⟨i+1,by go_num,by have:=HI.out;omega,HN.out (Rq (by omega)),rfl⟩)
     | (go_ret;exact⟨bC (HF.out (Rt (by omega))).symm,rfl⟩)
  ·obtain rfl:i=s.size:=by have:=HI.out;omega
   go_wp2
   go_ret
   refine⟨bC ?_,rfl⟩
   rw[HA.out]
   exact(LC fun j hj=>pK.out j (by rw[size_data] at hj;exact hj)).symm
theorem Rw (s:ByteArray) (w:World):Cl 96 #[.string s] w fun e w'=>e=.returned (.bool (eF s.data.toList))∧w'=w:=by
 by_cases h0:s.size=0
 ·have HL:Hid (eF s.data.toList=false):=Hj (by unfold eF;rw[size_data,h0];rfl)
  have q1:(s.size:Int)<1:=by omega
  clear h0
  go_enter Tryz.func96,Tryz.ntmps96
  go_wp2
  go_ret
  exact⟨bC HL.out.symm,rfl⟩
 by_cases yM:24<s.size
 ·have HL:Hid (eF s.data.toList=false):=Hj (by unfold eF;rw[size_data,aQ (show ¬s.size≤24 by omega),Bool.false_and,Bool.and_false])
  have q1:¬(s.size:Int)<1:=by omega
  have q2:(24:Int)<(s.size:Int):=by omega
  clear h0 yM
  go_enter Tryz.func96,Tryz.ntmps96
  go_wp2
  go_ret
  exact⟨bC HL.out.symm,rfl⟩
 exact Ru s w (by omega) yM
theorem Gu (kind:Int) (w:World):Cl 73 #[.int .i64 kind] w fun e w'=>e=.returned (.bool (fV kind))∧w'=w:=by
 have HI:Hid (fV kind=((kind==5)||(kind==6))):=Hj rfl
 go_enter Tryz.func73,Tryz.ntmps73
 go_wp2
 ·rename_i h
  subst h
  go_ret
  exact⟨rfl,rfl⟩
 ·go_ret
  exact⟨bC HI.out.symm,rfl⟩
theorem VF (s:ByteArray):(s.toList==[])=decide (s.size=0):=by
 have h:=size_data s
 rw[qh]
 cases hl:s.data.toList with
 | nil=>rw[hl] at h;rw[←h];rfl
 | cons a b=>rw[hl] at h;rw[←h];rfl
theorem Ef (v:OV) (w:World):Cl 49 #[.agg (ov v)] w fun e w'=>e=.returned (.bool (dJ v.kind v.space v.name))∧Bw w w':=by
 obtain⟨kd,sp,nm,ve,A,n,c⟩:=v
 simp only
 have HB:=Hj fun o=>(aj w.heap.size w).alloc Kv o
 have H1:=Hj fun W=>Rw nm W
 have H2:=Hj fun W=>Rw sp W
 have HI:=Hj fun W=>Gu kd W
 have hs:=VF sp
 have HD:Hid (dJ kd sp nm=((if fV kd=true then eF sp.data.toList else decide (sp.size=0))&&(decide (1≤kd)&&(decide (kd≤7)&&eF nm.data.toList)))):=Hj rfl
 generalize eF nm.data.toList=bn at*
 generalize eF sp.data.toList=bs at*
 generalize fV kd=bi at*
 generalize decide (sp.size=0)=be at*
 generalize dJ kd sp nm=R at*
 by_cases k1:kd<1
 ·have HR:Hid (R=false):=Hj (by rw[HD.out,aQ (show ¬1≤kd by omega),Bool.false_and,Bool.and_false])
  clear HD
  go_enter Tryz.func49,Tryz.ntmps49
  go_wp2
  go_ret
  exact⟨bC HR.out.symm,HB.out _⟩
 by_cases k7:7<kd
 ·have HR:Hid (R=false):=Hj (by rw[HD.out,aQ (show ¬kd≤7 by omega),Bool.false_and,Bool.and_false,Bool.and_false])
  clear HD
  go_enter Tryz.func49,Tryz.ntmps49
  go_wp2
  go_ret
  exact⟨bC HR.out.symm,HB.out _⟩
 replace HD:Hid (R=((if bi=true then bs else be)&&bn)):=Hj (by rw[HD.out,aZ (show 1≤kd by omega),aZ (show kd≤7 by omega)];rfl)
 cases bn<;>cases bi
 all_goals
  go_enter Tryz.func49,Tryz.ntmps49
  go_wp2_with (first
   | (go_at_call 96;(with_reducible refine(H1.out _).mono ?_);rintro e w1 ⟨rfl,rfl⟩)
   | (go_at_call 96;(with_reducible refine(H2.out _).mono ?_);rintro e w1 ⟨rfl,rfl⟩)
   | (go_at_call 73;(refine(HI.out _).mono ?_);rintro e w1 ⟨rfl,rfl⟩)
   | fail)
  go_ret
  refine⟨bC ?_,HB.out _⟩
  rw[HD.out]
  first | rfl | exact(Bool.and_false _).symm | exact(Bool.and_true _).symm
theorem VG (k:Nat) (hk:k<10) (w:World):Cl 187 #[.int .i64 (k:Int)] w fun e w'=>e=.returned (.string (dG (jh (k:Int))))∧Bw w w':=by
 obtain⟨c,hc⟩:∃c:UInt8,c=UInt8.ofNat (48+k):=⟨_,rfl⟩
 have hcn:(c.toNat:Int)=48+(k:Int):=by rw[hc,UInt8.toNat_ofNat'];omega
 have hS:Hid (dG (jh (k:Int))=⟨#[c]⟩):=Hj (by
  unfold jh
  rw[aG (by omega),Int.toNat_natCast,lW hk,hc]
  rfl)
 have k0:(0:Int)≤(k:Int):=by omega
 have k9:(k:Int)<10:=by omega
 have hcv:(convert 35 9 (.slice (some ⟨w.heap.size,0,none⟩) 1 1)).run Tryz.prog (w.alloc (.cells #[.int .u8 (48+(k:Int))] 5))=.ok (.string ⟨#[c]⟩) (w.alloc (.cells #[.int .u8 (48+(k:Int))] 5)):=by
  refine iD Tryz.underlying35 Tryz.underlying5 Tryz.underlying9 (l:=[c]) ⟨rfl,fun _=>⟨_,_,rfl,fun j hj=> ?_⟩⟩
  obtain rfl:j=0:=by omega
  rw[bT _ _ _ _ _ _ (aA w _),←hcn]
  rfl
 clear hc hcn hk
 go_enter Tryz.func187,Tryz.ntmps187
 go_wp2
 go_ret
 exact⟨by rw[hS.out];rfl,(aj _ w).alloc Kv _⟩
theorem KeyR (v:OV) (k:Nat) (w:World) (hk:v.kind=(k:Int)) (hk9:k<10) (hs:v.space.size≤1000) (hn:v.name.size≤1000):
  Cl 126 #[.agg (ov v)] w fun e w'=>e=.returned (.string (jr v.kind v.space v.name))∧Bw w w':=by
 obtain⟨w1,hw1,B,hB,hb1,hr1⟩:=bI w v
 have HB1:=Hj hb1
 have dZ:=Hj hr1
 have HW:=Hj (aB hw1 hB)
 obtain⟨vb0,vb1,zX,-,-⟩:=VB.aK hr1
 have KW:Hid (∀W,Bw w1 W→W.cell? ⟨B,0,none⟩=some (.int .i64 v.kind)∧W.cell? ⟨B,1,none⟩=some (.string v.space)∧W.cell? ⟨B,2,none⟩=some (.string v.name)):=Hj fun W hW=>by
  obtain⟨a,b,c,-,-⟩:=VB.aK ((hW.block B (Cq hr1)).trans hr1)
  exact⟨a,b,c⟩
 obtain⟨s1,hs1⟩:∃s,s=dG (jh v.kind):=⟨_,rfl⟩
 have HS:Hid (∀W,Cl 187 #[.int .i64 v.kind] W fun e w'=>e=.returned (.string s1)∧Bw W w'):=Hj fun W=>by rw[hs1,hk];exact VG k hk9 W
 have h1:s1.size≤100:=by rw[hs1,jX,hk];unfold jh;rw[aG (by omega),List.length_reverse];exact Cz (uo 1 _ (by rw[Int.toNat_natCast];omega)) (by decide)
 have xO:=Hj hs1
 have z1:¬9223372036854775807<s1.size+1:=by omega
 have z2:¬9223372036854775807<s1.size+1+v.space.size:=by omega
 have z3:¬9223372036854775807<s1.size+1+v.space.size+1:=by omega
 have z4:¬9223372036854775807<s1.size+1+v.space.size+1+v.name.size:=by omega
 clear hw1 hB hb1 hr1 hk hs1 hs hn h1 hk9
 go_enter Tryz.func126,Tryz.ntmps126
 go_wp2
 rw[←HW.out.1,←HW.out.2]
 go_region_held3 (fun w'=>w'.cell? ⟨B,0,none⟩=some (.int .i64 v.kind)∧w'.cell? ⟨B,1,none⟩=some (.string v.space)∧w'.cell? ⟨B,2,none⟩=some (.string v.name)) (first | exact⟨by assumption,by assumption,by assumption⟩ | go_keep)
  (first
   | (go_at_call 187;((refine(HS.out w1.drew).mono ?_);rintro e w5 ⟨rfl,hb5⟩;have B5:Hid (Bw w1 w5):=Hj (Below.fZ hb5);obtain⟨y0,y1,y2⟩:=KW.out w5 B5.out;clear hb5))
   | fail)
 all_goals
  go_wp2
  go_ret
  refine⟨bJ (fun s=>Ending.returned (.string s)) ?_,HB1.out.trans (B5.out.mono HB1.out.size)⟩
  rw[xO.out]
  exact kG (by simp[dG,jr,gU])
end Go.Proofs.YtdhbpajamlfacaaGreatDoor
