/- The document's log (layer 18) by its lengths: Compact. -/
import Derived.Test.YtdhbpajamlfacaaGreatDoorLf
import Derived.Test.YtdhbpajamlfacaaGreatDoorRm
import Derived.Test.YtdhbpajamlfacaaGreatDoorLst
set_option maxHeartbeats 8000000
set_option maxRecDepth 100000
namespace Go.Proofs.YtdhbpajamlfacaaGreatDoor
open Go.RowKit
section
variable {w w' w0:World} {S P:Nat→Prop} {gl g:Nat} {G:LM} {tv rv:Value} {ws:List (Nat×Value)}
theorem Jp (g:Nat) (G:LM) (tv rv x t v:Value):((((sD g G tv rv).setIfInBounds 1 x).setIfInBounds 2 t).setIfInBounds 3 v).setIfInBounds 4 (.slice none 0 0)=#[pt g,x,t,v,.slice none 0 0,.bool false]:=by
 simp[sD]
/-- Another snapshot, no records. -/
theorem iV.renew {w7:World} {n:Nat} {v:Value} {gY:Nat} (h:iV w P gl g G tv rv ws) (hb:Bw w w7) (hx:LB w7 w.heap.size v n) {W:World} (hW:W=(((w7.setCell ⟨gl,1,none⟩ (.int .i64 ((G.gen+1:Nat):Int))).setCell ⟨gl,2,none⟩ (.int .i64 (gY:Int))).setCell ⟨gl,3,none⟩ v).setCell ⟨gl,4,none⟩ (.slice none 0 0)):
  DN W (ext P w W) gl g ⟨G.gen+1,gY,[]⟩∧Fr P w W:=by
 subst hW
 have hrow:=(hb.block _ h.lt).trans h.cells
 have hF:=((((Fr.refl (fun q=>q=gl) w7).setCell (p:=⟨gl,1,none⟩) (fun _=>rfl) (.int .i64 ((G.gen+1:Nat):Int))).setCell (p:=⟨gl,2,none⟩) (fun _=>rfl) (.int .i64 (gY:Int))).setCell (p:=⟨gl,3,none⟩) (fun _=>rfl) v).setCell (p:=⟨gl,4,none⟩) (fun _=>rfl) (.slice none 0 0)
 have hc:=aI _ gl 4 _ _ (.slice none 0 0) (aI _ gl 3 _ _ v (aI _ gl 2 _ _ (.int .i64 (gY:Int)) (aI _ gl 1 _ _ (.int .i64 ((G.gen+1:Nat):Int)) hrow)))
 rw[Jp] at hc
 have hsz:=hF.size
 exact⟨⟨v,.slice none 0 0,[],hc,⟨n,(hx.ls.mono fun q hq h=>.inr ⟨h.1,by omega⟩).stay hrow (by decide) hF⟩,ah.nil _ _ _ _,rfl,fun x hx=>(nomatch hx),.inl h.jv,fun k hk=>(nomatch hk)⟩,(Fr.of_below (S:=P) hb).trans (hF.mono fun q _ e=>by subst e;exact h.jv) fun _ _ h=>h⟩
theorem D7 (A:Option Addr) (n c:Nat) {room:Int} {s:Nat→Nat} (h:KW w0 w S g ⟨room,s,none⟩ gl G) (h0:0≤room) (hr1:room≤100000) (hf:(s 0:Int)+s 1+s 2≤room) (hs:G.slot=0∨G.slot=1) (hg:G.gen≤2147483647) (hn:n≤1000000) (hr:2147483647≤G.gen∨room-s 0-s 1-s 2<16+(n:Int)-(s (1-G.slot):Int)):
  Cl 81 #[pt gl,.slice A n c] w fun e w'=>e=.returned (.int .i64 26)∧Bw w w':=by
 obtain⟨c0,c1,c2,c5⟩:=h.at
 have HF:=Hj (fun W (hW:Bw w W)=>DR (h.below hW))
 have HS:=Hj (fun W (hW:Bw w W)=>QJ (h.below hW))
 have HK:Hid (∀W,Bw w W→W.cell? ⟨gl,0,none⟩=some (pt g)∧W.cell? ⟨gl,1,none⟩=some (.int .i64 (G.gen:Int))):=Hj fun W hW=>⟨Kz hW _ _ c0,Kz hW _ _ c1⟩
 obtain⟨gY,hto⟩:∃gY,gY=1-G.slot:=⟨_,rfl⟩
 have ht2:gY<3:=by omega
 have hti:(1:Int)-(G.slot:Int)=(gY:Int):=by omega
 rw[←hto] at hr
 have hl1:(s gY:Int)≤100000:=by
  have:gY=0∨gY=1:=by omega
  rcases this with e | e<;>rw[e]<;>omega
 have HL:Hid ((gY=0→s gY=s 0)∧(gY=1→s gY=s 1)∧(gY=2→s gY=s 2)):=Hj ⟨fun e=>by rw[e],fun e=>by rw[e],fun e=>by rw[e]⟩
 have hF1:room-s 0-s 1-s 2≤100000:=by omega
 clear h hto hs hf h0 hr1
 generalize room-s 0-s 1-s 2=F at*
 generalize s 0=l3 at*
 generalize s 1=l4 at*
 generalize s 2=l5 at*
 generalize s gY=l at*
 by_cases h1:2147483647≤G.gen
 ·have q1:decide (2147483647≤(G.gen:Int))=true:=aZ (by omega)
  have q1n:decide (2147483647≤G.gen)=true:=aZ h1
  generalize G.gen=gen at*
  generalize G.slot=sl at*
  clear hr h1
  go_enter Tryz.func81,Tryz.ntmps81
  go_wp2
  go_quiet (fail)
  go_wp2
  go_ret
  exact⟨rfl,below_drewN (aj _ _) _⟩
 ·have q1:decide (2147483647≤(G.gen:Int))=false:=aQ (by omega)
  have q1n:decide (2147483647≤G.gen)=false:=aQ h1
  have h2:F<16+(n:Int)-(l:Int):=hr.resolve_left h1
  have q2:decide (F<16+(n:Int)-(l:Int))=true:=aZ (by omega)
  have n0:(n:Int)≤1000000:=by omega
  have s0:IntKind.i64.wrap (16+(n:Int))=16+(n:Int):=cO _ (by omega)
  have s1:IntKind.i64.wrap (16+(n:Int)-(l:Int))=16+(n:Int)-(l:Int):=cO _ (by omega)
  have HT:=Hj ht2
  generalize G.gen=gen at*
  generalize G.slot=sl at*
  clear hr h1 h2 ht2
  go_enter Tryz.func81,Tryz.ntmps81
  go_wp2
  have Bd:Hid (Bw w w.drew):=Hj (bV (aj _ _))
  go_region_held3 (fun w'=>w'.cell? ⟨gl,0,none⟩=some (pt g)∧w'.cell? ⟨gl,1,none⟩=some (.int .i64 (gen:Int))) (first | exact⟨by assumption,by assumption⟩ | go_keep)
   (first
    | (go_at_call 115;((refine(HS.out w.drew Bd.out).mono ?_);rintro e w1 ⟨B0,B1,B2,d0,d1,d2,rfl,hb1⟩;have Po:Hid (Bw w w1):=Hj (Bd.out.trans hb1);obtain⟨x0,x1⟩:=HK.out w1 Po.out;obtain⟨Ba,da,hix⟩:=oM B0 B1 B2 d0 d1 d2 l3 l4 l5 l gY HT.out HL.out.1 HL.out.2.1 HL.out.2.2;clear hb1))
    | (go_at_call 140;((refine(HF.out w1 Po.out).mono ?_);rintro e w2 ⟨rfl,hb2⟩;have B2':Hid (Bw w w2):=Hj (Po.out.trans (hb2.mono Po.out.size));obtain⟨y0,y1⟩:=HK.out w2 B2'.out;clear hb2))
    | fail)
  all_goals
   go_wp2
   go_ret
   exact⟨rfl,B2'.out⟩
theorem AO (A:Option Addr) (n c gY:Nat) {room:Int} {s:Nat→Nat} (h:KW w0 w S g ⟨room,s,none⟩ gl G) (h0:0≤room) (hr1:room≤100000) (hf:(s 0:Int)+s 1+s 2≤room) (ht:gY=0∨gY=1) (hto:gY=1-G.slot) (hsl:G.slot≤1) (hg:G.gen<2147483647) (hn:n≤1000000) (hr:16+(n:Int)-(s gY:Int)≤room-s 0-s 1-s 2) (hb:LR w (.slice A n c) n) (hA:0<n→Off S A):
  Cl 81 #[pt gl,.slice A n c] w fun e w'=>e=.returned (.int .i64 0)∧KW w0 w' (ext S w w') g ⟨room,upd (upd s gY (16+n)) 2 0,none⟩ gl ⟨G.gen+1,gY,[]⟩∧Fr S w w':=by
 obtain⟨c0,c1,c2,c5⟩:=h.at
 have HF:=Hj (fun W (hW:Bw w W)=>DR (h.below hW))
 have HS:=Hj (fun W (hW:Bw w W)=>QJ (h.below hW))
 have HK:Hid (∀W,Bw w W→W.cell? ⟨gl,0,none⟩=some (pt g)∧W.cell? ⟨gl,1,none⟩=some (.int .i64 (G.gen:Int))):=Hj fun W hW=>⟨Kz hW _ _ c0,Kz hW _ _ c1⟩
 have ht2:gY<3:=by omega
 have hti:(1:Int)-(G.slot:Int)=(gY:Int):=by omega
 have hl1:(s gY:Int)≤100000:=by rcases ht with e | e<;>rw[e]<;>omega
 have HL:Hid ((gY=0→s gY=s 0)∧(gY=1→s gY=s 1)∧(gY=2→s gY=s 2)):=Hj ⟨fun e=>by rw[e],fun e=>by rw[e],fun e=>by rw[e]⟩
 have hF1:room-s 0-s 1-s 2≤100000:=by omega
 have e1:upd s gY 0 gY=0:=qx _ _ _
 have hfr:((16+n:Nat):Int)≤room-((upd s gY 0 0:Nat):Int)-((upd s gY 0 1:Nat):Int)-((upd s gY 0 2:Nat):Int):=by
  rcases ht with e | e<;>subst e<;>simp[upd]<;>omega
 have e2:upd (upd (upd s gY 0) gY (upd s gY 0 gY+(16+n))) 2 0=upd (upd s gY (16+n)) 2 0:=by
  rw[e1,dV]
  funext i
  unfold upd
  split
  ·rfl
  ·split<;>rfl
 have H1:=Hj fun W S' hW=>Xu (w:=W) (w0:=w0) (S:=S') (g:=g) (gl:=gl) (G:=G) (room:=room) (s:=s) gY ht2 hW
 have H2:=Hj fun W S' hW=>DU (w:=W) (w0:=w0) (S:=S') (g:=g) (gl:=gl) (G:=G) (room:=room) (s:=s) gY 0 true ht2 hW (.inl rfl)
 have H3:=Hj fun W S' hW A' c' hr=>LG (w:=W) (w0:=w0) (S:=S') (g:=g) (gl:=gl) (G:=G) (room:=room) (s:=upd s gY 0) gY ht2 0 (16+n) c' A' hW (by rw[e1];rfl) hr (by omega) hfr
 have H4:=Hj fun W S' hW=>DU (w:=W) (w0:=w0) (S:=S') (g:=g) (gl:=gl) (G:=G) (room:=room) (s:=upd s gY 0) gY (16+n) false ht2 hW (.inr hfr)
 have H5:=Hj fun W S' hW=>Xu (w:=W) (w0:=w0) (S:=S') (g:=g) (gl:=gl) (G:=G) (room:=room) (s:=upd (upd s gY 0) gY (upd s gY 0 gY+(16+n))) 2 (by decide) hW
 have H6:=Hj fun W S' hW=>DU (w:=W) (w0:=w0) (S:=S') (g:=g) (gl:=gl) (G:=G) (room:=room) (s:=upd (upd s gY 0) gY (upd s gY 0 gY+(16+n))) 2 0 true (by decide) hW (.inl rfl)
 have HSn:Hid (∀W,Fr S w W→_):=Hj fun W hW=>YU (G.gen+1) n A c W (hb.Pn hW hA) (by omega) (by omega)
 rw[aF rfl] at H2 H6
 rw[aG (by decide)] at H4
 rw[e2] at H6
 rw[show (((2:Nat)):Int)=2 from rfl] at H5
 rw[show ((G.gen+1:Nat):Int)=(G.gen:Int)+1 from rfl] at HSn
 generalize upd (upd s gY (16+n)) 2 0=s6 at*
 generalize upd (upd s gY 0) gY (upd s gY 0 gY+(16+n))=s4 at*
 generalize upd s gY 0=s2 at*
 have HD:=Hj h
 have HB:=Hj hb
 have HA:=Hj hA
 have q1:decide (2147483647≤(G.gen:Int))=false:=aQ (by omega)
 have q1n:decide (2147483647≤G.gen)=false:=aQ (by omega)
 have q2:decide (room-s 0-s 1-s 2<16+(n:Int)-(s gY:Int))=false:=aQ (by omega)
 have n0:(n:Int)≤1000000:=by omega
 have s0:IntKind.i64.wrap (16+(n:Int))=16+(n:Int):=cO _ (by omega)
 have s1:IntKind.i64.wrap (16+(n:Int)-(s gY:Int))=16+(n:Int)-(s gY:Int):=cO _ (by omega)
 have g1:IntKind.i64.wrap ((G.gen:Int)+1)=(G.gen:Int)+1:=cO _ (by omega)
 have HT:=Hj ht2
 have HN:=Hj hn
 clear h hb hA ht hto hsl hf hr h0 hr1 e1 e2 hfr ht2 hn hg
 generalize room-s 0-s 1-s 2=F at*
 generalize s 0=l3 at*
 generalize s 1=l4 at*
 generalize s 2=l5 at*
 generalize s gY=l at*
 have Bd:Hid (Bw w w.drew):=Hj (bV (aj _ _))
 go_enter Tryz.func81,Tryz.ntmps81
 go_wp2
 go_region_held3 (fun w'=>w'.cell? ⟨gl,0,none⟩=some (pt g)∧w'.cell? ⟨gl,1,none⟩=some (.int .i64 (G.gen:Int))) (first | exact⟨by assumption,by assumption⟩ | go_keep)
  (first
   | (go_at_call 115;((refine(HS.out w.drew Bd.out).mono ?_);rintro e w1 ⟨B0,B1,B2,d0,d1,d2,rfl,hb1⟩;have Po:Hid (Bw w w1):=Hj (Bd.out.trans hb1);obtain⟨x0,x1⟩:=HK.out w1 Po.out;obtain⟨Ba,da,hix⟩:=oM B0 B1 B2 d0 d1 d2 l3 l4 l5 l gY HT.out HL.out.1 HL.out.2.1 HL.out.2.2;clear hb1))
   | (go_at_call 140;((refine(HF.out w1 Po.out).mono ?_);rintro e w2 ⟨rfl,hb2⟩;have B2':Hid (Bw w w2):=Hj (Po.out.trans (hb2.mono Po.out.size));obtain⟨y0,y1⟩:=HK.out w2 B2'.out;have D0:=Hj (HD.out.made B2'.out);clear hb2))
   | fail)
 all_goals
  go_wp2_with (first
   | (go_at_call 121;((refine(H1.out w2 _ D0.out.1).mono ?_);rintro e wc1 ⟨rfl,hd,hf⟩;have D1:=Hj (KW.then D0.out.2 ⟨hd,hf⟩);obtain⟨a1,b1,-,c1'⟩:=hd.at;have z1:=hd.fz 5;clear hd hf))
   | (go_at_call 122;((refine(H2.out wc1 _ D1.out.1).mono ?_);rintro e wc2 ⟨rfl,hd,hf⟩;have D2:=Hj (KW.then D1.out.2 ⟨hd,hf⟩);obtain⟨a2,b2,-,c2'⟩:=hd.at;have z2:=hd.fz 5;clear hd hf))
   | fail)
  go_region_held3 (fun w'=>w'.cell? ⟨gl,0,none⟩=some (pt g)∧w'.cell? ⟨gl,1,none⟩=some (.int .i64 (G.gen:Int))) (first | exact⟨by assumption,by assumption⟩ | go_keep)
   (first
   | (go_at_call 142;((refine(HSn.out wc2.drew (D2.out.2.drew)).mono ?_);rintro e wc3s ⟨A3,k3,rfl,ho3,hb3⟩;have D2s:=Hj (KW.then D2.out.2 (D2.out.1.made (Below.fZ hb3)));have R3:=Hj ho3.lr;obtain⟨a3s,b3s,-,-⟩:=D2s.out.1.at;clear ho3 hb3))
   | (go_at_call 141;((refine(H3.out wc3s _ D2s.out.1 A3 k3 R3.out).mono ?_);rintro e wc3 ⟨rfl,hd,hf,-⟩;have D3:=Hj (KW.then D2s.out.2 ⟨hd,hf⟩);obtain⟨a3,b3,-,c3'⟩:=hd.at;have z3:=hd.fz 5;clear hd hf))
   | fail)
  all_goals
   go_wp2_with (first
   | (go_at_call 122;((with_reducible refine(H4.out wc3 _ D3.out.1).mono ?_);rintro e wc4 ⟨rfl,hd,hf⟩;have D4:=Hj (KW.then D3.out.2 ⟨hd,hf⟩);obtain⟨a4,b4,-,Xc⟩:=hd.at;have z4:=hd.fz 5;clear hd hf))
   | (go_at_call 121;((refine(H5.out wc4 _ D4.out.1).mono ?_);rintro e wc5 ⟨rfl,hd,hf⟩;have D5:=Hj (KW.then D4.out.2 ⟨hd,hf⟩);obtain⟨a5,b5,-,c5'⟩:=hd.at;have z5:=hd.fz 5;clear hd hf))
   | (go_at_call 122;((with_reducible refine(H6.out wc5 _ D5.out.1).mono ?_);rintro e Xw ⟨rfl,hd,hf⟩;have D6:=Hj (KW.then D5.out.2 ⟨hd,hf⟩);obtain⟨a6,b6,-,c6'⟩:=hd.at;have z6:=hd.fz 5;clear hd hf))
   | fail)
   have R6:=Hj (HB.out.Pn D6.out.2 HA.out)
   obtain⟨P,tv,rv,ws,hV,hU⟩:=D6.out.1.yR
   have HV:=Hj hV
   have HU:=Hj hU
   have YD:Hid ((G.gen:Int)+1=((G.gen+1:Nat):Int)):=Hj rfl
   clear hV hU
   have b6o:∀o,(Xw.alloc o).cell? ⟨gl,1,none⟩=some (.int .i64 (G.gen:Int)):=fun o=>Kz ((aj Xw.heap.size Xw).alloc Kv o) _ _ b6
   go_region_law (first
    | (refine Nv (w0:=Xw) rfl (.tmp 105) (.tmp 106) (by rfl) n (aJ ((aj _ Xw).alloc Kv _)) (by show _≤(Xw.heap.push _).size;simp) (LB.empty Xw Kv) (by rfl) (R6.out.below (aJ ((aj _ Xw).alloc Kv _))) (by rfl) (dV _) (by have:=HN.out;omega) ?_;intro A7 c7 w7 Xx hb7;have O7:=Hj Xx;have B7:=Hj hb7;have Nw:=(B7.out.block _ HV.out.lt).trans HV.out.cells;have u1:=Kq 1 Nw;have u2:=Kq 2 Nw;have u3:=Kq 3 Nw;have u4:=Kq 4 Nw;have uf:∀j,w7.frozen? ⟨gl,j,none⟩=false:=fun j=>Kj Nw;have u1':w7.cell? ⟨gl,1,none⟩=some (.int .i64 (G.gen:Int)):=u1;have u2':w7.cell? ⟨gl,2,none⟩=some (.int .i64 (G.slot:Int)):=u2;have u3':w7.cell? ⟨gl,3,none⟩=some tv:=u3;have u4':w7.cell? ⟨gl,4,none⟩=some rv:=u4;clear Xx hb7 Nw u1 u2 u3 u4)
    | fail)
   all_goals
    go_wp2
    go_ret
    obtain⟨D9,F9⟩:=HV.out.renew (gY:=gY) B7.out O7.out rfl
    obtain⟨D8,F8⟩:=HU.out _ _ D9 F9
    exact⟨rfl,KW.then D6.out.2 ⟨D8,F8⟩⟩
theorem Ny (A:Option Addr) (n c:Nat) {room:Int} {s:Nat→Nat} (h:KW w0 w S g ⟨room,s,none⟩ gl G) (h0:0≤room) (hr1:room≤100000) (hf:(s 0:Int)+s 1+s 2≤room) (hs:G.slot=0∨G.slot=1) (hg:G.gen≤2147483647) (hn:n≤1000000) (hb:LR w (.slice A n c) n) (hA:0<n→Off S A):
  Cl 81 #[pt gl,.slice A n c] w fun e w'=>
   ((2147483647≤G.gen∨room-s 0-s 1-s 2<16+(n:Int)-(s (1-G.slot):Int))∧e=.returned (.int .i64 26)∧Bw w w')∨
   (¬(2147483647≤G.gen∨room-s 0-s 1-s 2<16+(n:Int)-(s (1-G.slot):Int))∧e=.returned (.int .i64 0)∧KW w0 w' (ext S w w') g ⟨room,upd (upd s (1-G.slot) (16+n)) 2 0,none⟩ gl ⟨G.gen+1,1-G.slot,[]⟩∧Fr S w w'):=by
 by_cases hr:2147483647≤G.gen∨room-s 0-s 1-s 2<16+(n:Int)-(s (1-G.slot):Int)
 ·exact (D7 A n c h h0 hr1 hf hs hg hn hr).mono fun e w' hh=>.inl ⟨hr,hh⟩
 ·exact (AO A n c (1-G.slot) h h0 hr1 hf (by omega) rfl (by omega) (by omega) hn (by omega) hb hA).mono fun e w' hh=>.inr ⟨hr,hh⟩
end
theorem YV (w:World):Cl 116 #[.slice none 0 0] w fun e w'=>e=.returned (.tuple #[.int .i64 0,.slice none 0 0])∧w=w':=by
 go_enter Tryz.func116,Tryz.ntmps116
 go_wp2
 exact bg (eG rfl _ _ _) rfl ⟨rfl,rfl⟩
/-- A new log's world: its block, the areas' block. -/
structure LH (w w':World) (g gl qa:Nat) (room:Int):Prop where
 log:w'.heap[gl]?=some (.cells (sD g ⟨0,1,[]⟩ (.slice none 0 0) (.slice none 0 0)) 140 (0,0))
 arr:w'.heap[qa]?=some (.cells #[.slice none 0 0,.slice none 0 0,.slice none 0 0] 77 (0,0))
 bel:Bw w w'
 up:w.heap.size≤gl
section
variable {w w' w0:World} {g gl qa:Nat} {room:Int}
theorem LH.lt (h:LH w w' g gl qa room):gl<w'.heap.size∧qa<w'.heap.size:=⟨(Cq h.log),(Cq h.arr)⟩
theorem LH.below (h:LH w w' g gl qa room) {W:World} (hb:Bw w' W):LH w W g gl qa room:=⟨(hb.block _ h.lt.1).trans h.log,(hb.block _ h.lt.2).trans h.arr,h.bel.trans (hb.mono h.bel.size),h.up⟩
theorem LH.cell (h:LH w w' g gl qa room):w'.cell? ⟨gl,1,none⟩=some (.int .i64 0)∧w'.cell? ⟨gl,4,none⟩=some (.slice none 0 0)∧∀i,i<3→w'.cell? ⟨qa,i,none⟩=some (.slice none 0 0):=by
 refine⟨Kq 1 h.log,Kq 4 h.log,fun i hi=> ?_⟩
 rw[bT _ _ i _ _ _ h.arr]
 have:i=0∨i=1∨i=2:=by omega
 rcases this with rfl | rfl | rfl<;>rfl
/-- A fresh disk. -/
structure BP (w0 w:World) (g:Nat) (room:Int):Prop where
 cells:w.heap[g]?=some (.cells #[.int .i64 room,.slice none 0 0,.slice none 0 0,.slice none 0 0,.slice none 0 0,.bool false,.int .i64 0,.bool false] 80 (0,0))
 r0:0≤room
 r1:room≤100000
 bel:Bw w0 w
 up:w0.heap.size≤g
theorem BP.ldv (h:BP w0 w g room):wH w (fun k=>k=g) g room (fun _=>none) (fun _=>0) (fun _=>0) (.slice none 0 0):=
 ⟨h.cells,fun _ _=>⟨⟨[],rfl,ah.nil _ _ _ _⟩,fun q hq=>by cases hq⟩,by have:=h.r0;simpa using this,h.r1,rfl⟩
theorem LH.kw (hn:BP w0 w g room) (h:LH w w' g gl qa room):KW w0 w' (fun k=>w0.heap.size≤k∧k<w'.heap.size) g ⟨room,fun _=>0,none⟩ gl ⟨0,1,[]⟩:=by
 have hg:=(Cq hn.cells)
 have hs:=h.bel.size
 have h0:=hn.bel.size
 have hd:LD w' (fun k=>k=g) g room (fun _=>0):=⟨_,_,hn.ldv.below h.bel⟩
 refine⟨⟨fun k=>k=g,fun k=>k=gl,hd,⟨_,_,[],⟨h.log,⟨0,⟨⟨[],rfl,ah.nil _ _ _ _⟩,fun q hq=>by cases hq⟩⟩,ah.nil _ _ _ _,rfl,fun _ hx=>(nomatch hx),rfl,fun k hk=>(nomatch hk)⟩⟩,fun k hk=> ?_,fun k hk=> ?_,fun k h1 h2=> ?_⟩,fun _ hk=>hk.1,fun _ hk=>hk.2,hn.bel.trans (h.bel.mono h0)⟩
 ·subst hk;exact⟨hn.up,by omega⟩
 ·subst hk;exact⟨by have:=h.up;omega,h.lt.1⟩
 ·subst h1;subst h2;have:=h.up;omega
theorem YW (hn:BP w0 w g room):Cl 68 #[pt g] w fun e w'=>∃gl qa,e=.returned (.tuple #[pt gl,.int .i64 0])∧LH w w' g gl qa room:=by
 have c7:w.cell? ⟨g,7,none⟩=some (.bool false):=Kq 7 hn.cells
 have HS:=Hj (yP hn.ldv)
 have HE:Hid (∀W gl qa,LH w W g gl qa room→Cl 117 #[pt gl] W fun e w'=>e=.returned (.int .i64 0)∧W=w'):=Hj fun W gl qa h=>Xv (h.kw hn) (by decide)
 clear hn
 go_enter Tryz.func68,Tryz.ntmps68
 go_wp2_with (first
  | (go_at_call 115;((refine HS.out.mono ?_);rintro e w1 ⟨rfl,hb1⟩;have B1:=Hj hb1;clear hb1))
  | fail)
 obtain⟨w2,hw2⟩:∃W,W=(w1.alloc (.cells #[.slice none 0 0,.slice none 0 0,.slice none 0 0] 77)).alloc (.cells #[pt g,.int .i64 0,.int .i64 1,.slice none 0 0,.slice none 0 0,.bool false] 140):=⟨_,rfl⟩
 obtain⟨qa,hqa⟩:∃q,q=w1.heap.size:=⟨_,rfl⟩
 obtain⟨gl,hgl⟩:∃q,q=qa+1:=⟨_,rfl⟩
 have H2:Hid (LH w w2 g gl qa room):=Hj (by
  obtain⟨k1,k2,k3⟩:=aP w1 (.cells #[.slice none 0 0,.slice none 0 0,.slice none 0 0] 77) (.cells #[pt g,.int .i64 0,.int .i64 1,.slice none 0 0,.slice none 0 0,.bool false] 140)
  rw[hw2,hgl,hqa]
  exact⟨k2,k1,B1.out.trans (k3.mono B1.out.size),by have:=B1.out.size;omega⟩)
 rw[←hw2,←hqa,←hgl]
 clear hw2 hqa hgl B1 HS c7
 go_loopg [6] 2 (fun k s6 wr=>∃i:Nat,i+k=2∧s6=.int .i64 (i:Int)∧LH w wr g gl qa room)
 case atStart=>exact⟨0,rfl,rfl,H2.out⟩
 case round=>
  obtain⟨i,hi,rfl,hO⟩:=hrel
  have HI:=Hj hi
  have HO:=Hj hO
  obtain⟨c1,c4,ca⟩:=hO.cell
  clear hO
  by_cases hlt:i<2
  ·have d0:=ca i (by omega)
   have k0:(0:Int)≤(i:Int):=by omega
   have k1:(i:Int)<2:=by omega
   have k3:(i:Int)<3:=by omega
   have IX:=Hj hlt
   clear ca hlt hi
   go_wp2_with (first
    | (go_at_call 116;((refine(YV wr).mono ?_);rintro e w3 ⟨rfl,rfl⟩))
    | fail)
   go_roundg (gk-1)
   case measure=>have:=HI.out;have:=IX.out;omega
   case rel=>exact⟨i+1,by have:=HI.out;have:=IX.out;omega,by go_num,HO.out⟩
  ·obtain rfl:i=2:=by omega
   clear hlt hi HI ca c1 c4 H2
   go_wp2
   go_loopg [9] 0 (fun _ s9 wr=>LH w wr g gl qa room)
   case atStart=>exact HO.out
   case round=>
    have HO:=Hj hrel
    have c2:=hrel.cell.2.2 2 (by decide)
    have HE2:=Hj (HE.out wr.drew gl qa (hrel.below (aJ (aj _ _))))
    clear hrel
    go_wp2
    go_region_held3 (fun w'=>w'.cell? ⟨qa,2,none⟩=some (.slice none 0 0)) (go_keep)
     (first
      | (go_at_call 117;((refine HE2.out.mono ?_);rintro e w3 ⟨rfl,rfl⟩))
      | fail)
    all_goals
     go_wp2
     go_region_held3 (fun w'=>w'.cell? ⟨qa,2,none⟩=some (.slice none 0 0)) (go_keep)
      (first
       | (go_at_call 117;((with_reducible refine(HE.out _ gl qa (HO.out.below (by first | exact below_drewN (aj _ _) _ | exact aJ (aJ (aj _ _))))).mono ?_);rintro e w3 ⟨rfl,rfl⟩))
       | fail)
     all_goals
      go_wp2
      refine bg (eG rfl _ _ _) rfl ⟨gl,qa,rfl,HO.out.below ?_⟩
      first | exact below_drewN (aj _ _) _ | exact aJ (aJ (aj _ _))
end
open SO
/-- The document's store; Z: the blocks that are its own. -/
structure RV (w:World) (Z:Nat→Prop) (gs gl:Nat) (av ev:Value) (xs:List (OV×aC)) (ys:List (Bool×(OV×aC))) (M:bQ):Prop where
 cells:w.heap[gs]?=some (.cells #[pt gl,av,.int .i64 (M.rev:Int),.int .i64 (M.base:Int),ev] 90 (0,0))
 all:OL w 0 av (xs.map fun x=>x.1)
 allM:M.tab.map (fun x=>x.2)=xs.map fun x=>x.2
 each:∀x∈xs,dD w x.1 x.2
 evs:ah w 0 114 7 ev ys.length (iK ys)
 IE:M.evs=ys.map fun y=>(y.1,y.2.2)
 kY:∀y∈ys,dD w y.2.1 y.2.2
 zs:Z gs
 za:∀k,av.ownBlock=some k→Z k
 ze:∀k,ev.ownBlock=some k→Z k
 zx:∀x∈xs,∀k,(sl x.1).ownBlock=some k→Z k
 zy:∀y∈ys,∀k,(sl y.2.1).ownBlock=some k→Z k
theorem lY {a b:ByteArray} (h:a.toList=b.toList):a=b:=by
 rw[qh,qh] at h
 exact kG (Array.toList_inj.1 h)
section
variable {w w':World} {Z X:Nat→Prop} {gs gl:Nat} {av ev:Value} {xs:List (OV×aC)} {ys:List (Bool×(OV×aC))} {M:bQ}
theorem RV.lt (h:RV w Z gs gl av ev xs ys M):gs<w.heap.size:=(Cq h.cells)
theorem RV.fr (h:RV w Z gs gl av ev xs ys M) (hf:Fr X w w') (hX:∀k,Z k→¬X k):RV w' Z gs gl av ev xs ys M:=
 ⟨(hf.block gs h.lt (hX gs h.zs)).trans h.cells,ah.kept h.all hf fun k hk=>hX k (h.za k hk),h.allM,fun x hx=>(h.each x hx).fr hf fun k hk=>hX k (h.zx x hx k hk),h.evs.kept hf fun k hk=>hX k (h.ze k hk),h.IE,
  fun y hy=>(h.kY y hy).fr hf fun k hk=>hX k (h.zy y hy k hk),h.zs,h.za,h.ze,h.zx,h.zy⟩
theorem RV.below (h:RV w Z gs gl av ev xs ys M) (hb:Bw w w'):RV w' Z gs gl av ev xs ys M:=h.fr (X:=fun _=>False) (Fr.of_below hb) fun _ _ x=>x
/-- The cells of the rows of objects. -/
theorem yY {base:Nat} {A:Option Addr} {n c:Nat} {l:List OV} (h:OL w base (.slice A n c) l) (h0:0<l.length):∃b o,A=some ⟨b,o,none⟩∧n=l.length∧∀i v,l[i]?=some v→∀f u,(jJ v)[f]?=some u→w.cell? ⟨b,o+(i*5+f),none⟩=some u:=by
 obtain⟨b,o,cap,e,_,_,hc⟩:=ah.cells h (by have:(bH l).length=l.length*5:=h.1;omega)
 injection e with e1 e2 e3
 exact⟨b,o,e1,e2,fun i v hv f u hu=>hc _ _ (flat_get jJ 5 (fun _=>rfl) l i v f u hv hu)⟩
theorem RV.row (h:RV w Z gs gl av ev xs ys M):∃A c,av=.slice A xs.length c∧w.cell? ⟨gs,1,none⟩=some (.slice A xs.length c)∧(0<xs.length→∃b o,A=some ⟨b,o,none⟩∧∀i x,xs[i]?=some x→w.cell? ⟨b,o+i*5,none⟩=some (.int .i64 x.1.kind)∧w.cell? ⟨b,o+i*5+1,none⟩=some (.string x.1.space)∧w.cell? ⟨b,o+i*5+2,none⟩=some (.string x.1.name)∧w.cell? ⟨b,o+i*5+3,none⟩=some (.int .i64 x.1.ver)∧w.cell? ⟨b,o+i*5+4,none⟩=some (.slice x.1.A x.1.n x.1.c)):=by
 obtain⟨A,c,e,-,-⟩:=ah.form h.all
 rw[aX] at e
 subst e
 refine⟨A,c,rfl,Kq 1 h.cells,fun h0=> ?_⟩
 obtain⟨b,o,e,-,hc⟩:=yY h.all (by rw[aX];exact h0)
 refine⟨b,o,e,fun i x hx=> ?_⟩
 have hv:(xs.map fun x=>x.1)[i]?=some x.1:=by rw[dK,hx];rfl
 have k:=hc i x.1 hv
 exact⟨k 0 _ rfl,k 1 _ rfl,k 2 _ rfl,k 3 _ rfl,k 4 _ rfl⟩
theorem Gt (h:RV w Z gs gl av ev xs ys M) (hl:xs.length≤100000) (v:OV):
  Cl 29 #[pt gs,.agg (ov v)] w fun e w'=>∃r,e=.returned (.int .i64 r)∧LU (M.tab.map fun x=>x.2) v.kind v.space v.name r∧Bw w w':=by
 obtain⟨A,c,-,c1,hcell⟩:=h.row
 obtain⟨w1,hw1,B,hB,hb1,hr1⟩:=bI w v
 have HB1:=Hj hb1
 have HW:=Hj (aB hw1 hB)
 have K1:∀o,(w.alloc o).cell? ⟨gs,1,none⟩=some (.slice A xs.length c):=fun o=>Kz ((aj _ w).alloc Kv o) _ _ c1
 have KW:Hid (∀W,Bw w1 W→VB W B v):=Hj fun W hW=>VB.aK ((hW.block B (Cq hr1)).trans hr1)
 have HC:=Hj hcell
 have HM:=Hj h.allM
 have HO:Hid (∀x∈xs,x.1.kind=(x.2.kind:Int)∧x.1.space=x.2.space∧x.1.name=x.2.name):=Hj fun x hx=>⟨(h.each x hx).kind,(h.each x hx).space,(h.each x hx).name⟩
 have HLn:=Hj hl
 clear h c1 hcell hw1 hB hb1 hr1 hl
 go_enter Tryz.func29,Tryz.ntmps29
 go_wp2
 rw[←HW.out.1,←HW.out.2]
 clear K1
 go_loopg [12] xs.length (fun k s12 wr=>∃i:Nat,s12=.int .i64 (i:Int)∧i+k=xs.length∧(∀j x,j<i→xs[j]?=some x→¬yZ x.2 v.kind v.space v.name)∧Bw w1 wr)
 case atStart=>exact⟨0,rfl,by omega,fun j x hj=>absurd hj (by omega),aj _ _⟩
 case round=>
  obtain⟨i,rfl,hi,hno,hbel⟩:=hrel
  have HI:=Hj hi
  have HNo:=Hj hno
  have jD:=Hj hbel
  clear hno hbel
  by_cases hlt:i<xs.length
  ·obtain ⟨b,o,rfl,hc⟩:=HC.out (by omega)
   obtain⟨x,hx⟩:∃x,xs[i]?=some x:=⟨_,fJ hlt⟩
   obtain⟨d0,d1,d2,d3,d4⟩:=hc i x hx
   have kk:=Kz (HB1.out.trans (jD.out.mono HB1.out.size))
   replace d0:=kk _ _ d0
   replace d1:=kk _ _ d1
   replace d2:=kk _ _ d2
   replace d3:=kk _ _ d3
   replace d4:=kk _ _ d4
   obtain⟨e1,e2,e3⟩:=HO.out x (gJ hx)
   have k0:(0:Int)≤(i:Int):=by omega
   have k1:(i:Int)<(xs.length:Int):=by omega
   have k2:(i:Int)≤100000:=by have:=HLn.out;omega
   have a0:=fun o=>(KW.out (wr.alloc o) (jD.out.alloc jD.out.size o)).1
   have a1:=fun o=>(KW.out (wr.alloc o) (jD.out.alloc jD.out.size o)).2.1
   have a2:=fun o=>(KW.out (wr.alloc o) (jD.out.alloc jD.out.size o)).2.2.1
   have HX:=Hj hx
   have HT:Hid (i+gk=xs.length∧i<xs.length):=Hj ⟨hi,hlt⟩
   have HS:=Hj (fun(hk:¬yZ x.2 v.kind v.space v.name) j y (hj:j<i+1) (hy:xs[j]?=some y)=>show ¬yZ y.2 v.kind v.space v.name from (Nat.lt_or_ge j i).elim (fun h=>HNo.out j y h hy) fun hge=>by
    obtain rfl:j=i:=by omega
    rw[HX.out] at hy
    injection hy with hy
    subst hy
    exact hk)
   clear hc kk hi hlt hx
   go_wp2
   ·rename_i h1 h2 h3
    go_ret
    exact⟨_,rfl,.inr ⟨i,x.2,rfl,by rw[HM.out,dK,HX.out];rfl,h1,lY h2,lY (by simpa using h3)⟩,HB1.out.trans ((jD.out.alloc jD.out.size _).mono HB1.out.size)⟩
   all_goals
    rename_i hh
    go_roundg (gk-1)
    case measure=>have:=HT.out;omega
    case rel=>exact⟨i+1,by go_num,by have:=HT.out;omega,HS.out fun hs=>(by first | exact hh hs.1 | exact hh (bJ ByteArray.toList hs.2.1) | (rw[hs.2.2] at hh;simp at hh)),jD.out.alloc jD.out.size _⟩
  ·have hge:xs.length≤i:=by omega
   obtain rfl:i=xs.length:=by omega
   clear hlt hi hge
   go_wp2
   go_ret
   refine⟨_,rfl,.inl ⟨rfl,fun y hy=> ?_⟩,HB1.out.trans (jD.out.mono HB1.out.size)⟩
   rw[HM.out] at hy
   obtain⟨x,hx,rfl⟩:=bW.1 hy
   obtain⟨j,hj,e⟩:=List.mem_iff_getElem.1 hx
   exact HNo.out j x hj (by rw[fJ hj,e])
/-- An object's block as an append's source. -/
theorem uz {W:World} {q cp:Nat} {v:OV} (h:W.heap[q]?=some (.cells (ov v) 37 (0,0))):Src Tryz.prog 5 41 (.slice (some ⟨q,0,none⟩) 1 cp) 1 (jJ v) W:=
 Src.ofSlice _ Tryz.underlying41 _ _ cp _ rfl (fun j u hu=>mJ (cs:=(ov v)) h j u hu) (fun u hu=>by
  simp only[jJ,List.mem_cons,List.not_mem_nil,or_false] at hu
  rcases hu with rfl | rfl | rfl | rfl | rfl<;>rfl)
theorem OL.Ei (w:World):OL (w.alloc (.cells #[] 37)) w.heap.size (.slice (some ⟨w.heap.size,0,none⟩) 0 0) []:=
 ⟨rfl,.inr ⟨_,0,0,#[],rfl,bZ _,aA w _,bZ _,by unfold maxLen;omega,by simp,rfl⟩⟩
theorem OL.len {w:World} {B:Nat} {A:Option Addr} {n c:Nat} {l:List OV} (h:OL w B (.slice A n c) l):n=l.length:=by
 obtain⟨A',c',e,_⟩:=ah.form h
 injection e
theorem y7 {B:Nat} {a W w':World} {v:Value} {l:List OV} (h:Below B a W) (hB:B≤W.heap.size) (hown:OL W B v l) (hg:W.grownBy w' v.ownBlock):Below B a w':=h.grown hg hB fun k hk=>(ah.lt hown k hk).1
theorem OfR (h:RV w Z gs gl av ev xs ys M) (hl:xs.length≤100000) (kind:Int) (space:ByteArray) (p:aC→Bool) (hp:∀o,p o=decide ((o.kind:Int)=kind∧o.space=space)):
  Cl 74 #[pt gs,.int .i64 kind,.string space] w fun e w'=>∃A c,e=.returned (.slice A ((M.tab.map fun x=>x.2).filter p).length c)∧Bw w w':=by
 obtain⟨A,c,-,c1,hcell⟩:=h.row
 have B0:=Hj fun o=>(aj w.heap.size w).alloc Kv o
 have K1:∀o,(w.alloc o).cell? ⟨gs,1,none⟩=some (.slice A xs.length c):=fun o=>Kz (B0.out o) _ _ c1
 have HC:=Hj hcell
 have HM:=Hj h.allM
 have HO:Hid (∀x∈xs,x.1.kind=(x.2.kind:Int)∧x.1.space=x.2.space):=Hj fun x hx=>⟨(h.each x hx).kind,(h.each x hx).space⟩
 have HLn:=Hj hl
 have HP:=Hj hp
 obtain⟨cn,hcn⟩:∃cn:Nat→Nat,cn=fun i=>((xs.take i).filter fun x=>p x.2).length:=⟨_,rfl⟩
 have HN:Hid (cn 0=0∧cn xs.length=((M.tab.map fun x=>x.2).filter p).length∧(∀i,cn i≤i)∧∀i x,xs[i]?=some x→cn (i+1)=cn i+(if p x.2=true then 1 else 0)):=Hj (by
  refine⟨by rw[hcn];rfl,by rw[hcn,h.allM,List.filter_map,aX];simp only[List.take_length];rfl,fun i=>by rw[hcn];exact Cz (kZ _ _) (by rw[eu];omega),fun i x hx=> ?_⟩
  obtain⟨hi,e⟩:=fA.1 hx
  rw[hcn]
  simp only
  rw[mO hi,List.filter_append,bP,e,List.filter_cons]
  split<;>simp_all)
 clear h c1 hcell hl hcn hp
 go_enter Tryz.func74,Tryz.ntmps74
 go_wp2
 clear K1
 go_loopg [7,16] xs.length (fun k s7 s16 wr=>∃(i:Nat) (A:Option Addr) (n c:Nat) (l:List OV),s16=.int .i64 (i:Int)∧i+k=xs.length∧s7=.slice A n c∧n=cn i∧OL wr w.heap.size (.slice A n c) l∧Bw w wr)
 case atStart=>exact⟨0,_,_,_,[],rfl,by omega,rfl,HN.out.1.symm,OL.Ei w,B0.out _⟩
 case round=>
  obtain⟨i,A',n,c',l,rfl,hi,rfl,hn,hown,hbel⟩:=hrel
  have HI:=Hj hi
  have Hn:=Hj hn
  have xU:=Hj hown
  have jD:=Hj hbel
  clear hown hbel hn
  by_cases hlt:i<xs.length
  ·obtain ⟨b,o,rfl,hc⟩:=HC.out (by omega)
   obtain⟨x,hx⟩:∃x,xs[i]?=some x:=⟨_,fJ hlt⟩
   obtain⟨d0,d1,d2,d3,d4⟩:=hc i x hx
   have kk:=Kz jD.out
   replace d0:=kk _ _ d0
   replace d1:=kk _ _ d1
   replace d2:=kk _ _ d2
   replace d3:=kk _ _ d3
   replace d4:=kk _ _ d4
   obtain⟨e1,e2⟩:=HO.out x (gJ hx)
   have k0:(0:Int)≤(i:Int):=by omega
   have k1:(i:Int)<(xs.length:Int):=by omega
   have k2:(i:Int)≤100000:=by have:=HLn.out;omega
   have HT:Hid (i+gk=xs.length∧i<xs.length∧xs.length≤100000):=Hj ⟨hi,hlt,HLn.out⟩
   have HS:Hid (cn (i+1)=n+(if p x.2=true then 1 else 0)∧n≤100000):=Hj ⟨by rw[HN.out.2.2.2 i x hx,Hn.out],by have:=HN.out.2.2.1 i;have:=Hn.out;have:=HLn.out;omega⟩
   by_cases hp1:(x.2.kind:Int)=kind∧x.2.space=space
   ·have hk:=hp1.1
    have hsp:x.2.space.toList=space.toList:=by rw[hp1.2]
    have HPx:Hid (p x.2=true):=Hj (by rw[HP.out];exact aZ hp1)
    clear hc kk hi hlt hx hp1
    go_wp2_with (first
     | (at_builtin;(refine je rfl (.tmp 30) (.tmp 32) (by rfl) ((xU.out.below ((aj _ _).alloc Kv _)).below ((aj _ _).alloc Kv _)) (by rfl) (uz (v:=⟨kind,x.2.space,x.1.name,x.1.ver,x.1.A,x.1.n,x.1.c⟩) (q:=wr.heap.size+1) (aP wr _ _).2.1) (by rfl) (by have:=HS.out.2;have:=xU.out.len;omega) (by have:=jD.out.size;simp;omega) ?_;intro v7 w7 aU cu;obtain⟨A7,c7,e7,-,-⟩:=ah.form aU;rw[bP,←xU.out.len] at e7;have e7:v7=.slice A7 (n+1) c7:=e7;subst e7;have O7:=Hj aU;have B7:=Hj (y7 ((jD.out.alloc jD.out.size _).alloc (by have:=jD.out.size;simp;omega) _) (by have:=jD.out.size;simp;omega) ((xU.out.below ((aj _ _).alloc Kv _)).below ((aj _ _).alloc Kv _)) cu);clear aU cu))
     | fail)
    go_roundg (gk-1)
    case measure=>have:=HT.out;omega
    case rel=>exact⟨i+1,A7,n+1,c7,_,by go_num,by have:=HT.out;omega,rfl,by rw[HS.out.1,aF HPx.out],O7.out,B7.out⟩
   ·have HPx:Hid (p x.2=false):=Hj (by rw[HP.out];exact aQ hp1)
    have HR:Hid (∃o,Bw w (wr.alloc o)):=Hj ⟨.cells #[] 3,jD.out.alloc jD.out.size _⟩
    clear hc kk hi hlt hx
    by_cases hk:(x.2.kind:Int)=kind
    ·have hsp:(x.2.space.toList==space.toList)=false:=by
      rw[gQ]
      exact fun e=>hp1 ⟨hk,lY e⟩
     clear hp1
     go_wp2
     go_roundg (gk-1)
     case measure=>have:=HT.out;omega
     case rel=>exact⟨i+1,A',n,c',_,by go_num,by have:=HT.out;omega,rfl,by rw[HS.out.1,aG (by rw[HPx.out];decide)];rfl,xU.out.below ((aj _ _).alloc Kv _),jD.out.alloc jD.out.size _⟩
    ·clear hp1
     go_wp2
     go_roundg (gk-1)
     case measure=>have:=HT.out;omega
     case rel=>exact⟨i+1,A',n,c',_,by go_num,by have:=HT.out;omega,rfl,by rw[HS.out.1,aG (by rw[HPx.out];decide)];rfl,xU.out.below ((aj _ _).alloc Kv _),jD.out.alloc jD.out.size _⟩
  ·have hge:i=xs.length:=by omega
   clear hlt hi
   have HG:Hid (n=((M.tab.map fun x=>x.2).filter p).length):=Hj (by rw[Hn.out,hge];exact HN.out.2.1)
   have k1:¬(i:Int)<(xs.length:Int):=by omega
   clear hge
   go_wp2
   go_ret
   exact⟨⟨A',c',by rw[←HG.out];rfl⟩,jD.out⟩
end
end Go.Proofs.YtdhbpajamlfacaaGreatDoor
