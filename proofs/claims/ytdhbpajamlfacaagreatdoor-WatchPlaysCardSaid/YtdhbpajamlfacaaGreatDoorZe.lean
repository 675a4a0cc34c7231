/- Layer 21 (watch), the document's: Sync, anew. -/
import Derived.Test.YtdhbpajamlfacaaGreatDoorZd
set_option maxHeartbeats 8000000
set_option maxRecDepth 100000
namespace Go.Proofs.YtdhbpajamlfacaaGreatDoor
open Go.RowKit SO
def yA (kind:Int) (space:ByteArray) (all:Bool) (l:List (OV×aC)) (x:OV×aC):List (OV×aC):=if iW kind space all x.1=true then wi pk x l else l
/-- It is there no more. -/
def yG (M:bQ) (x:OV×aC):Bool:=(getM M x.1.kind x.1.space x.1.name).isNone
section
variable {kind:Int} {space:ByteArray} {all:Bool}
theorem J7:∀(l K:List (OV×aC)),(l.foldl (yA kind space all) K).length≤K.length+l.length
 | [],K=>bZ _
 | y::l,K=>by
  have h1:=J7 l (yA kind space all K y)
  have h2:(yA kind space all K y).length≤K.length+1:=by
   unfold yA
   split
   ·exact Df _ _ _
   ·omega
  rw[lC,qV]
  omega
theorem TW:∀(l K:List (OV×aC)),∀x∈l.foldl (yA kind space all) K,x∈K∨x∈l
 | [],K,x,h=>.inl h
 | y::l,K,x,h=>by
  rcases TW l _ x h with h | h
  ·unfold yA at h
   split at h
   ·rcases vT h with h | h
    ·exact .inr (by simp[h])
    ·exact .inl h
   ·exact .inl h
  ·exact .inr (gK _ h)
end
section
variable {w:World} {Z':Nat→Prop} {gs gl gy cur:Nat} {av ev kv:Value} {xs:List (OV×aC)} {ys:List (Bool×(OV×aC))} {M:bQ} {kind:Int} {space:ByteArray} {all:Bool} {ko:List (OV×aC)}
theorem ZL (h:RV w Z' gs gl av ev xs ys M) (hgz:¬Z' gy) (hok:M.Ok) (hr:vU w gy kind space all kv cur) (hk:OL w 0 kv (ko.map Prod.fst)) (hc:cur<M.base) (hxl:xs.length≤1000) (hkl:ko.length≤1000) (hs:∀x∈xs,zZ x.1):
  Cl 19 #[pt gy,pt gs] w fun e w'=>∃pv dv,e=.returned (.tuple #[.agg #[.bool true,pv,dv],.int .i64 0])∧vU w' gy kind space all pv M.rev∧OL w' 0 pv ((xs.foldl (yA kind space all) []).map Prod.fst)∧OL w' w.heap.size pv ((xs.foldl (yA kind space all) []).map Prod.fst)∧OL w' w.heap.size dv ((ko.filter (yG M)).map Prod.fst)∧Fr (fun k=>k=gy) w w':=by
 obtain⟨Av,cv,hav,hc1,hcell⟩:=h.row
 obtain⟨Ak,ck,hkv,-,-⟩:=ah.form hk
 rw[aX] at hkv
 subst hkv
 have hle:=hok.le
 have hne:gs≠gy:=fun e=>absurd (ak (by rw[←e];exact h.cells) hr) (by decide)
 have HRV:Hid (∀W,Fr (fun k=>k=gy) w W→RV W Z' gs gl av ev xs ys M):=Hj fun W hW=>h.fr hW fun k hk e=>hgz (by rw[←e];exact hk)
 have KC:Hid (∀W,Fr (fun k=>k=gy) w W→W.cell? ⟨gs,1,none⟩=some (.slice Av xs.length cv)∧W.cell? ⟨gs,2,none⟩=some (.int .i64 (M.rev:Int))∧W.cell? ⟨gs,3,none⟩=some (.int .i64 (M.base:Int))):=Hj fun W hW=>by
  have hr':=(HRV.out W hW).cells
  rw[hav] at hr'
  exact⟨Kq 1 hr',Kq 2 hr',Kq 3 hr'⟩
 obtain⟨w1,hw1⟩:∃W,W=w.alloc (.cells #[.bool false,.slice none 0 0,.slice none 0 0] 59):=⟨_,rfl⟩
 have hb1:Bw w w1:=by rw[hw1];exact(aj _ _).alloc Kv _
 have KY:Hid (∀W,Bw w W→W.cell? ⟨gy,4,none⟩=some (.int .i64 (cur:Int))):=Hj fun W hW=>Kz hW _ _ (Kq 4 hr)
 have c4:=KY.out w1 hb1
 obtain⟨c1,c2',c3⟩:=KC.out w1 (Fr.of_below hb1)
 have q1:¬(M.rev:Int)<(cur:Int):=by omega
 have q2:(cur:Int)<(M.base:Int):=by omega
 have hz2:∀n,((w1.drewN n).alloc (.cells #[.bool false,.slice none 0 0,.slice none 0 0] 59)).heap[w1.heap.size]?=some (.cells #[.bool false,.slice none 0 0,.slice none 0 0] 59 (0,0)):=fun n=>by simpa using aA (w1.drewN n) (.cells #[.bool false,.slice none 0 0,.slice none 0 0] 59)
 have z0:=fun n=>Kq 0 (hz2 n)
 have z1:=fun n=>Kq 1 (hz2 n)
 have z2:=fun n=>Kq 2 (hz2 n)
 have zf:=fun n j=>kH _ _ j _ _ (hz2 n)
 have HZ2:=Hj hz2
 have HW1:=Hj (aB hw1 hr)
 have HB1:=Hj hb1
 have HK0:=Hj hk
 have HC:=Hj hcell
 have KI:=Hj hok
 have HN:Hid (xs.length≤1000∧ko.length≤1000):=Hj ⟨hxl,hkl⟩
 have PI:=Hj hs
 clear hw1 hb1 hz2 hk hs h hok hr hc hxl hkl hcell hc1 hav hle hgz hne
 go_enter Tryz.func19,Tryz.ntmps19
 go_wp2
 rw[←HW1.out.1]
 go_quiet (fail)
 go_wp2
 obtain⟨w2,hw2⟩:∃W,W=((((w1.drewN nq).alloc (.cells #[.bool false,.slice none 0 0,.slice none 0 0] 59)).setCell ⟨w1.heap.size,0,none⟩ (.bool false)).setCell ⟨w1.heap.size,1,none⟩ (.slice none 0 0)).setCell ⟨w1.heap.size,2,none⟩ (.slice none 0 0):=⟨_,rfl⟩
 have R2:Hid (w2.heap[w1.heap.size]?=some (.cells #[.bool false,.slice none 0 0,.slice none 0 0] 59 (0,0))):=Hj (by rw[hw2];exact st3 (HZ2.out nq))
 have Bc:Hid (Bw w1 w2):=Hj (by rw[hw2];exact((((below_drewN (aj _ w1) nq).alloc (by simp) _).setCell (p:=⟨w1.heap.size,0,none⟩) Kv _).setCell (p:=⟨w1.heap.size,1,none⟩) Kv _).setCell (p:=⟨w1.heap.size,2,none⟩) Kv _)
 rw[←hw2]
 clear hw2 z0 z1 z2 zf
 have hb2:=HB1.out.trans (Bc.out.mono HB1.out.size)
 have c4:=KY.out w2 hb2
 obtain⟨c1,c2',c3⟩:=KC.out w2 (Fr.of_below hb2)
 go_quiet (fail)
 obtain⟨w3,hw3⟩:∃W,W=w2.drewN nq:=⟨_,rfl⟩
 have OM:Hid (Bw w1 w3):=Hj (by rw[hw3];exact below_drewN Bc.out nq)
 have R3:Hid (w3.heap[w1.heap.size]?=some (.cells #[.bool false,.slice none 0 0,.slice none 0 0] 59 (0,0))):=Hj (by rw[hw3];simpa using R2.out)
 rw[←hw3]
 clear hw3 hb2
 have z0:=Kq 0 R3.out
 have zf:=fun j=>kH _ _ j _ _ R3.out
 obtain⟨w4,hw4⟩:∃W,W=w3.setCell ⟨w1.heap.size,0,none⟩ (.bool true):=⟨_,rfl⟩
 have hb4:Bw w1 w4:=by rw[hw4];exact OM.out.setCell (p:=⟨w1.heap.size,0,none⟩) Kv _
 have hr4:w4.heap[w1.heap.size]?=some (.cells #[.bool true,.slice none 0 0,.slice none 0 0] 59 (0,0)):=by rw[hw4];exact aI _ _ 0 _ _ _ R3.out
 have HY4:Hid (YI w1 w4 gy w1.heap.size kind space all cur true (.slice Ak ko.length ck) (.slice none 0 0) (.slice none 0 0) ko [] []):=Hj (by
  have hb:=HB1.out.trans (hb4.mono HB1.out.size)
  exact⟨(hb.block gy (Cq HW1.out.2)).trans HW1.out.2,hr4,HK0.out.below hb,OL.nil _ _,OL.nil _ _,fun k hk=>(by cases hk),fun k hk=>(by cases hk),fun k hk=>(by cases hk),Fr.of_below hb4,bZ _⟩)
 obtain⟨c1,c2',c3⟩:=KC.out w4 ((Fr.of_below HB1.out).trans HY4.out.fr fun _ _ x=>x)
 rw[hw4] at c1
 clear hr4 hb4 R2 R3 Bc HK0
 go_wp2
 rw[←hw4]
 clear hw4 z0 zf c1 c2' c3
 generalize decide (M.rev<cur)=b1
 go_loopg [39] xs.length (fun k s39 wr=>∃(i:Nat) (pv:Value),s39=.int .i64 (i:Int)∧i+k=xs.length∧YI w1 wr gy w1.heap.size kind space all cur true (.slice Ak ko.length ck) pv (.slice none 0 0) ko ((xs.take i).foldl (yA kind space all) []) [])
 case atStart=>exact⟨0,_,rfl,by omega,HY4.out⟩
 case round=>
  obtain⟨i,pv,rfl,hi,hY⟩:=hrel
  have HY:=Hj hY
  clear hY HY4
  by_cases hlt:i<xs.length
  ·obtain ⟨x,hx⟩:∃x,xs[i]?=some x:=⟨_,fJ hlt⟩
   obtain⟨b,o,hAv,hcx⟩:=HC.out (by omega)
   subst hAv
   obtain⟨d0,d1,d2,d3,d4⟩:=hcx i x hx
   obtain⟨u,ob⟩:=x
   dsimp only at d0 d1 d2 d3 d4
   have hbl:b<w.heap.size∧b≠gy:=by
    have hr:=(HRV.out w (Fr.refl _ _)).all
    obtain⟨A',c',e,-,-⟩:=ah.form hr
    obtain⟨A2,c2,e2,h2,-⟩:=(HRV.out w (Fr.refl _ _)).row
    have hl:=iP w _ d0
    refine⟨hl,fun e'=> ?_⟩
    have c1:=(KC.out w (Fr.refl _ _)).1
    rw[h2] at c1
    injection c1 with c1
    injection c1 with c1 _ _
    subst c1
    obtain⟨_,hc'⟩:=au hr (k:=b) (by rw[e2];rfl)
    rw[e'] at hc'
    exact absurd (ak hc' HW1.out.2) (by decide)
   have hwr:Fr (fun k=>k=gy) w wr:=(Fr.of_below HB1.out).trans HY.out.fr fun _ _ x=>x
   have hce:∀j v,w.cell? ⟨b,j,none⟩=some v→wr.cell? ⟨b,j,none⟩=some v:=fun j v hv=>(hwr.cell (p:=⟨b,j,none⟩) hbl.1 hbl.2).trans hv
   replace d0:=hce _ _ d0
   replace d1:=hce _ _ d1
   replace d2:=hce _ _ d2
   replace d3:=hce _ _ d3
   replace d4:=hce _ _ d4
   obtain⟨P0,hP0⟩:∃K,K=(xs.take i).foldl (yA kind space all) []:=⟨_,rfl⟩
   have Pz:Hid ((xs.take (i+1)).foldl (yA kind space all) []=yA kind space all P0 (u,ob)):=Hj (by rw[jq hx,List.foldl_append,←hP0];rfl)
   have HSu:Hid (zZ u):=Hj (PI.out (u,ob) (gJ hx))
   have HSP:Hid (∀x∈P0.map Prod.fst,zZ x):=Hj fun x hx=>by
    obtain⟨z,hz,rfl⟩:=bW.1 hx
    rw[hP0] at hz
    rcases TW _ _ z hz with h | h
    ·cases h
    ·exact PI.out z (List.mem_of_mem_take h)
   obtain⟨Ap,cp,e2,-,-⟩:=ah.form HY.out.put
   rw[←hP0] at HY e2
   obtain⟨np,hnp⟩:∃n,n=(P0.map Prod.fst).length:=⟨_,rfl⟩
   rw[←hnp] at e2
   have HNp:Hid (np=(P0.map Prod.fst).length∧(P0.map Prod.fst).length≤100000):=Hj ⟨hnp,by
    have h1:=J7 (kind:=kind) (space:=space) (all:=all) (xs.take i) []
    have:=HN.out.1
    simp only[List.length_map,hP0,List.length_nil,List.length_take] at*
    omega⟩
   subst e2
   have k0:(0:Int)≤(i:Int):=by omega
   have k1:(i:Int)<(xs.length:Int):=by omega
   have k2:(i:Int)≤1000:=by have:=HN.out;omega
   have HT:Hid (i+gk=xs.length∧i<xs.length):=Hj ⟨hi,hlt⟩
   clear hi hlt hx hP0 hnp hcx hbl hwr hce
   obtain⟨wa,q,oh,hq⟩:∃(wa:World) (q:Nat),wa=wr.alloc (.cells (ov u) 37)∧q=wr.heap.size:=⟨_,_,rfl,rfl⟩
   have hba:Bw wr wa:=by rw[oh];exact(aj _ wr).alloc Kv _
   have hra:wa.heap[q]?=some (.cells (ov u) 37 (0,0)):=by rw[oh,hq];exact aA wr _
   have HYa:=Hj (HY.out.below hba)
   have HQ:Hid (∀W,Bw wa W→VB W q u):=Hj fun W hW=>VB.aK ((hW.block q (Cq hra)).trans hra)
   have JX:Hid (Cl 50 #[pt gy,.agg (ov u)] wa fun e w'=>e=.returned (.bool (iW kind space all u))∧Bw wa w'):=Hj (Dc HYa.out.row u)
   obtain⟨x0,x1,x2,x3,x4⟩:=HQ.out wa (aj _ _)
   have hfb:iW kind space all u=false∨iW kind space all u=true:=by cases iW kind space all u<;>simp
   have PK:=Hj (aB oh hq)
   clear hba hra oh hq
   rcases hfb with hfb | hfb
   all_goals
    rw[hfb] at JX
    have WB:=Hj hfb
    clear hfb
    go_wp2_with (first
     | (go_at_call 50;rw[←PK.out.1,←PK.out.2];((refine JX.out.mono ?_);rintro e w5 ⟨rfl,hb5⟩;have J6:=Hj (HYa.out.below hb5);obtain⟨x0,x1,x2,x3,x4⟩:=HQ.out w5 hb5;have r1:w5.cell? ⟨w1.heap.size,1,none⟩=some (.slice Ap np cp):=Kq 1 J6.out.rep;have HW5:Hid (Cl 51 #[.slice Ap np cp,.agg (ov u)] w5 _):=Hj (by
        have hkn:=J6.out.put
        rw[HNp.out.1] at hkn ⊢
        exact TT (v:=u) (hkn.mono fun _ _=>bU _) HNp.out.2 HSP.out HSu.out);clear hb5))
     | (go_at_call 51;((refine HW5.out.mono ?_);rintro e w6 ⟨A6,c6,rfl,pW,hb6⟩;obtain⟨n6,NK⟩:∃n,n=(wi ig u (P0.map Prod.fst)).length:=⟨_,rfl⟩;rw[←NK] at pW ⊢;have Xo:=(J6.out.below hb6).rep;have f3:w6.frozen? ⟨w1.heap.size,1,none⟩=false:=Kj Xo;have c3:w6.cell? ⟨w1.heap.size,1,none⟩=some (.slice Ap np cp):=Kq 1 Xo;have Ir:=Hj (J6.out.setP (pv':=.slice A6 n6 c6) (po':=wi pk (u,ob) P0) hb6 (by rw[←EF pk ig Prod.fst (u,ob) P0 (fun _ _=>rfl) rfl];exact pW));clear pW hb6 Xo NK))
     | fail)
    go_roundg (gk-1)
    case measure=>have:=HT.out;omega
    case rel=>exact⟨i+1,_,by go_num,by have:=HT.out;omega,by
     rw[Pz.out]
     unfold yA
     simp only[WB.out,Bool.false_eq_true,if_true,if_false]
     first
     | exact Ir.out
     | exact J6.out⟩
  ·obtain rfl:i=xs.length:=by omega
   have k1:¬(xs.length:Int)<(xs.length:Int):=by omega
   rw[List.take_length] at HY
   obtain⟨PF,hPF⟩:∃K,K=xs.foldl (yA kind space all) []:=⟨_,rfl⟩
   rw[←hPF] at HY
   have HPF:=Hj hPF
   have y3:wr.cell? ⟨gy,3,none⟩=some (.slice Ak ko.length ck):=Kq 3 HY.out.row
   clear hlt hi hPF
   go_wp2
   go_loopg [57] ko.length (fun k s57 W=>∃(j:Nat) (dv:Value),s57=.int .i64 (j:Int)∧j+k=ko.length∧YI w1 W gy w1.heap.size kind space all cur true (.slice Ak ko.length ck) pv dv ko PF ((ko.take j).filter (yG M)))
   case atStart=>exact⟨0,_,rfl,by omega,HY.out⟩
   case round=>
    obtain⟨j,dv,rfl,hj,hY⟩:=hrel
    have HZ:=Hj hY
    clear hY HY
    by_cases hlt:j<ko.length
    ·obtain ⟨x,hx⟩:∃x,ko[j]?=some x:=⟨_,fJ hlt⟩
     have hkn:OL wr 0 (.slice Ak (ko.map Prod.fst).length ck) (ko.map Prod.fst):=by rw[aX];exact HZ.out.kn
     obtain⟨b,o,rfl,d0,d1,d2,d3,d4⟩:=MI (i:=j) (x:=x.1) hkn (by rw[dK,hx];rfl)
     obtain⟨u,ob⟩:=x
     dsimp only at d0 d1 d2 d3 d4
     obtain⟨D0,hD0⟩:∃K,K=(ko.take j).filter (yG M):=⟨_,rfl⟩
     have hN2:(ko.take (j+1)).filter (yG M)=D0++(if yG M (u,ob)=true then [(u,ob)] else []):=by
      rw[jq hx,List.filter_append,←hD0,List.filter_cons]
      rfl
     obtain⟨Ad,cd,e3,-,-⟩:=ah.form HZ.out.del
     rw[←hD0] at HZ e3
     obtain⟨nd,hnd⟩:∃n,n=(D0.map Prod.fst).length:=⟨_,rfl⟩
     rw[←hnd] at e3
     have HNd:Hid (nd≤100000):=Hj (by
      have h1:((ko.take j).filter (yG M)).length≤(ko.take j).length:=kZ _ _
      have:=HN.out.2
      rw[hnd,aX,hD0]
      rw[eu] at h1
      omega)
     subst e3
     have k0:(0:Int)≤(j:Int):=by omega
     have k1:(j:Int)<(ko.length:Int):=by omega
     have k2:(j:Int)≤1000:=by have:=HN.out;omega
     have HT:Hid (j+gk=ko.length∧j<ko.length):=Hj ⟨hj,hlt⟩
     obtain⟨wa,q,oh,hq⟩:∃(wa:World) (q:Nat),wa=wr.alloc (.cells (ov u) 37)∧q=wr.heap.size:=⟨_,_,rfl,rfl⟩
     have hba:Bw wr wa:=by rw[oh];exact(aj _ wr).alloc Kv _
     have hra:wa.heap[q]?=some (.cells (ov u) 37 (0,0)):=by rw[oh,hq];exact aA wr _
     have HZa:=Hj (HZ.out.below hba)
     have HQ:Hid (∀W,Bw wa W→VB W q u):=Hj fun W hW=>VB.aK ((hW.block q (Cq hra)).trans hra)
     have hFd:=Gt (HRV.out wa ((Fr.of_below HB1.out).trans HZa.out.fr fun _ _ x=>x)) (by have:=HN.out.1;omega) u
     have hcase:(yG M (u,ob)=true∧Cl 29 #[pt gs,.agg (ov u)] wa fun e w'=>e=.returned (.int .i64 (-1))∧Bw wa w')∨(yG M (u,ob)=false∧Cl 29 #[pt gs,.agg (ov u)] wa fun e w'=>∃k:Nat,e=.returned (.int .i64 (k:Int))∧Bw wa w'):=by
      unfold yG
      cases hg:getM M u.kind u.space u.name with
      | none=>
       refine .inl ⟨rfl,hFd.mono ?_⟩
       rintro e w' ⟨r,rfl,hf,hb⟩
       rcases oP KI.out hf with ⟨rfl,-⟩ | ⟨i,o,-,-,h,-⟩
       ·exact ⟨rfl,hb⟩
       ·rw [hg] at h;cases h
      | some o=>
       refine .inr ⟨rfl,hFd.mono ?_⟩
       rintro e w' ⟨r,rfl,hf,hb⟩
       rcases oP KI.out hf with ⟨-,h⟩ | ⟨i,o,rfl,-,-,-⟩
       ·rw [hg] at h;cases h
       ·exact ⟨i,rfl,hb⟩
     obtain⟨x0,x1,x2,x3,x4⟩:=HQ.out wa (aj _ _)
     have PK:=Hj (aB oh hq)
     clear hba hra oh hq hx hkn hD0 hnd hFd hj hlt
     rcases hcase with ⟨hg,hc⟩ | ⟨hg,hc⟩
     all_goals
      rw[hg] at hN2
      have Pz:=Hj hN2
      have HC:=Hj hc
      clear hN2 hg hc
      go_wp2_with (first
       | (go_at_call 29;rw[←PK.out.1,←PK.out.2];((refine HC.out.mono ?_);first
          | (rintro e w5 ⟨rfl,hb5⟩;have UC:=Hj (HZa.out.below hb5);obtain⟨x0,x1,x2,x3,x4⟩:=HQ.out w5 hb5;have r2:w5.cell? ⟨w1.heap.size,2,none⟩=some (.slice Ad nd cd):=Kq 2 UC.out.rep;clear hb5)
          | (rintro e w5 ⟨kk,rfl,hb5⟩;have UC:=Hj (HZa.out.below hb5);have kp:¬(kk:Int)<0:=(by omega);clear hb5)))
       | (at_builtin;(refine pz rfl (.tmp 66) (.tmp 68) rfl UC.out.del rfl u rfl (by have:=HNd.out;omega) (Cz UC.out.up (Nat.le_of_lt (Cq UC.out.rep))) ?_;intro A8 c8 w8 hown hb hf hat;have wI:=(UC.out.push 2 (u,ob) (.inr ⟨rfl,rfl⟩) hown hf hat).2.1;have e8:w8.cell? ⟨w1.heap.size,2,none⟩=some _:=Kq 2 wI;have f8:w8.frozen? ⟨w1.heap.size,2,none⟩=false:=Kj wI;have HZ8:=Hj (UC.out.MB (u,ob) hown hf hat);clear hown hb hf hat wI))
       | fail)
      go_roundg (gk-1)
      case measure=>have:=HT.out;omega
      case rel=>first
       | exact⟨j+1,_,by go_num,by have:=HT.out;omega,by rw[Pz.out];exact HZ8.out⟩
       | exact⟨j+1,_,by go_num,by have:=HT.out;omega,by rw[Pz.out];simpa using UC.out⟩
    ·obtain rfl:j=ko.length:=by omega
     have k1:¬(ko.length:Int)<(ko.length:Int):=by omega
     rw[List.take_length] at HZ
     obtain⟨Ap,np,cp,e2⟩:∃A n c,pv=.slice A n c:=let ⟨A,c,e,_⟩:=ah.form HZ.out.put;⟨A,_,c,e⟩
     obtain⟨Ad,nd,cd,e3⟩:∃A n c,dv=.slice A n c:=let ⟨A,c,e,_⟩:=ah.form HZ.out.del;⟨A,_,c,e⟩
     subst e2
     subst e3
     have hgl:=(Cq HW1.out.2)
     have hZr:wr.heap[w.heap.size]?=some (.cells #[.bool false,.slice none 0 0,.slice none 0 0] 59 (0,0)):=(HZ.out.fr.block w.heap.size (by rw[HW1.out.1];simp) fun e=>by omega).trans (by rw[HW1.out.1];exact aA w _)
     obtain⟨W1,hW1⟩:∃W1,W1=wr.setCell ⟨gy,3,none⟩ (.slice Ap np cp):=⟨_,rfl⟩
     have hF:Fr (fun k=>k=gy) wr W1:=by rw[hW1];exact(Fr.refl (fun k=>k=gy) wr).setCell (p:=⟨gy,3,none⟩) (fun _=>rfl) _
     have WL:vU W1 gy kind space all (.slice Ap np cp) cur:=by rw[hW1];exact aI _ _ 3 _ _ _ HZ.out.row
     have hkeep:∀{b:Nat} {v:Value} {l:List OV},OL wr b v l→OL W1 b v l:=fun ho=>ah.kept ho hF fun k hk e=>by exact fH ho hk (by rw[e];exact HZ.out.row) (by decide)
     have CX:=(hF.block w.heap.size (Cq hZr) fun e=>by omega).trans hZr
     have hrr:=(hF.block w1.heap.size (Cq HZ.out.rep) fun e=>by have:=HB1.out.size;omega).trans HZ.out.rep
     have HE:=Hj (aB WL (aB (hkeep (ah.mono HZ.out.put fun _ _=>bU _)) (aB (hkeep HZ.out.put) (aB (hkeep HZ.out.del) (aB (HZ.out.fr.trans hF fun _ _ x=>x) CX)))))
     have hG:Fr (fun k=>k=gy) W1 (W1.setCell ⟨gy,4,none⟩ (.int .i64 (M.rev:Int))):=(Fr.refl (fun k=>k=gy) W1).setCell (p:=⟨gy,4,none⟩) (fun _=>rfl) _
     have TY:=(hG.block w.heap.size (Cq CX) fun e=>by omega).trans CX
     have WM:=(hG.block w1.heap.size (Cq hrr) fun e=>by have:=HB1.out.size;omega).trans hrr
     have r1:wr.cell? ⟨w1.heap.size,1,none⟩=some (.slice Ap np cp):=Kq 1 HZ.out.rep
     have g3:wr.cell? ⟨gy,3,none⟩=some _:=Kq 3 HZ.out.row
     have g3f:wr.frozen? ⟨gy,3,none⟩=false:=Kj HZ.out.row
     have g4:W1.cell? ⟨gy,4,none⟩=some (.int .i64 (cur:Int)):=Kq 4 WL
     have g4f:W1.frozen? ⟨gy,4,none⟩=false:=Kj WL
     have c2:W1.cell? ⟨gs,2,none⟩=some (.int .i64 (M.rev:Int)):=(KC.out W1 (((Fr.of_below HB1.out).trans HZ.out.fr fun _ _ x=>x).trans hF fun _ _ x=>x)).2.1
     have r0':=Kq 0 WM
     have r1':=Kq 1 WM
     have r2':=Kq 2 WM
     have z0:=Kq 0 TY
     have z1:=Kq 1 TY
     have z2:=Kq 2 TY
     have zf:=fun j=>kH _ _ j _ _ TY
     rw[hW1] at g4 g4f c2 r0' r1' r2' z0 z1 z2 zf
     have HW2:=Hj hW1
     clear hj hlt hgl hZr hF WL CX hrr hG TY WM hW1
     go_wp2
     obtain⟨wf,hwf⟩:∃wr,wr=(((W1.setCell ⟨gy,4,none⟩ (.int .i64 (M.rev:Int))).setCell ⟨w.heap.size,0,none⟩ (.bool true)).setCell ⟨w.heap.size,1,none⟩ (.slice Ap np cp)).setCell ⟨w.heap.size,2,none⟩ (.slice Ad nd cd):=⟨_,rfl⟩
     obtain⟨h1,h2,h3,h4,h5,h6⟩:=X0 (rev:=M.rev) (po:=PF) HE.out.1 HE.out.2.1 HE.out.2.2.1 HE.out.2.2.2.1 HE.out.2.2.2.2.1 HE.out.2.2.2.2.2 (by rw[HW1.out.1];simp) HB1.out Kv wf hwf
     rw[←HW2.out,←hwf]
     exact bg (dn _ rfl rfl h5 Tryz.underlying59 zO) rfl ⟨_,_,rfl,h1,by rw[←HPF.out];exact h2,by rw[←HPF.out];exact h3,h4,h6⟩
end
end Go.Proofs.YtdhbpajamlfacaaGreatDoor
