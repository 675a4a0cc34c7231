/- The document's store (layer 20): put. -/
import Derived.Test.YtdhbpajamlfacaaGreatDoorRn
set_option maxHeartbeats 8000000
set_option maxRecDepth 100000
namespace Go.Proofs.YtdhbpajamlfacaaGreatDoor
open Go.RowKit SO
/-- The rows as a table. -/
def Ej (xs:List (OV×aC)):List (ByteArray×(OV×aC)):=xs.map fun x=>(aW x.2,x)
/-- The rows behind a put. -/
def ru (xs:List (OV×aC)) (v:OV) (o:aC):List (OV×aC):=(ins aS (aW o) (v,o) (Ej xs)).map fun e=>e.2
/-- The rows that a put's loop has made out of the first i. -/
def jU (xs:List (OV×aC)) (v:OV) (o:aC) (i:Nat) (d:Bool) (l:List (OV×aC)):Prop:=
 (d=false∧l=xs.take i∧∀x∈xs.take i,aS (aW x.2) (aW o)=true)∨(d=true∧l=ru (xs.take i) v o∧∃x∈xs.take i,aS (aW x.2) (aW o)=false)
section
variable {xs:List (OV×aC)} {v:OV} {o:aC} {i:Nat} {l:List (OV×aC)} {x:OV×aC}
theorem take_snoc (hx:xs[i]?=some x):xs.take (i+1)=xs.take i++[x]:=by
 obtain⟨hi,e⟩:=fA.1 hx
 rw[mO hi,e]
theorem Gx (ys:List (OV×aC)):Ej (ys++[x])=Ej ys++[(aW x.2,x)]:=by simp[Ej]
theorem LV (ys:List (OV×aC)):(Ej ys).map (fun e=>e.2)=ys:=by unfold Ej;rw[iH];exact List.map_id _
theorem jU.a (h:jU xs v o i false l) (hx:xs[i]?=some x) (hk:aS (aW x.2) (aW o)=true):jU xs v o (i+1) false (l++[x]):=by
 rcases h with ⟨-,rfl,h⟩ | ⟨h,-⟩
 ·refine .inl ⟨rfl,(take_snoc hx).symm,fun y hy=> ?_⟩
  rw[take_snoc hx] at hy
  rcases iO.1 hy with hy | hy
  ·exact h y hy
  ·rw [iq.1 hy];exact hk
 ·cases h
theorem jU.b (h:jU xs v o i false l) (hx:xs[i]?=some x) (hk:aS (aW x.2) (aW o)=false):jU xs v o (i+1) true (l++(v,o)::(if aS (aW o) (aW x.2)=true then [x] else [])):=by
 rcases h with ⟨-,rfl,h⟩ | ⟨h,-⟩
 ·refine .inr ⟨rfl,?_,x,by rw[take_snoc hx];simp,hk⟩
  unfold ru
  rw[take_snoc hx,Gx,Rx dh (fun e he=> ?_) hk,dI,LV]
  ·congr 1
   simp only[List.map_cons]
   split<;>rfl
  ·obtain ⟨y,hy,rfl⟩:=bW.1 he
   exact h y hy
 ·cases h
theorem jU.c (h:jU xs v o i true l) (hx:xs[i]?=some x) (hk:aS (aW o) (aW x.2)=true):jU xs v o (i+1) true (l++[x]):=by
 rcases h with ⟨h,-⟩ | ⟨-,rfl,y,hy,h⟩
 ·cases h
 ·refine .inr ⟨rfl,?_,y,by rw[take_snoc hx];simp[hy],h⟩
  unfold ru
  rw[take_snoc hx,Gx,Gy dh (x:=(aW x.2,x)) (l:=Ej (xs.take i)) ⟨(aW y.2,y),bW.2 ⟨y,hy,rfl⟩,h⟩ hk,dI]
  rfl
theorem jU.rise (h:jU xs v o i true l) (hr:aT aS (Ej xs)) (hx:xs[i]?=some x):aS (aW o) (aW x.2)=true:=by
 rcases h with ⟨h,-⟩ | ⟨-,-,y,hy,h⟩
 ·cases h
 ·have h2:aS (aW y.2) (aW x.2)=true:=by
   have hs:Ej xs=Ej (xs.take i)++Ej (xs.drop i):=by unfold Ej;rw[←dI,rE]
   unfold aT at hr
   rw[hs] at hr
   refine(List.pairwise_append.1 hr).2.2 _ (bW.2 ⟨y,hy,rfl⟩) (aW x.2,x) (bW.2 ⟨x,?_,rfl⟩)
   obtain⟨hi,e⟩:=fA.1 hx
   rw[←e]
   exact List.mem_drop_iff_getElem.2 ⟨0,by omega,by simp⟩
  cases hc:aS (aW o) (aW x.2) with
  | true=>rfl
  | false=>
   cases ho:aS (aW o) (aW y.2) with
   | true=>rw[dh.tr _ _ _ ho h2] at hc;cases hc
   | false=>rw[dh.tri _ _ h ho] at h2;rw[h2] at hc;cases hc
theorem jU.fin (h:jU xs v o xs.length true l):l=ru xs v o:=by
 rcases h with ⟨h,-⟩ | ⟨-,h,-⟩
 ·cases h
 ·rw [h,List.take_length]
theorem jU.fin0 (h:jU xs v o xs.length false l):l++[(v,o)]=ru xs v o:=by
 rcases h with ⟨-,rfl,h⟩ | ⟨h,-⟩
 ·rw [List.take_length] at h ⊢
  unfold ru
  rw[LW dh (fun e he=> ?_),dI,LV]
  ·rfl
  ·obtain ⟨y,hy,rfl⟩:=bW.1 he
   exact h y hy
 ·cases h
theorem LX {κ ν:Type} {lt:κ→κ→Bool} (k:κ) (v:ν):∀l:List (κ×ν),(ins lt k v l).length≤l.length+1
 | []=>by simp[ins]
 | e::l=>by
  have ih:=LX (lt:=lt) k v l
  unfold ins
  split
  ·simp
  ·split
   ·simp only[List.length_cons];omega
   ·simp
theorem Ry (ys:List (OV×aC)):(ru ys v o).length≤ys.length+1:=by
 unfold ru
 rw[aX]
 exact Cz (LX _ _ _) (by simp[Ej])
theorem jU.len {d:Bool} (h:jU xs v o i d l):l.length≤i+1:=by
 rcases h with ⟨-,rfl,-⟩ | ⟨-,rfl,-⟩
 ·rw [eu];omega
 ·exact Cz (Ry _) (by rw[eu];omega)
theorem VH {M:bQ} (h:M.tab.map (fun x=>x.2)=xs.map fun x=>x.2) (hk:∀x∈M.tab,x.1=aW x.2):M.tab=(Ej xs).map (fun e=>(e.1,e.2.2)):=by
 unfold Ej
 rw[iH]
 have e:∀l:List (ByteArray×aC),(∀x∈l,x.1=aW x.2)→l=(l.map fun x=>x.2).map fun y=>(aW y,y):=fun l hl=>by
  rw[iH]
  conv=>lhs;rw[←List.map_id l]
  exact List.map_congr_left fun x hx=>by have:=hl x hx;simp[←this]
 rw[e _ hk,h,iH]
 rfl
end
section
variable {w w':World} {Z X:Nat→Prop} {gs gl:Nat} {av ev:Value} {xs:List (OV×aC)} {ys:List (Bool×(OV×aC))} {M:bQ}
theorem Rz (v:OV) (o:aC) (h:v.kind=(o.kind:Int)∧v.space=o.space∧v.name=o.name) (ho:o.Ok) (w:World):
  Cl 126 #[.agg (ov v)] w fun e w'=>e=.returned (.string (aW o))∧Bw w w':=by
 obtain⟨p1,p2,p3,p4,p5⟩:=ho.parts
 have e:aW o=jr v.kind v.space v.name:=by rw[h.1,h.2.1,h.2.2];rfl
 rw[e]
 exact KeyR v o.kind w h.1 (by omega) (by rw[h.2.1];omega) (by rw[h.2.2];omega)
theorem y8 {ops:Array Oper} {rest:List Oper} {o:Oper} {a:Act} {w:World} {Q:Exit→Act→World→Prop} (hgd:o.guard=none) (s x:Operand)
  (ho:o.op=.call {callee:=.builtin .append,args:=#[s,x],argTypes:=#[41,41]})
  {base:Nat} {A:Option Addr} {n c:Nat} {l:List OV} (hown:OL w base (.slice A n c) l) (hs:a.eval s=.slice A n c) (u:OV) (hx:a.eval x=.slice (some ⟨w.heap.size,0,none⟩) 1 1) (hn:n≤1000000) (hbase:base≤w.heap.size)
  (h:∀A' c' w',OL w' base (.slice A' (n+1) c') (l++[u])→Below base w w'→Fr (fun k=>some k=(Value.slice A n c).ownBlock) w w'→wpList Tryz.prog ops Q rest (a.put o.dst (.slice A' (n+1) c')) w'):
  wpList Tryz.prog ops Q (o::rest) a (w.alloc (.cells (ov u) 37)):=by
 refine je hgd s x ho (hown.alloc _) hs (uz (v:=u) (aA w _)) hx (by have:=OL.len hown;omega) (by simp;omega) fun v' w' hown' hgr=> ?_
 obtain⟨A',c',e,-,-⟩:=ah.form hown'
 rw[bP,←OL.len hown] at e
 have e:v'=.slice A' (n+1) c':=e
 subst e
 exact h A' c' w' hown' (y7 ((aj _ w).alloc Kv _ |>.mono hbase) (by simp;omega) (hown.alloc _) hgr) (((Fr.refl _ w).alloc _).trans (Fr.bF hgr) fun _ _ x=>x)
theorem PutR (h:RV w Z gs gl av ev xs ys M) (hl:xs.length≤100000) (v:OV) (o:aC) (hv:v.kind=(o.kind:Int)∧v.space=o.space∧v.name=o.name) (ho:o.Ok) (hr:aT aS (Ej xs)) (hxo:∀x∈xs,x.2.Ok):
  Cl 130 #[pt gs,.agg (ov v)] w fun e w'=>e=.returned (.tuple #[])∧∃A c wm,w'=wm.setCell ⟨gs,1,none⟩ (.slice A (ru xs v o).length c)∧OL wm w.heap.size (.slice A (ru xs v o).length c) ((ru xs v o).map fun x=>x.1)∧Bw w wm:=by
 obtain⟨A,c,eav,c1,hcell⟩:=h.row
 obtain⟨w1,hw1,B,hB,hb1,hr1⟩:=bI w v
 have HB1:=Hj hb1
 have HW:=Hj (aB hw1 hB)
 have K1:∀o1 o2,((w.alloc o1).alloc o2).cell? ⟨gs,1,none⟩=some (.slice A xs.length c):=fun o1 o2=>Kz (((aj _ w).alloc Kv o1).alloc (by simp) o2) _ _ c1
 have Gz:=Hj hr1
 have KG:Hid (∀W,Bw w W→W.cell? ⟨gs,1,none⟩=some (.slice A xs.length c)∧W.frozen? ⟨gs,1,none⟩=false):=Hj fun W hW=>by
  have hc:=(h.below hW).cells
  rw[eav] at hc
  exact⟨Kq 1 hc,Kj hc⟩
 have HC:=Hj hcell
 have HO:Hid (∀x∈xs,x.1.kind=(x.2.kind:Int)∧x.1.space=x.2.space∧x.1.name=x.2.name):=Hj fun x hx=>⟨(h.each x hx).kind,(h.each x hx).space,(h.each x hx).name⟩
 have HLn:=Hj hl
 have HR:=Hj hr
 have KI:=Hj hxo
 have RD:=Hj fun W=>Rz v o hv ho W
 clear h c1 hcell hw1 hB hb1 hr1 hl eav hv ho hr hxo
 go_enter Tryz.func130,Tryz.ntmps130
 go_wp2
 rw[←HW.out.1,←HW.out.2]
 have HST:Hid (OL (w1.alloc (.cells #[] 37)) w1.heap.size (.slice (some ⟨B+1,0,none⟩) 0 0) []∧Bw w1 (w1.alloc (.cells #[] 37))):=Hj ⟨by
  have e:B+1=w1.heap.size:=by rw[HW.out.1,HW.out.2];simp
  rw[e]
  exact OL.Ei w1,(aj _ _).alloc Kv _⟩
 clear K1
 go_loopg [4,5,14] xs.length (fun k s4 s5 s14 wr=>∃(i:Nat) (A:Option Addr) (n c:Nat) (l:List (OV×aC)) (d:Bool),s14=.int .i64 (i:Int)∧i+k=xs.length∧s4=.slice A n c∧s5=.bool d∧jU xs v o i d l∧OL wr w1.heap.size (.slice A n c) (l.map fun x=>x.1)∧Bw w1 wr)
 case atStart=>exact⟨0,_,_,_,[],false,rfl,by omega,rfl,rfl,.inl ⟨rfl,rfl,fun x hx=>by cases hx⟩,HST.out.1,HST.out.2⟩
 case round=>
  obtain⟨i,A',n,c',l,d,rfl,hi,rfl,rfl,hP,hown,hbel⟩:=hrel
  have HP:=Hj hP
  have xU:=Hj hown
  have jD:=Hj hbel
  clear hown hbel hP HST
  by_cases hlt:i<xs.length
  ·obtain ⟨b,o',rfl,hc⟩:=HC.out (by omega)
   obtain⟨x,hx⟩:∃x,xs[i]?=some x:=⟨_,fJ hlt⟩
   obtain⟨d0,d1,d2,d3,d4⟩:=hc i x hx
   have kk:=Kz (HB1.out.trans (jD.out.mono HB1.out.size))
   replace d0:=kk _ _ d0
   replace d1:=kk _ _ d1
   replace d2:=kk _ _ d2
   replace d3:=kk _ _ d3
   replace d4:=kk _ _ d4
   have hxm:=gJ hx
   have LY:=Hj fun W=>Rz x.1 x.2 (HO.out x hxm) (KI.out x hxm) W
   have k0:(0:Int)≤(i:Int):=by omega
   have k1:(i:Int)<(xs.length:Int):=by omega
   have k2:(i:Int)≤100000:=by have:=HLn.out;omega
   have HT:Hid (i+gk=xs.length∧i<xs.length∧n≤100001):=Hj ⟨hi,hlt,by have:=xU.out.len;rw[aX] at this;have:=HP.out.len;have:=HLn.out;omega⟩
   have HX:=Hj hx
   obtain⟨u,hu⟩:∃u,u=x.1:=⟨_,rfl⟩
   have HU:=Hj hu
   rw[←hu] at d0 d1 d2 d3 d4 LY
   clear hc kk hi hlt hx hxm hu
   go_wp2
   obtain⟨wa,q,oh,hq,hba,hra⟩:∃(wa:World) (q:Nat),wa=wr.alloc (.cells (ov u) 37)∧q=wr.heap.size∧Bw wr wa∧wa.heap[q]?=some (.cells (ov u) 37 (0,0)):=⟨_,_,rfl,rfl,(aj _ wr).alloc Kv _,aA wr _⟩
   rw[←oh,←hq]
   have xG:=Hj (jD.out.trans (hba.mono jD.out.size))
   have Zf:=Hj (xU.out.below hba)
   have VI:Hid (B<w1.heap.size∧q=wr.heap.size):=Hj ⟨(Cq Gz.out),hq⟩
   have VI:Hid (B<w1.heap.size∧q=wr.heap.size):=Hj ⟨(Cq Gz.out),hq⟩
   have VI:Hid (B<w1.heap.size∧q=wr.heap.size):=Hj ⟨(Cq Gz.out),hq⟩
   have VI:Hid (B<w1.heap.size∧q=wr.heap.size):=Hj ⟨(Cq Gz.out),hq⟩
   have KX:Hid (∀W W',Bw wa W→Fr (fun k=>some k=(Value.slice A' n c').ownBlock) W W'→VB W' q u∧VB W' B v):=Hj fun W W' hW hF=>by
    have r1:=(hW.block q (Cq hra)).trans hra
    have r2:=(xG.out.trans (hW.mono xG.out.size)).block B VI.out.1 |>.trans Gz.out
    refine⟨VB.aK ((hF.block q (Cq r1) fun e=> ?_).trans r1),VB.aK ((hF.block B (Cq r2) fun e=> ?_).trans r2)⟩
    ·have:=(ah.lt xU.out q e.symm).2
     have:=VI.out.2
     omega
    ·have:=(ah.lt xU.out B e.symm).1
     have:=VI.out.1
     omega
   clear oh hq hba hra d0 d1 d2 d3 d4 xU jD
   have BD:Hid (Bw wa wa.drew):=Hj (bV (aj _ _))
   obtain⟨⟨x0,x1,x2,x3,x4⟩,y0,y1,y2,y3,y4⟩:=KX.out wa wa (aj _ _) (Fr.refl _ _)
   cases d with
   | false=>
    cases hk:aS (aW x.2) (aW o) with
    | true=>
     have HP2:=Hj (HP.out.a HX.out hk)
     have l1:=dh.Vq hk
     have l2:=ne_of_lt hk
     have l3:((aW o).toList==(aW x.2).toList)=false:=by rwa [Bool.beq_comm] at l2
     unfold aS at hk l1
     go_region_held3 (fun w'=>w'.cell? ⟨B,0,none⟩=some (.int .i64 v.kind)∧w'.cell? ⟨B,1,none⟩=some (.string v.space)∧w'.cell? ⟨B,2,none⟩=some (.string v.name)∧w'.cell? ⟨B,3,none⟩=some (.int .i64 v.ver)∧w'.cell? ⟨B,4,none⟩=some (.slice v.A v.n v.c)∧w'.cell? ⟨q,0,none⟩=some (.int .i64 u.kind)∧w'.cell? ⟨q,1,none⟩=some (.string u.space)∧w'.cell? ⟨q,2,none⟩=some (.string u.name)∧w'.cell? ⟨q,3,none⟩=some (.int .i64 u.ver)∧w'.cell? ⟨q,4,none⟩=some (.slice u.A u.n u.c)) (first | exact⟨by assumption,by assumption,by assumption,by assumption,by assumption,by assumption,by assumption,by assumption,by assumption,by assumption⟩ | go_keep)
      (first
       | (go_at_call 126;((with_reducible refine(RD.out wa.drew).mono ?_);rintro e w2 ⟨rfl,hb2⟩;have B2:Hid (Bw wa w2):=Hj (BD.out.trans (hb2.mono BD.out.size));obtain⟨⟨x0,x1,x2,x3,x4⟩,y0,y1,y2,y3,y4⟩:=KX.out w2 w2 B2.out (Fr.refl _ _);clear hb2))
       | (go_at_call 126;((with_reducible refine(LY.out w2).mono ?_);rintro e w3 ⟨rfl,hb3⟩;have B3:Hid (Bw wa w3):=Hj (B2.out.trans (hb3.mono B2.out.size));obtain⟨⟨x0,x1,x2,x3,x4⟩,y0,y1,y2,y3,y4⟩:=KX.out w3 w3 B3.out (Fr.refl _ _);clear hb3))
       | fail)
     all_goals
      go_wp2
      have B3d:Hid (Bw wa w3.drew):=Hj (bV B3.out)
      go_region_held3 (fun w'=>w'.cell? ⟨B,0,none⟩=some (.int .i64 v.kind)∧w'.cell? ⟨B,1,none⟩=some (.string v.space)∧w'.cell? ⟨B,2,none⟩=some (.string v.name)∧w'.cell? ⟨B,3,none⟩=some (.int .i64 v.ver)∧w'.cell? ⟨B,4,none⟩=some (.slice v.A v.n v.c)∧w'.cell? ⟨q,0,none⟩=some (.int .i64 u.kind)∧w'.cell? ⟨q,1,none⟩=some (.string u.space)∧w'.cell? ⟨q,2,none⟩=some (.string u.name)∧w'.cell? ⟨q,3,none⟩=some (.int .i64 u.ver)∧w'.cell? ⟨q,4,none⟩=some (.slice u.A u.n u.c)) (first | exact⟨by assumption,by assumption,by assumption,by assumption,by assumption,by assumption,by assumption,by assumption,by assumption,by assumption⟩ | go_keep)
       (first
        | (go_at_call 126;((with_reducible refine(LY.out w3.drew).mono ?_);rintro e w4 ⟨rfl,hb4⟩;have B4:Hid (Bw wa w4):=Hj (B3d.out.trans (hb4.mono B3d.out.size));obtain⟨⟨x0,x1,x2,x3,x4⟩,y0,y1,y2,y3,y4⟩:=KX.out w4 w4 B4.out (Fr.refl _ _);clear hb4))
        | (go_at_call 126;((with_reducible refine(RD.out w4).mono ?_);rintro e w5 ⟨rfl,hb5⟩;have B5:Hid (Bw wa w5):=Hj (B4.out.trans (hb5.mono B4.out.size));obtain⟨⟨x0,x1,x2,x3,x4⟩,y0,y1,y2,y3,y4⟩:=KX.out w5 w5 B5.out (Fr.refl _ _);clear hb5))
        | fail)
      all_goals
       go_wp2_with (first
        | (at_builtin;(refine y8 rfl (.tmp 36) (.tmp 38) rfl (Zf.out.below B5.out) rfl u rfl (by have:=HT.out.2.2;omega) (xG.out.trans (B5.out.mono xG.out.size)).size ?_;intro A7 c7 w7 hown hb hf;have O7:=Hj hown;have B7:Hid (Bw w1 w7):=Hj ((xG.out.trans (B5.out.mono xG.out.size)).trans hb);have F7:=Hj hf;clear hown hb hf))
        | fail)
       go_roundg (gk-1)
       case measure=>have:=HT.out;omega
       case rel=>exact⟨i+1,A7,n+1,c7,_,true&&false,by go_num,by have:=HT.out;omega,rfl,rfl,HP2.out,by rw[dI,List.map_singleton,←HU.out];exact O7.out,B7.out⟩
    | false=>
     have HP2:=Hj (HP.out.b HX.out hk)
     cases hc:aS (aW o) (aW x.2) with
     | true=>
      rw[aF hc] at HP2
      have l2:=ne_of_lt hc
      have l3:((aW x.2).toList==(aW o).toList)=false:=by rwa [Bool.beq_comm] at l2
      unfold aS at hk hc
      go_region_held3 (fun w'=>w'.cell? ⟨B,0,none⟩=some (.int .i64 v.kind)∧w'.cell? ⟨B,1,none⟩=some (.string v.space)∧w'.cell? ⟨B,2,none⟩=some (.string v.name)∧w'.cell? ⟨B,3,none⟩=some (.int .i64 v.ver)∧w'.cell? ⟨B,4,none⟩=some (.slice v.A v.n v.c)∧w'.cell? ⟨q,0,none⟩=some (.int .i64 u.kind)∧w'.cell? ⟨q,1,none⟩=some (.string u.space)∧w'.cell? ⟨q,2,none⟩=some (.string u.name)∧w'.cell? ⟨q,3,none⟩=some (.int .i64 u.ver)∧w'.cell? ⟨q,4,none⟩=some (.slice u.A u.n u.c)) (first | exact⟨by assumption,by assumption,by assumption,by assumption,by assumption,by assumption,by assumption,by assumption,by assumption,by assumption⟩ | go_keep)
       (first
        | (go_at_call 126;((with_reducible refine(RD.out wa.drew).mono ?_);rintro e w2 ⟨rfl,hb2⟩;have B2:Hid (Bw wa w2):=Hj (BD.out.trans (hb2.mono BD.out.size));obtain⟨⟨x0,x1,x2,x3,x4⟩,y0,y1,y2,y3,y4⟩:=KX.out w2 w2 B2.out (Fr.refl _ _);clear hb2))
        | (go_at_call 126;((with_reducible refine(LY.out w2).mono ?_);rintro e w3 ⟨rfl,hb3⟩;have B3:Hid (Bw wa w3):=Hj (B2.out.trans (hb3.mono B2.out.size));obtain⟨⟨x0,x1,x2,x3,x4⟩,y0,y1,y2,y3,y4⟩:=KX.out w3 w3 B3.out (Fr.refl _ _);clear hb3))
        | fail)
      all_goals
       go_wp2_with (first
        | (at_builtin;(refine y8 rfl (.tmp 27) (.tmp 29) rfl (Zf.out.below B3.out) rfl v rfl (by have:=HT.out.2.2;omega) (xG.out.trans (B3.out.mono xG.out.size)).size ?_;intro A7 c7 w7 hown hb hf;have O7:=Hj hown;have B7:Hid (Bw w1 w7):=Hj ((xG.out.trans (B3.out.mono xG.out.size)).trans hb);have F7:=Hj hf;clear hown hb hf))
        | fail)
       obtain⟨⟨x0,x1,x2,x3,x4⟩,y0,y1,y2,y3,y4⟩:=KX.out w3 w7 B3.out F7.out
       have B7d:Hid (Bw w7 w7.drew):=Hj (bV (aj _ _))
       go_region_held3 (fun w'=>w'.cell? ⟨B,0,none⟩=some (.int .i64 v.kind)∧w'.cell? ⟨B,1,none⟩=some (.string v.space)∧w'.cell? ⟨B,2,none⟩=some (.string v.name)∧w'.cell? ⟨B,3,none⟩=some (.int .i64 v.ver)∧w'.cell? ⟨B,4,none⟩=some (.slice v.A v.n v.c)∧w'.cell? ⟨q,0,none⟩=some (.int .i64 u.kind)∧w'.cell? ⟨q,1,none⟩=some (.string u.space)∧w'.cell? ⟨q,2,none⟩=some (.string u.name)∧w'.cell? ⟨q,3,none⟩=some (.int .i64 u.ver)∧w'.cell? ⟨q,4,none⟩=some (.slice u.A u.n u.c)) (first | exact⟨by assumption,by assumption,by assumption,by assumption,by assumption,by assumption,by assumption,by assumption,by assumption,by assumption⟩ | go_keep)
        (first
         | (go_at_call 126;((with_reducible refine(LY.out w7.drew).mono ?_);rintro e w4 ⟨rfl,hb4⟩;have B4:Hid (Bw w7 w4):=Hj (B7d.out.trans (hb4.mono B7d.out.size));obtain⟨⟨x0,x1,x2,x3,x4⟩,y0,y1,y2,y3,y4⟩:=KX.out w3 w4 B3.out (F7.out.trans (S:=fun k=>some k=(Value.slice A' n c').ownBlock) (S':=fun _=>False) (Fr.of_below B4.out) fun _ _ x=>x.elim);clear hb4))
         | (go_at_call 126;((with_reducible refine(RD.out w4).mono ?_);rintro e w5 ⟨rfl,hb5⟩;have B5:Hid (Bw w7 w5):=Hj (B4.out.trans (hb5.mono B4.out.size));obtain⟨⟨x0,x1,x2,x3,x4⟩,y0,y1,y2,y3,y4⟩:=KX.out w3 w5 B3.out (F7.out.trans (S:=fun k=>some k=(Value.slice A' n c').ownBlock) (S':=fun _=>False) (Fr.of_below B5.out) fun _ _ x=>x.elim);clear hb5))
         | fail)
       all_goals
        go_wp2_with (first
         | (at_builtin;(refine y8 rfl (.tmp 36) (.tmp 38) rfl (O7.out.below B5.out) rfl u rfl (by have:=HT.out.2.2;omega) (B7.out.trans (B5.out.mono B7.out.size)).size ?_;intro A8 c8 w8 hown hb hf;have O8:=Hj hown;have B8:Hid (Bw w1 w8):=Hj ((B7.out.trans (B5.out.mono B7.out.size)).trans hb);have F8:=Hj hf;clear hown hb hf))
         | fail)
        go_roundg (gk-1)
        case measure=>have:=HT.out;omega
        case rel=>exact⟨i+1,A8,n+1+1,c8,_,true,by go_num,by have:=HT.out;omega,rfl,rfl,HP2.out,by have h:=O8.out;rw[mQ] at h;rw[dI,qg,qg,←HU.out];exact h,B8.out⟩
     | false=>
      rw[aG (by rw[hc];decide)] at HP2
      have e:=dh.tri _ _ hc hk
      have l2:((aW o).toList==(aW x.2).toList)=true:=by rw[e];simp
      have l3:((aW x.2).toList==(aW o).toList)=true:=by rw[e];simp
      clear e
      unfold aS at hk hc
      go_region_held3 (fun w'=>w'.cell? ⟨B,0,none⟩=some (.int .i64 v.kind)∧w'.cell? ⟨B,1,none⟩=some (.string v.space)∧w'.cell? ⟨B,2,none⟩=some (.string v.name)∧w'.cell? ⟨B,3,none⟩=some (.int .i64 v.ver)∧w'.cell? ⟨B,4,none⟩=some (.slice v.A v.n v.c)∧w'.cell? ⟨q,0,none⟩=some (.int .i64 u.kind)∧w'.cell? ⟨q,1,none⟩=some (.string u.space)∧w'.cell? ⟨q,2,none⟩=some (.string u.name)∧w'.cell? ⟨q,3,none⟩=some (.int .i64 u.ver)∧w'.cell? ⟨q,4,none⟩=some (.slice u.A u.n u.c)) (first | exact⟨by assumption,by assumption,by assumption,by assumption,by assumption,by assumption,by assumption,by assumption,by assumption,by assumption⟩ | go_keep)
       (first
        | (go_at_call 126;((with_reducible refine(RD.out wa.drew).mono ?_);rintro e w2 ⟨rfl,hb2⟩;have B2:Hid (Bw wa w2):=Hj (BD.out.trans (hb2.mono BD.out.size));obtain⟨⟨x0,x1,x2,x3,x4⟩,y0,y1,y2,y3,y4⟩:=KX.out w2 w2 B2.out (Fr.refl _ _);clear hb2))
        | (go_at_call 126;((with_reducible refine(LY.out w2).mono ?_);rintro e w3 ⟨rfl,hb3⟩;have B3:Hid (Bw wa w3):=Hj (B2.out.trans (hb3.mono B2.out.size));obtain⟨⟨x0,x1,x2,x3,x4⟩,y0,y1,y2,y3,y4⟩:=KX.out w3 w3 B3.out (Fr.refl _ _);clear hb3))
        | fail)
      all_goals
       go_wp2_with (first
        | (at_builtin;(refine y8 rfl (.tmp 27) (.tmp 29) rfl (Zf.out.below B3.out) rfl v rfl (by have:=HT.out.2.2;omega) (xG.out.trans (B3.out.mono xG.out.size)).size ?_;intro A7 c7 w7 hown hb hf;have O7:=Hj hown;have B7:Hid (Bw w1 w7):=Hj ((xG.out.trans (B3.out.mono xG.out.size)).trans hb);have F7:=Hj hf;clear hown hb hf))
        | fail)
       obtain⟨⟨x0,x1,x2,x3,x4⟩,y0,y1,y2,y3,y4⟩:=KX.out w3 w7 B3.out F7.out
       have B7d:Hid (Bw w7 w7.drew):=Hj (bV (aj _ _))
       go_region_held3 (fun w'=>w'.cell? ⟨B,0,none⟩=some (.int .i64 v.kind)∧w'.cell? ⟨B,1,none⟩=some (.string v.space)∧w'.cell? ⟨B,2,none⟩=some (.string v.name)∧w'.cell? ⟨B,3,none⟩=some (.int .i64 v.ver)∧w'.cell? ⟨B,4,none⟩=some (.slice v.A v.n v.c)∧w'.cell? ⟨q,0,none⟩=some (.int .i64 u.kind)∧w'.cell? ⟨q,1,none⟩=some (.string u.space)∧w'.cell? ⟨q,2,none⟩=some (.string u.name)∧w'.cell? ⟨q,3,none⟩=some (.int .i64 u.ver)∧w'.cell? ⟨q,4,none⟩=some (.slice u.A u.n u.c)) (first | exact⟨by assumption,by assumption,by assumption,by assumption,by assumption,by assumption,by assumption,by assumption,by assumption,by assumption⟩ | go_keep)
        (first
         | (go_at_call 126;((with_reducible refine(LY.out w7.drew).mono ?_);rintro e w4 ⟨rfl,hb4⟩;have B4:Hid (Bw w7 w4):=Hj (B7d.out.trans (hb4.mono B7d.out.size));obtain⟨⟨x0,x1,x2,x3,x4⟩,y0,y1,y2,y3,y4⟩:=KX.out w3 w4 B3.out (F7.out.trans (S:=fun k=>some k=(Value.slice A' n c').ownBlock) (S':=fun _=>False) (Fr.of_below B4.out) fun _ _ x=>x.elim);clear hb4))
         | (go_at_call 126;((with_reducible refine(RD.out w4).mono ?_);rintro e w5 ⟨rfl,hb5⟩;have B5:Hid (Bw w7 w5):=Hj (B4.out.trans (hb5.mono B4.out.size));obtain⟨⟨x0,x1,x2,x3,x4⟩,y0,y1,y2,y3,y4⟩:=KX.out w3 w5 B3.out (F7.out.trans (S:=fun k=>some k=(Value.slice A' n c').ownBlock) (S':=fun _=>False) (Fr.of_below B5.out) fun _ _ x=>x.elim);clear hb5))
         | fail)
       all_goals
        go_wp2
        go_roundg (gk-1)
        case measure=>have:=HT.out;omega
        case rel=>exact⟨i+1,A7,n+1,c7,_,true,by go_num,by have:=HT.out;omega,rfl,rfl,HP2.out,by rw[dI,qg];exact O7.out.below B5.out,B7.out.trans (B5.out.mono B7.out.size)⟩
   | true=>
    have hc:=HP.out.rise HR.out HX.out
    have HP2:=Hj (HP.out.c HX.out hc)
    have l2:=ne_of_lt hc
    have l3:((aW x.2).toList==(aW o).toList)=false:=by rwa [Bool.beq_comm] at l2
    unfold aS at hc
    go_quiet (fail)
    have Bn:Hid (Bw wa (wa.drewN (nq+1))):=Hj (below_drewN (aj _ _) (nq+1))
    obtain⟨⟨x0,x1,x2,x3,x4⟩,y0,y1,y2,y3,y4⟩:=KX.out _ (wa.drewN nq) (below_drewN (aj _ _) nq) (Fr.refl _ _)
    go_wp2
    go_region_held3 (fun w'=>w'.cell? ⟨B,0,none⟩=some (.int .i64 v.kind)∧w'.cell? ⟨B,1,none⟩=some (.string v.space)∧w'.cell? ⟨B,2,none⟩=some (.string v.name)∧w'.cell? ⟨B,3,none⟩=some (.int .i64 v.ver)∧w'.cell? ⟨B,4,none⟩=some (.slice v.A v.n v.c)∧w'.cell? ⟨q,0,none⟩=some (.int .i64 u.kind)∧w'.cell? ⟨q,1,none⟩=some (.string u.space)∧w'.cell? ⟨q,2,none⟩=some (.string u.name)∧w'.cell? ⟨q,3,none⟩=some (.int .i64 u.ver)∧w'.cell? ⟨q,4,none⟩=some (.slice u.A u.n u.c)) (first | exact⟨by assumption,by assumption,by assumption,by assumption,by assumption,by assumption,by assumption,by assumption,by assumption,by assumption⟩ | go_keep)
     (first
      | (go_at_call 126;((with_reducible refine(LY.out (wa.drewN (nq+1))).mono ?_);rintro e w4 ⟨rfl,hb4⟩;have B4:Hid (Bw wa w4):=Hj (Bn.out.trans (hb4.mono Bn.out.size));obtain⟨⟨x0,x1,x2,x3,x4⟩,y0,y1,y2,y3,y4⟩:=KX.out w4 w4 B4.out (Fr.refl _ _);clear hb4))
      | (go_at_call 126;((with_reducible refine(RD.out w4).mono ?_);rintro e w5 ⟨rfl,hb5⟩;have B5:Hid (Bw wa w5):=Hj (B4.out.trans (hb5.mono B4.out.size));obtain⟨⟨x0,x1,x2,x3,x4⟩,y0,y1,y2,y3,y4⟩:=KX.out w5 w5 B5.out (Fr.refl _ _);clear hb5))
      | fail)
    all_goals
     go_wp2_with (first
      | (at_builtin;(refine y8 rfl (.tmp 36) (.tmp 38) rfl (Zf.out.below B5.out) rfl u rfl (by have:=HT.out.2.2;omega) (xG.out.trans (B5.out.mono xG.out.size)).size ?_;intro A7 c7 w7 hown hb hf;have O7:=Hj hown;have B7:Hid (Bw w1 w7):=Hj ((xG.out.trans (B5.out.mono xG.out.size)).trans hb);have F7:=Hj hf;clear hown hb hf))
      | fail)
     go_roundg (gk-1)
     case measure=>have:=HT.out;omega
     case rel=>exact⟨i+1,A7,n+1,c7,_,true,by go_num,by have:=HT.out;omega,rfl,rfl,HP2.out,by rw[dI,List.map_singleton,←HU.out];exact O7.out,B7.out⟩
  ·obtain rfl:i=xs.length:=by omega
   have k1:¬(xs.length:Int)<(xs.length:Int):=by omega
   have KB:=Hj fun W (hW:Bw w1 W)=>VB.aK ((hW.block B (Cq Gz.out)).trans Gz.out)
   clear hlt hi HC
   cases d with
   | true=>
    obtain rfl:=HP.out.fin
    have hn:=OL.len xU.out
    rw[aX] at hn
    have HF:=Hj hn
    clear hn
    obtain⟨g1,f1⟩:=KG.out wr (HB1.out.trans (jD.out.mono HB1.out.size))
    go_wp2
    refine bodyPost_end (fM rfl _ _ _) rfl ?_
    rw[←HF.out]
    exact⟨rfl,A',c',wr,rfl,xU.out.mono fun k hk=>Cz HB1.out.size (ah.lt xU.out k hk).1,HB1.out.trans (jD.out.mono HB1.out.size)⟩
   | false=>
    have HF:=Hj HP.out.fin0
    obtain⟨y0,y1,y2,y3,y4⟩:=KB.out wr jD.out
    have HT:Hid (n≤100001):=Hj (by have:=OL.len xU.out;rw[aX] at this;have:=HP.out.len;have:=HLn.out;omega)
    go_wp2_with (first
     | (at_builtin;(refine y8 rfl (.tmp 43) (.tmp 45) rfl xU.out rfl v rfl (by have:=HT.out;omega) jD.out.size ?_;intro A7 c7 w7 hown hb hf;have O7:=Hj hown;have B7:Hid (Bw w1 w7):=Hj (jD.out.trans hb);obtain⟨g1,f1⟩:=KG.out w7 (HB1.out.trans (B7.out.mono HB1.out.size));clear hown hb hf))
     | fail)
    refine bodyPost_end (fM rfl _ _ _) rfl ?_
    have hn:=OL.len O7.out
    have O7:=O7.out
    rw[show (l.map fun x=>x.1)++[v]=(ru xs v o).map fun x=>x.1 by rw[←HF.out,dI];rfl] at O7 hn
    rw[aX] at hn
    rw[←hn]
    exact⟨rfl,A7,c7,w7,rfl,O7.mono fun k hk=>Cz HB1.out.size (ah.lt O7 k hk).1,HB1.out.trans (B7.out.mono HB1.out.size)⟩
end
end Go.Proofs.YtdhbpajamlfacaaGreatDoor
