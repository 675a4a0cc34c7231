/- Layer 21 (watch): both watchers' Syncs find the same. No program in sight. -/
import Derived.Test.YtdhbpajamlfacaaGreatDoorZm
import Derived.Test.YtdhbpajamlfacaaGreatDoorYb
set_option maxHeartbeats 4000000
set_option maxRecDepth 100000
namespace Go.Proofs.YtdhbpajamlfacaaGreatDoor
open Go.RowKit SO
section
variable {w:World} {M:bQ} {kind:Int} {S space:ByteArray} {all:Bool} {cy:Nat} {R xs:List (OV×aC)} {ys:List (Bool×(OV×aC))}
/-- What is to be listed, without a listing. -/
theorem vS.of (h:M.Ok):vS M kind S all (jc M kind S all)∧((M.tab.map Prod.snd).filter (pI kind S all)).foldl gZ []=kd ko (jc M kind S all):=by
 obtain⟨h1,h2⟩:=zN ((M.tab.map Prod.snd).filter (pI kind S all)) [] List.Pairwise.nil (fun a ha b hb e=>by
  obtain⟨a1,a2⟩:=jB.1 ha
  obtain⟨b1,b2⟩:=jB.1 hb
  exact JZ h a1 b1 (by have:=jQ a2;have:=jQ b2;omega) e) fun a _ y hy=>by cases hy
 have hkd:((M.tab.map Prod.snd).filter (pI kind S all)).foldl gZ []=kd ko (jc M kind S all):=by
  unfold jc
  generalize ((M.tab.map Prod.snd).filter (pI kind S all)).foldl gZ []=P at h1 h2
  unfold kd
  rw[iH]
  refine Eq.symm ((List.map_congr_left fun y hy=> ?_).trans (List.map_id P))
  rcases(h2 y).1 hy with hy | hy
  ·cases hy
  ·obtain ⟨o,-,rfl⟩:=bW.1 hy
   rfl
 refine⟨⟨fun o=> ?_,by rw[←hkd];exact h1⟩,hkd⟩
 have e:o∈jc M kind S all↔(ko o,o)∈kd ko (jc M kind S all):=by
  unfold kd
  refine⟨fun ho=>bW.2 ⟨o,ho,rfl⟩,fun ho=> ?_⟩
  obtain⟨o',ho',e⟩:=bW.1 ho
  injection e with _ e
  rw[←e];exact ho'
 rw[e,←hkd,h2]
 simp only[List.not_mem_nil,false_or,kd,List.mem_map,List.mem_filter]
 refine⟨fun⟨o',h3,e⟩=> ?_,fun h3=>⟨o,h3,rfl⟩⟩
 injection e with _ e
 rw[←e];exact h3
theorem Kr (l:List aC):(kd ko l).map Prod.snd=l:=by
 unfold kd
 rw[iH]
 exact List.map_id l
theorem Kt (h:M.Ok):∀o∈jc M kind S all,o.Ok:=fun o ho=>by
 obtain⟨x,hx,rfl⟩:=bW.1 (((vS.of h).1.1 o).1 ho).1
 exact(h.tab.each x hx).2.1
theorem Iz:(jc M kind S all).length≤M.tab.length:=by
 unfold jc
 rw[aX]
 refine Cz (zL _ _) ?_
 have:=kZ (pI kind S all) (M.tab.map Prod.snd)
 rw[aX] at this
 simpa using this
theorem og.same {cx:Nat} {K K1 K2:List (ByteArray×aC)} {l lp1 ld1 lp2 ld2:List aC} {a1 a2:Bool} (h:og M kind space all cx K l a1 K1 lp1 ld1) (k:og M kind space all cx K l a2 K2 lp2 ld2):a1=a2∧K1=K2∧lp1=lp2∧ld1=ld2:=by
 rcases h with ⟨h0,rfl,rfl,rfl,rfl⟩ | ⟨h0,rfl,rfl,rfl,rfl⟩<;>rcases k with ⟨k0,rfl,rfl,rfl,rfl⟩ | ⟨k0,rfl,rfl,rfl,rfl⟩
 ·exact ⟨rfl,rfl,rfl,rfl⟩
 ·omega
 ·omega
 ·exact ⟨rfl,rfl,rfl,rfl⟩
theorem EH:∀(l:List (Bool×(OV×aC))) (K:List (OV×aC)),∀x∈l.foldl (yK kind space all) K,x∈K∨((∃y∈l,x=y.2)∧iW kind space all x.1=true)
 | [],K,x,h=>.inl h
 | y::l,K,x,h=>by
  rcases EH l _ x h with h | ⟨⟨z,h1,h2⟩,h3⟩
  ·unfold yK at h
   split at h
   ·rename_i hf
    split at h
    ·exact .inl (jB.1 h).1
    ·rcases vT h with h | h
     ·exact .inr ⟨⟨y,by simp,h⟩,by rw[h];exact hf⟩
     ·exact .inl h
   ·exact .inl h
  ·exact .inr ⟨⟨z,gK _ h1,h2⟩,h3⟩
theorem EI:∀(l K:List (OV×aC)),∀x∈l.foldl (yA kind space all) K,x∈K∨(x∈l∧iW kind space all x.1=true)
 | [],K,x,h=>.inl h
 | y::l,K,x,h=>by
  rcases EI l _ x h with h | ⟨h,h3⟩
  ·unfold yA at h
   split at h
   ·rename_i hf
    rcases vT h with h | h
    ·exact .inr ⟨by simp[h],by rw[h];exact hf⟩
    ·exact .inl h
   ·exact .inl h
  ·exact .inr ⟨gK _ h,h3⟩
/-- The document's Sync anew is the program's. -/
theorem Ue (h:M.Ok) (hx:M.tab.map (fun x=>x.2)=xs.map fun x=>x.2) (hi:EG w xs) (hR:EG w R) (hok:∀x∈R,x.2.Ok∧pI kind space all x.2=true) (hc:cy<M.base):
  og M kind space all cy (kd ko (R.map Prod.snd)) (jc M kind space all) true (kd ko ((xs.foldl (yA kind space all) []).map Prod.snd)) ((xs.foldl (yA kind space all) []).map Prod.snd) ((R.filter (yG M)).map Prod.snd)∧EG w (xs.foldl (yA kind space all) [])∧aT aS (kd ko ((xs.foldl (yA kind space all) []).map Prod.snd)):=by
 obtain⟨e1,e2,e3⟩:=J9 (kind:=kind) (space:=space) (all:=all) xs [] hi (fun x hx=>by cases hx) List.Pairwise.nil
 have hx':xs.map Prod.snd=M.tab.map Prod.snd:=hx.symm
 obtain⟨hl,ek⟩:=vS.of (kind:=kind) (S:=space) (all:=all) h
 rw[hx'] at e1
 have e1:kd ko (jc M kind space all)=kd ko ((xs.foldl (yA kind space all) []).map Prod.snd):=ek.symm.trans e1
 have e4:jc M kind space all=(xs.foldl (yA kind space all) []).map Prod.snd:=by rw[←Kr (jc M kind space all),e1,Kr]
 refine⟨.inl ⟨hc,rfl,?_,e4.symm,?_⟩,e2,e3⟩
 ·rw [←e1]
  exact(uJ (jc M kind space all) [] hl.2).symm
 ·have e5:(jc M kind space all).foldl gZ []=kd ko (jc M kind space all):=uJ (jc M kind space all) [] hl.2
  rw[e5]
  unfold vO kd
  rw[List.filter_map,iH,List.filter_map,iH]
  have e6:R.filter (((fun x:ByteArray×aC=>(look aS x.1 ((jc M kind space all).map fun x=>(ko x,x))).isNone)∘fun x=>(ko x,x))∘Prod.snd)=R.filter (yG M):=by
   refine List.filter_congr fun x hx=> ?_
   have h1:=hR x hx
   obtain⟨h2,h3⟩:=hok x hx
   have:=vS.gone h hl h2 h3
   unfold yG
   rw[h1.kind,h1.space,h1.name]
   exact this
  rw[e6]
  rfl
/-- .. and that along the events. -/
theorem WU (hev:M.evs=ys.map fun y=>(y.1,y.2.2)) (hy:∀y∈ys,dD w y.2.1 y.2.2) (hR:EG w R) (hr:aT aS (kd ko (R.map Prod.snd))) (hc:M.base≤cy) (l:List aC):
  og M kind space all cy (kd ko (R.map Prod.snd)) l false (kd ko (((ys.drop (cy-M.base)).foldl (yK kind space all) R).map Prod.snd)) (((ys.drop (cy-M.base)).foldl (yL false kind space all) []).map Prod.snd) (((ys.drop (cy-M.base)).foldl (yL true kind space all) []).map Prod.snd)∧EG w ((ys.drop (cy-M.base)).foldl (yK kind space all) R)∧aT aS (kd ko (((ys.drop (cy-M.base)).foldl (yK kind space all) R).map Prod.snd))∧EG w ((ys.drop (cy-M.base)).foldl (yL false kind space all) [])∧EG w ((ys.drop (cy-M.base)).foldl (yL true kind space all) []):=by
 have hd:∀y∈ys.drop (cy-M.base),dD w y.2.1 y.2.2:=fun y h=>hy y (List.mem_of_mem_drop h)
 have he:M.evs.drop (cy-M.base)=(ys.drop (cy-M.base)).map fun y=>(y.1,y.2.2):=by rw[hev,List.map_drop]
 obtain⟨k1,k2,k3⟩:=Iy (kind:=kind) (space:=space) (all:=all) _ R hd hR hr
 obtain⟨p1,p2⟩:=zS (kind:=kind) (space:=space) (all:=all) false _ [] hd (fun x hx=>by cases hx)
 obtain⟨d1,d2⟩:=zS (kind:=kind) (space:=space) (all:=all) true _ [] hd (fun x hx=>by cases hx)
 exact⟨.inr ⟨hc,rfl,by rw[he];exact k1.symm,by rw[he];exact p1.symm,by rw[he];exact d1.symm⟩,k2,k3,p2,d2⟩
end
section
variable {P:Nat→Prop} {w w0:World} {gw gt cur:Nat} {ea:Nat→Addr} {kind:Int} {space:ByteArray} {all:Bool} {K:List (ByteArray×aC)}
/-- Known: all that it knows. -/
theorem ZJ (hw:iY w gw gt kind space all cur) (hK:KT w P gt K) (hl:K.length≤100000) (ho:∀x∈K,x.2.data.length≤1000000):
  Cl 17 #[pt gw] w fun e w'=>∃v,e=.returned v∧OS w' w.heap.size v (K.map fun x=>x.2)∧Bw w w':=by
 obtain⟨sh,S1,h1,h2,h3,h4⟩:=hK
 obtain⟨r1,r2⟩:=KT.xs h2 h4
 have hxl:S1.length=K.length:=by rw[h2,aX]
 have HC:Hid (∀W,Bw w W→W.cell? ⟨gw,3,none⟩=some (pt gt)):=Hj fun W hW=>Kq 3 ((hW.block gw (Cq hw)).trans hw)
 have yw:Hid (Cl 47 #[pt gt] w fun e w'=>∃v,e=.returned v∧OT w' w.heap.size v (S1.map fun x=>x.1)∧Bw w w'):=Hj ((IW gt sh _ w h1 (by rw[aX];omega)).mono fun e w' ⟨v,e1,e2,e3⟩=>⟨v,e1,by
  have:=ah.rW e2
  unfold OT
  rw[aX,iH] at this ⊢
  exact this,e3⟩)
 have pJ:Hid (∀(W:World) (x:ByteArray×(OV×aC)),x∈S1→Bw w W→Cl 45 #[pt gt,(.string x.1)] W fun e w'=>e=.returned (.tuple #[(.agg #[.int .i64 x.2.1.kind,.string x.2.1.space,.string x.2.1.name,.int .i64 x.2.1.ver,.slice x.2.1.A x.2.1.n x.2.1.c]),.bool true])∧Bw W w'):=Hj fun W x hx hW=>by
  obtain⟨i,hi⟩:=jT.1 hx
  exact kF gt x.1 x.2.1 sh _ W (h1.below hW) r2 (fF dh r2 (i:=i) (e:=(x.1,x.2.1)) (by rw[dK,hi];rfl))
 have Gf:Hid (∀x∈S1,dD w x.2.1 x.2.2∧x.2.1.n≤1000000):=Hj fun x hx=>⟨(h3 x hx).1,by rw[(h3 x hx).1.num];exact ho (x.1,x.2.2) (by rw[h2];exact bW.2 ⟨x,hx,rfl⟩)⟩
 have c3:=HC.out w (aj _ _)
 have hn0:S1.length≤100000:=by omega
 rw[h2]
 clear hw hl ho h1 h2 h3 h4 r1 r2 hxl
 obtain⟨n,hn⟩:∃n,n=S1.length:=⟨_,rfl⟩
 have Hn:=Hj hn
 rw[←hn] at hn0
 clear hn
 go_enter Tryz.func17,Tryz.ntmps17
 go_wp2_with (first
  | (go_at_call 47;((refine yw.out.mono ?_);rintro e wb ⟨vb,rfl,hob,hbb⟩;obtain⟨Ab,cb,rfl,YX,hcb2⟩:=hob.form;rw[aX,←Hn.out] at YX;have Fj:=Hj hbb;have Xy:=Hj hob;have HE:Hid (Value.slice Ab (S1.map fun x=>x.1).length cb=Value.slice Ab n cb):=Hj (by rw[aX,←Hn.out]);rw[HE.out];clear hob hbb))
  | fail)
 go_loopw [3,14] (fun v i wr=>∃(j:Nat) (os:List OV),j≤n∧i=.int .i64 (j:Int)∧os.length=j∧OL wr wb.heap.size v os∧xB wr wb.heap.size os ((S1.take j).map fun x=>(x.1,x.2.2))∧Bw wb wr) (fun _ i _=>n-(intOf i).toNat)
 case atStart=>exact⟨0,[],bU _,rfl,rfl,OL.nil _ _,fun i x hx=>by simp at hx,aj _ _⟩
 case round=>
  obtain⟨j,os,hj,rfl,hlen,hown,Gg,hbel⟩:=hrel
  have jg:=Hj hbel
  have Jq:Hid (Bw w wr):=Hj (Fj.out.trans (hbel.mono Fj.out.size))
  obtain⟨Ao,co,rfl,QN,hco2⟩:=ah.form hown
  rw[hlen] at QN
  have HO:=Hj hown
  have HEo:Hid (Value.slice Ao os.length co=Value.slice Ao j co):=Hj (by rw[hlen])
  rw[HEo.out] at HO ⊢
  have HLn:=Hj hlen
  have Gh:=Hj Gg
  clear hown Gg hbel hlen
  by_cases hlt:j<n
  ·obtain ⟨x,hx⟩:∃x,S1[j]?=some x:=⟨_,fJ (by rw[←Hn.out];exact hlt)⟩
   have hmem:x∈S1:=jT.2 ⟨j,hx⟩
   have HX:=Hj hx
   have YZ:=Hj hmem
   have hkey:∃b o,Ab=some ⟨b,o,none⟩∧wb.cell? ⟨b,o+j,none⟩=some (.string x.1):=by
    have hr:=RX.jd Xy.out
    obtain⟨b,o,e,hc⟩:=hr.2 (by rw[aX,←Hn.out];omega)
    refine⟨b,o,e,?_⟩
    have h1:=hc j (by rw[aX,←Hn.out];exact hlt)
    rw[nG,dK,dK,hx] at h1
    exact h1
   obtain⟨kb,ko,rfl,kc⟩:=hkey
   have k1:wr.cell? ⟨kb,ko+j,none⟩=some (.string x.1):=Kz jg.out _ _ kc
   have c2:wr.cell? ⟨gw,3,none⟩=some (pt gt):=HC.out wr Jq.out
   have HG:=Hj (pJ.out wr x hmem Jq.out)
   obtain⟨hi1,hi2⟩:=Gf.out x hmem
   have rH:=Hj hi1
   have Gi:=Hj hi2
   have z0:(0:Int)≤(j:Int):=by omega
   have z1:(j:Int)<(n:Int):=by omega
   clear hx hmem kc hi1 hi2
   go_wp2_with (first
    | (go_at_call 45;((refine HG.out.mono ?_);rintro e w3 ⟨rfl,hb3⟩;have HB3:=Hj hb3;clear hb3))
    | (go_at_call 48;(
     obtain⟨w4,hw4⟩:∃W,W=w3.alloc (.cells #[.int .i64 x.2.1.kind,.string x.2.1.space,.string x.2.1.name,.int .i64 x.2.1.ver,.slice x.2.1.A x.2.1.n x.2.1.c] 37):=⟨_,rfl⟩
     have QO:=(aj w3.heap.size w3).alloc Kv (.cells #[.int .i64 x.2.1.kind,.string x.2.1.space,.string x.2.1.name,.int .i64 x.2.1.ver,.slice x.2.1.A x.2.1.n x.2.1.c] 37)
     rw[←hw4] at QO
     have HB4:Hid (Bw wr w4):=Hj (HB3.out.trans (QO.mono HB3.out.size))
     rw[←hw4]
     (with_reducible refine(xY x.2.1 w4 x.2.2.data (rH.out.below (Jq.out.trans (HB4.out.mono Jq.out.size))).rb Gi.out).mono ?_)
     rintro e w5 ⟨A5,c5,rfl,sZ,hb5⟩
     have EP:=Hj sZ
     have nH:Hid (Bw wr w5):=Hj (HB4.out.trans (hb5.mono HB4.out.size))
     have HU5:Hid (wb.heap.size≤w4.heap.size):=Hj (Cz jg.out.size HB4.out.size)
     clear sZ hb5 hw4 QO))
    | (at_builtin;(refine je (u:=⟨x.2.1.kind,x.2.1.space,x.2.1.name,x.2.1.ver,A5,x.2.1.n,c5⟩) rfl (.tmp 27) (.tmp 30) rfl (ah.alloc (HO.out.below nH.out) _) rfl (Src.obj w5 ⟨x.2.1.kind,x.2.1.space,x.2.1.name,x.2.1.ver,A5,x.2.1.n,c5⟩) rfl ?_ ?_ ?_;rotate_right;intro v1 w6 hown1 kU;replace hown1:=Hj hown1;replace kU:=Hj kU)))
   case refine_1=>rw[HLn.out];omega
   case refine_2=>rw[World.size_alloc];have h1:=jg.out.size;have h2:=nH.out.size;omega
   go_roundw
   case rel=>
    have Pq:Bw wb (w5.alloc (.cells #[.int .i64 x.2.1.kind,.string x.2.1.space,.string x.2.1.name,.int .i64 x.2.1.ver,.slice A5 x.2.1.n c5] 37)):=(jg.out.trans (nH.out.mono jg.out.size)).alloc (Cz jg.out.size nH.out.size) _
    have hold:=ah.alloc (HO.out.below nH.out) (.cells #[.int .i64 x.2.1.kind,.string x.2.1.space,.string x.2.1.name,.int .i64 x.2.1.ver,.slice A5 x.2.1.n c5] 37)
    have hgr:=Fr.bF kU.out
    have hap:∀(v:OV) (o:aC),dD (w5.alloc (.cells #[.int .i64 x.2.1.kind,.string x.2.1.space,.string x.2.1.name,.int .i64 x.2.1.ver,.slice A5 x.2.1.n c5] 37)) v o→dD w6 v o:=fun v o hv=>hv.fr hgr fun k hk e=>by
     obtain⟨cur,hc⟩:=au hv.data hk
     obtain⟨cur2,hc2⟩:=au hold e.symm
     exact absurd (ak hc hc2) (by decide)
    refine⟨j+1,os++[⟨x.2.1.kind,x.2.1.space,x.2.1.name,x.2.1.ver,A5,x.2.1.n,c5⟩],hlt,by go_num,by rw[bP,HLn.out];rfl,hown1.out,?_,Pq.grown kU.out (Cz jg.out.size (Cz nH.out.size (by rw[World.size_alloc];omega))) fun k hk=>(ah.lt hold k hk).1⟩
    rw[mO (by rw[←Hn.out];exact hlt),dI]
    have hx:=HX.out
    rw[fJ (by rw[←Hn.out];exact hlt)] at hx
    injection hx with hx
    rw[hx]
    have h5:dD w5 ⟨x.2.1.kind,x.2.1.space,x.2.1.name,x.2.1.ver,A5,x.2.1.n,c5⟩ x.2.2:=⟨rH.out.kind,rH.out.space,rH.out.name,rH.out.ver,rH.out.num,OB.mono EP.out (bU _)⟩
    refine xB.snoc (Gh.out.turn fun v o hv _=>hap v o ((hv.below nH.out).below ((aj _ _).alloc Kv _))) ?_ (x:=(x.1,x.2.2)) (hap _ _ (h5.below ((aj _ _).alloc Kv _))) fun k hk=>Cz HU5.out (ah.lt EP.out k hk).1
    rw[HLn.out,aX,eu,←Hn.out]
    omega
   case measure=>simp[intOf];omega
  ·obtain rfl:j=n:=by omega
   go_wp2
   go_ret
   have hj:=Gh.out
   rw[fO (by rw[←Hn.out];exact bZ _)] at hj
   exact⟨_,rfl,(OS.Ew HO.out (by rw[aX,HLn.out,Hn.out]) hj).mono Fj.out.size,Jq.out⟩
/-- SameObject, of the same. -/
theorem Ik (a b:OV) (o:aC) (w:World) (ha:dD w a o) (hb:dD w b o):
  Cl 22 #[.agg #[.int .i64 a.kind,.string a.space,.string a.name,.int .i64 a.ver,.slice a.A a.n a.c],.agg #[.int .i64 b.kind,.string b.space,.string b.name,.int .i64 b.ver,.slice b.A b.n b.c]] w fun e w'=>e=.returned (.bool true)∧Bw w w':=by
 have hB:=((aj w.heap.size w).alloc Kv (.cells #[.int .i64 a.kind,.string a.space,.string a.name,.int .i64 a.ver,.slice a.A a.n a.c] 37)).alloc (by simp) (.cells #[.int .i64 a.kind,.string a.space,.string a.name,.int .i64 a.ver,.slice b.A b.n b.c] 37)
 have hk:=Kz hB
 have ra:=iD (P:=Tryz.prog) Tryz.underlying35 Tryz.underlying5 Tryz.underlying9 (c:=a.c) (ha.rb.keep hk)
 have rb:=iD (P:=Tryz.prog) Tryz.underlying35 Tryz.underlying5 Tryz.underlying9 (c:=b.c) (hb.rb.keep hk)
 rw[hb.kind.trans ha.kind.symm,hb.space.trans ha.space.symm,hb.name.trans ha.name.symm,hb.ver.trans ha.ver.symm]
 have HB:=Hj hB
 clear ha hb hB hk
 go_enter Tryz.func22,Tryz.ntmps22
 go_wp2
 go_ret
 exact⟨rfl,HB.out⟩
theorem Il {base:Nat} {A:Option Addr} {n c i:Nat} {l:List aC} (h:OS w base (.slice A n c) l) (hi:i<l.length):∃b o u x,A=some ⟨b,o,none⟩∧l[i]?=some x∧dD w u x∧w.cell? ⟨b,o+i*5,none⟩=some (.int .i64 u.kind)∧w.cell? ⟨b,o+i*5+1,none⟩=some (.string u.space)∧w.cell? ⟨b,o+i*5+2,none⟩=some (.string u.name)∧w.cell? ⟨b,o+i*5+3,none⟩=some (.int .i64 u.ver)∧w.cell? ⟨b,o+i*5+4,none⟩=some (.slice u.A u.n u.c):=by
 obtain⟨os,h1,rfl,h3⟩:=h
 rw[aX] at hi
 obtain⟨b,o,rfl,-,hcell⟩:=yY h1 (by rw[aX];omega)
 obtain⟨x,hx⟩:∃x,os[i]?=some x:=⟨_,fJ hi⟩
 have e0:=fun j y=>hcell i x.1 (by rw[dK,hx];rfl) j y
 exact⟨b,o,x.1,x.2,rfl,by rw[dK,hx];rfl,h3 x (gJ hx),e0 0 _ rfl,e0 1 _ rfl,e0 2 _ rfl,e0 3 _ rfl,e0 4 _ rfl⟩
/-- SameObjects, of the same. -/
theorem vP {b1 b2:Nat} {A A2:Option Addr} {n c c2:Nat} {l:List aC} (h1:OS w b1 (.slice A n c) l) (h2:OS w b2 (.slice A2 n c2) l) (hn:n=l.length) (hl:n≤100000):
  Cl 16 #[.slice A n c,.slice A2 n c2] w fun e w'=>e=.returned (.bool true)∧Bw w w':=by
 have H1:=Hj h1
 have H2:=Hj h2
 have HN:=Hj hn
 have HL:=Hj hl
 clear h1 h2 hn hl
 go_enter Tryz.func16,Tryz.ntmps16
 go_wp2
 go_loopg [13] n (fun gk s13 wr=>∃i:Nat,s13=.int .i64 (i:Int)∧i+gk=n∧Bw w wr)
 case atStart=>exact⟨0,rfl,by omega,aj _ _⟩
 case round=>
  obtain⟨i,rfl,hi,hb⟩:=hrel
  have HI:=Hj hi
  have HB:=Hj hb
  by_cases hlt:i<n
  ·obtain ⟨b,o,u,x,rfl,hx,hu,a0,a1,a2,a3,a4⟩:=Il (H1.out.below hb) (i:=i) (by rw[←HN.out];exact hlt)
   obtain⟨b',o',u',x',rfl,hx',hu',d0,d1,d2,d3,d4⟩:=Il (H2.out.below hb) (i:=i) (by rw[←HN.out];exact hlt)
   obtain rfl:=Option.some.inj (hx.symm.trans hx')
   have HS:Hid (∀W,Bw wr W→Cl 22 #[.agg #[.int .i64 u.kind,.string u.space,.string u.name,.int .i64 u.ver,.slice u.A u.n u.c],.agg #[.int .i64 u'.kind,.string u'.space,.string u'.name,.int .i64 u'.ver,.slice u'.A u'.n u'.c]] W fun e w'=>e=.returned (.bool true)∧Bw W w'):=Hj fun W hW=>Ik u u' x W (hu.below hW) (hu'.below hW)
   have i0:(0:Int)≤(i:Int):=Int.natCast_nonneg i
   have i1:(i:Int)<(n:Int):=Int.ofNat_lt.2 hlt
   have i2:(i:Int)≤100000:=by have:=HL.out;omega
   have XU:Hid (∀W,Bw wr W→W.cell? ⟨b,o+i*5,none⟩=some (.int .i64 u.kind)∧W.cell? ⟨b,o+i*5+1,none⟩=some (.string u.space)∧W.cell? ⟨b,o+i*5+2,none⟩=some (.string u.name)∧W.cell? ⟨b,o+i*5+3,none⟩=some (.int .i64 u.ver)∧W.cell? ⟨b,o+i*5+4,none⟩=some (.slice u.A u.n u.c)):=Hj fun W hW=>⟨Kz hW _ _ a0,Kz hW _ _ a1,Kz hW _ _ a2,Kz hW _ _ a3,Kz hW _ _ a4⟩
   have LJ:Hid (∀W,Bw wr W→W.cell? ⟨b',o'+i*5,none⟩=some (.int .i64 u'.kind)∧W.cell? ⟨b',o'+i*5+1,none⟩=some (.string u'.space)∧W.cell? ⟨b',o'+i*5+2,none⟩=some (.string u'.name)∧W.cell? ⟨b',o'+i*5+3,none⟩=some (.int .i64 u'.ver)∧W.cell? ⟨b',o'+i*5+4,none⟩=some (.slice u'.A u'.n u'.c)):=Hj fun W hW=>⟨Kz hW _ _ d0,Kz hW _ _ d1,Kz hW _ _ d2,Kz hW _ _ d3,Kz hW _ _ d4⟩
   have yN:=Hj hlt
   clear hi hb hlt hx hx' hu hu'
   go_wp2
   go_region_held3 (fun w'=>w'.cell? ⟨b,o+i*5,none⟩=some (.int .i64 u.kind)∧w'.cell? ⟨b,o+i*5+1,none⟩=some (.string u.space)∧w'.cell? ⟨b,o+i*5+2,none⟩=some (.string u.name)∧w'.cell? ⟨b,o+i*5+3,none⟩=some (.int .i64 u.ver)∧w'.cell? ⟨b,o+i*5+4,none⟩=some (.slice u.A u.n u.c)∧w'.cell? ⟨b',o'+i*5,none⟩=some (.int .i64 u'.kind)∧w'.cell? ⟨b',o'+i*5+1,none⟩=some (.string u'.space)∧w'.cell? ⟨b',o'+i*5+2,none⟩=some (.string u'.name)∧w'.cell? ⟨b',o'+i*5+3,none⟩=some (.int .i64 u'.ver)∧w'.cell? ⟨b',o'+i*5+4,none⟩=some (.slice u'.A u'.n u'.c)) (first | exact⟨by assumption,by assumption,by assumption,by assumption,by assumption,by assumption,by assumption,by assumption,by assumption,by assumption⟩ | go_keep) (first
    | (go_at_call 22;((refine(HS.out wr.drew (bV (aj _ _))).mono ?_);rintro e w2 ⟨rfl,hb2⟩;have B2:Hid (Bw wr w2):=Hj ((bV (aj _ _)).trans hb2);obtain⟨x0,x1,x2,x3,x4⟩:=XU.out w2 B2.out;obtain⟨y0,y1,y2,y3,y4⟩:=LJ.out w2 B2.out;clear hb2))
    | fail)
   all_goals
    go_wp2
    go_roundg (gk-1)
    case measure=>have:=HI.out;have:=yN.out;omega
    case rel=>exact⟨i+1,by go_num,by have:=HI.out;have:=yN.out;omega,HB.out.trans (B2.out.mono HB.out.size)⟩
  ·obtain rfl:i=n:=by omega
   go_wp2
   go_ret
   exact⟨rfl,HB.out⟩
end
end Go.Proofs.YtdhbpajamlfacaaGreatDoor
