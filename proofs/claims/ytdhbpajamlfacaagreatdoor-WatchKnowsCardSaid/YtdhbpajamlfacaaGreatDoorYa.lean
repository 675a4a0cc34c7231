/- Layer 21 (watch): New of any kind, Known; SameObjects. -/
import Derived.Test.YtdhbpajamlfacaaGreatDoorYb
set_option maxRecDepth 100000
namespace Go.Proofs.YtdhbpajamlfacaaGreatDoor
open Go.RowKit SO
section
variable {P:Nat→Prop} {w w0:World} {gw gt cur:Nat} {ea:Nat→Addr} {kind:Int} {space:ByteArray} {all:Bool} {K:List (ByteArray×aH)}
set_option maxHeartbeats 4000000 in
/-- New, of one space. -/
theorem newA (kind:Int) (space:ByteArray) (w:World) (he:Errs w ea):Calls Tryz.prog 9 #[.int .i64 kind,.string space,.bool false] w fun e w'=>Below w.heap.size w w'∧(if bU kind space ⟨#[97]⟩=true then ∃gw gt,e=.returned (.tuple #[.pointer (some ⟨gw,0,none⟩),.nilIface])∧fA w' gw gt kind space false 0∧w'.heap[gt]?=some (.cells #[.pointer none] 146 (0,0))∧w.heap.size≤gw∧w.heap.size≤gt else e=.returned (.tuple #[.pointer none,.iface 368 (.pointer (some (ea 9)))])):=by
 obtain⟨b,hb⟩:∃b,b=bU kind space ⟨#[97]⟩:=⟨_,rfl⟩
 rw[←hb]
 have HR:Hid (∀W,Calls Tryz.prog 27 #[.agg #[.int .i64 kind,.string space,.string ⟨#[97]⟩,.int .i64 0,.slice none 0 0]] W fun e w'=>e=.returned (.bool b)∧Below W.heap.size W w'):=Hj fun W=>(zh ⟨kind,space,⟨#[97]⟩,0,none,0,0⟩ W).mono fun e w' h=>⟨h.1.trans (by rw[hb];simp),h.2⟩
 have HE:Hid (∀W,Below w.heap.size w W→W.cell? ⟨0,0,none⟩=some (.iface 368 (.pointer (some (ea 9))))):=Hj fun W hW=>(he.below hW).cell 9 (by decide) (by decide)
 clear hb he
 cases b
 all_goals
  go_enter Tryz.func9,Tryz.ntmps9
  go_wp2_with (first
   | (go_at_call 27;obtain⟨w1,hw1⟩:∃W,W=w.alloc (.cells #[.int .i64 kind,.string space,.string ⟨#[97]⟩,.int .i64 0,.slice none 0 0] 37):=⟨_,rfl⟩;rw[←hw1];have B1:Hid (Below w.heap.size w w1):=Hj (by rw[hw1];exact(Below.refl _ w).alloc Kv _);clear hw1;((with_reducible refine(HR.out w1).mono ?_);rintro e w2 ⟨rfl,hb⟩;have B2:=Hj (B1.out.trans (hb.mono B1.out.size));have e9:=HE.out w2 B2.out;clear hb))
   | (go_at_call 28;((with_reducible refine(Jm w2).mono ?_);rintro e w3 ⟨rfl,⟨p,hp,rfl,-⟩,hb⟩;have T3:=Hj hp;have B3:=Hj hb;clear hp hb))
   | fail)
 ·go_region_law (fail)
  all_goals
   go_wp2
   exact bodyPost_ret (results_tmp2 rfl _ _ _) rfl ⟨aB B2.out,rfl⟩
 ·have hb:=fun o=>(Below.refl _ w3).alloc Kv o
  have hB:=B2.out.trans (B3.out.mono B2.out.size)
  refine bodyPost_ret (results_tmp2 rfl _ _ _) rfl ⟨hB.trans ((hb _).mono hB.size),?_⟩
  exact⟨_,rfl,w2.heap.size,heap_alloc_new w3 _,((hb _).block _ (Cq T3.out)).trans T3.out,hB.size,B2.out.size⟩
set_option maxHeartbeats 4000000 in
/-- Known: all that it knows. -/
theorem XI (hw:fA w gw gt kind space all cur) (hK:KT w P gt K) (hl:K.length≤100000) (ho:∀x∈K,x.2.data.length≤1000000):
  Calls Tryz.prog 17 #[.pointer (some ⟨gw,0,none⟩)] w fun e w'=>∃v,e=.returned v∧OS w' w.heap.size v (K.map fun x=>x.2)∧Below w.heap.size w w':=by
 obtain⟨sh,S1,h1,h2,h3,h4⟩:=hK
 obtain⟨r1,r2⟩:=KT.xs h2 h4
 have hxl:S1.length=K.length:=by rw[h2,List.length_map]
 have HC:Hid (∀W,Below w.heap.size w W→W.cell? ⟨gw,3,none⟩=some (.pointer (some ⟨gt,0,none⟩))):=Hj fun W hW=>Kq 3 ((hW.block gw (Cq hw)).trans hw)
 have yQ:Hid (Calls Tryz.prog 47 #[.pointer (some ⟨gt,0,none⟩)] w fun e w'=>∃v,e=.returned v∧OT w' w.heap.size v (S1.map fun x=>x.1)∧Below w.heap.size w w'):=Hj ((FK gt sh _ w h1 (by rw[List.length_map];omega)).mono fun e w' ⟨v,e1,e2,e3⟩=>⟨v,e1,by
  have:=ah.vO e2
  unfold OT
  rw[List.length_map,List.map_map] at this ⊢
  exact this,e3⟩)
 have mQ:Hid (∀(W:World) (x:ByteArray×(OV×aH)),x∈S1→Below w.heap.size w W→Calls Tryz.prog 45 #[.pointer (some ⟨gt,0,none⟩),(.string x.1)] W fun e w'=>e=.returned (.tuple #[(.agg #[.int .i64 x.2.1.kind,.string x.2.1.space,.string x.2.1.name,.int .i64 x.2.1.ver,.slice x.2.1.A x.2.1.n x.2.1.c]),.bool true])∧Below W.heap.size W w'):=Hj fun W x hx hW=>by
  obtain⟨i,hi⟩:=List.mem_iff_getElem?.1 hx
  exact nC gt x.1 x.2.1 sh _ W (h1.below hW) r2 (qO gB r2 (i:=i) (e:=(x.1,x.2.1)) (by rw[List.getElem?_map,hi];rfl))
 have Eb:Hid (∀x∈S1,dI w x.2.1 x.2.2∧x.2.1.n≤1000000):=Hj fun x hx=>⟨(h3 x hx).1,by rw[(h3 x hx).1.num];exact ho (x.1,x.2.2) (by rw[h2];exact List.mem_map.2 ⟨x,hx,rfl⟩)⟩
 have c3:=HC.out w (Below.refl _ _)
 have hn0:S1.length≤100000:=by omega
 rw[h2]
 clear hw hl ho h1 h2 h3 h4 r1 r2 hxl
 obtain⟨n,hn⟩:∃n,n=S1.length:=⟨_,rfl⟩
 have Hn:=Hj hn
 rw[←hn] at hn0
 clear hn
 go_enter Tryz.func17,Tryz.ntmps17
 go_wp2_with (first
  | (go_at_call 47;((with_reducible refine yQ.out.mono ?_);rintro e wb ⟨vb,rfl,hob,hbb⟩;obtain⟨Ab,cb,rfl,WO,hcb2⟩:=hob.form;rw[List.length_map,←Hn.out] at WO;have Dk:=Hj hbb;have HOb:=Hj hob;have HE:Hid (Value.slice Ab (S1.map fun x=>x.1).length cb=Value.slice Ab n cb):=Hj (by rw[List.length_map,←Hn.out]);rw[HE.out];clear hob hbb))
  | fail)
 go_loopw [3,14] (fun v i wr=>∃(j:Nat) (os:List OV),j≤n∧i=.int .i64 (j:Int)∧os.length=j∧OL wr wb.heap.size v os∧uU wr wb.heap.size os ((S1.take j).map fun x=>(x.1,x.2.2))∧Below wb.heap.size wb wr) (fun _ i _=>n-(intOf i).toNat)
 case atStart=>exact⟨0,[],Nat.zero_le _,rfl,rfl,OL.nil _ _,fun i x hx=>by simp at hx,Below.refl _ _⟩
 case round=>
  obtain⟨j,os,hj,rfl,hlen,hown,Ec,hbel⟩:=hrel
  have fH:=Hj hbel
  have J3:Hid (Below w.heap.size w wr):=Hj (Dk.out.trans (hbel.mono Dk.out.size))
  obtain⟨Ao,co,rfl,Ox,Y9⟩:=ah.form hown
  rw[hlen] at Ox
  have HO:=Hj hown
  have Za:Hid (Value.slice Ao os.length co=Value.slice Ao j co):=Hj (by rw[hlen])
  rw[Za.out] at HO ⊢
  have HLn:=Hj hlen
  have Ed:=Hj Ec
  clear hown Ec hbel hlen
  by_cases hlt:j<n
  ·obtain ⟨x,hx⟩:∃x,S1[j]?=some x:=⟨_,List.getElem?_eq_getElem (by rw[←Hn.out];exact hlt)⟩
   have hmem:x∈S1:=List.mem_iff_getElem?.2 ⟨j,hx⟩
   have HX:=Hj hx
   have HMem:=Hj hmem
   have hkey:∃b o,Ab=some ⟨b,o,none⟩∧wb.cell? ⟨b,o+j,none⟩=some (.string x.1):=by
    have hr:=RX.gW HOb.out
    obtain⟨b,o,e,hc⟩:=hr.2 (by rw[List.length_map,←Hn.out];omega)
    refine⟨b,o,e,?_⟩
    have h1:=hc j (by rw[List.length_map,←Hn.out];exact hlt)
    rw[List.getD_eq_getElem?_getD,List.getElem?_map,List.getElem?_map,hx] at h1
    exact h1
   obtain⟨kb,ko,rfl,kc⟩:=hkey
   have k1:wr.cell? ⟨kb,ko+j,none⟩=some (.string x.1):=Kz fH.out _ _ kc
   have c2:wr.cell? ⟨gw,3,none⟩=some (.pointer (some ⟨gt,0,none⟩)):=HC.out wr J3.out
   have HG:=Hj (mQ.out wr x hmem J3.out)
   obtain⟨hi1,hi2⟩:=Eb.out x hmem
   have ql:=Hj hi1
   have pO:=Hj hi2
   have z0:(0:Int)≤(j:Int):=by omega
   have z1:(j:Int)<(n:Int):=by omega
   clear hx hmem kc hi1 hi2
   go_wp2_with (first
    | (go_at_call 45;((with_reducible refine HG.out.mono ?_);rintro e w3 ⟨rfl,hb3⟩;have HB3:=Hj hb3;clear hb3))
    | (go_at_call 48;(
     obtain⟨w4,hw4⟩:∃W,W=w3.alloc (.cells #[.int .i64 x.2.1.kind,.string x.2.1.space,.string x.2.1.name,.int .i64 x.2.1.ver,.slice x.2.1.A x.2.1.n x.2.1.c] 37):=⟨_,rfl⟩
     have Oy:=(Below.refl w3.heap.size w3).alloc Kv (.cells #[.int .i64 x.2.1.kind,.string x.2.1.space,.string x.2.1.name,.int .i64 x.2.1.ver,.slice x.2.1.A x.2.1.n x.2.1.c] 37)
     rw[←hw4] at Oy
     have HB4:Hid (Below wr.heap.size wr w4):=Hj (HB3.out.trans (Oy.mono HB3.out.size))
     rw[←hw4]
     (with_reducible refine(BJ x.2.1 w4 x.2.2.data (ql.out.below (J3.out.trans (HB4.out.mono J3.out.size))).rb pO.out).mono ?_)
     rintro e w5 ⟨A5,c5,rfl,vF,hb5⟩
     have CO:=Hj vF
     have kT:Hid (Below wr.heap.size wr w5):=Hj (HB4.out.trans (hb5.mono HB4.out.size))
     have HU5:Hid (wb.heap.size≤w4.heap.size):=Hj (Cz fH.out.size HB4.out.size)
     clear vF hb5 hw4 Oy))
    | (at_builtin;(refine gX (u:=⟨x.2.1.kind,x.2.1.space,x.2.1.name,x.2.1.ver,A5,x.2.1.n,c5⟩) rfl (.tmp 27) (.tmp 30) rfl (ah.alloc (HO.out.below kT.out) _) rfl (Src.obj w5 ⟨x.2.1.kind,x.2.1.space,x.2.1.name,x.2.1.ver,A5,x.2.1.n,c5⟩) rfl ?_ ?_ ?_;rotate_right;intro v1 w6 hown1 jC;replace hown1:=Hj hown1;replace jC:=Hj jC)))
   case refine_1=>rw[HLn.out];omega
   case refine_2=>rw[World.size_alloc];have h1:=fH.out.size;have h2:=kT.out.size;omega
   go_roundw
   case rel=>
    have WQ:Below wb.heap.size wb (w5.alloc (.cells #[.int .i64 x.2.1.kind,.string x.2.1.space,.string x.2.1.name,.int .i64 x.2.1.ver,.slice A5 x.2.1.n c5] 37)):=(fH.out.trans (kT.out.mono fH.out.size)).alloc (Cz fH.out.size kT.out.size) _
    have hold:=ah.alloc (HO.out.below kT.out) (.cells #[.int .i64 x.2.1.kind,.string x.2.1.space,.string x.2.1.name,.int .i64 x.2.1.ver,.slice A5 x.2.1.n c5] 37)
    have hgr:=Fr.aU jC.out
    have hap:∀(v:OV) (o:aH),dI (w5.alloc (.cells #[.int .i64 x.2.1.kind,.string x.2.1.space,.string x.2.1.name,.int .i64 x.2.1.ver,.slice A5 x.2.1.n c5] 37)) v o→dI w6 v o:=fun v o hv=>hv.fr hgr fun k hk e=>by
     obtain⟨cur,hc⟩:=ak hv.data hk
     obtain⟨Zb,hc2⟩:=ak hold e.symm
     exact absurd (aj hc hc2) (by decide)
    refine⟨j+1,os++[⟨x.2.1.kind,x.2.1.space,x.2.1.name,x.2.1.ver,A5,x.2.1.n,c5⟩],hlt,by go_num,by rw[List.length_append,HLn.out];rfl,hown1.out,?_,WQ.grown jC.out (Cz fH.out.size (Cz kT.out.size (by rw[World.size_alloc];omega))) fun k hk=>(ah.lt hold k hk).1⟩
    rw[List.take_succ_eq_append_getElem (by rw[←Hn.out];exact hlt),List.map_append]
    have hx:=HX.out
    rw[List.getElem?_eq_getElem (by rw[←Hn.out];exact hlt)] at hx
    injection hx with hx
    rw[hx]
    have h5:dI w5 ⟨x.2.1.kind,x.2.1.space,x.2.1.name,x.2.1.ver,A5,x.2.1.n,c5⟩ x.2.2:=⟨ql.out.kind,ql.out.space,ql.out.name,ql.out.ver,ql.out.num,OB.mono CO.out (Nat.zero_le _)⟩
    refine uU.snoc (Ed.out.turn fun v o hv _=>hap v o ((hv.below kT.out).below ((Below.refl _ _).alloc Kv _))) ?_ (x:=(x.1,x.2.2)) (hap _ _ (h5.below ((Below.refl _ _).alloc Kv _))) fun k hk=>Cz HU5.out (ah.lt CO.out k hk).1
    rw[HLn.out,List.length_map,List.length_take,←Hn.out]
    omega
   case measure=>simp[intOf];omega
  ·obtain rfl:j=n:=by omega
   go_wp2
   go_ret
   have hj:=Ed.out
   rw[List.take_of_length_le (by rw[←Hn.out];exact Nat.le_refl _)] at hj
   exact⟨_,rfl,(OS.BU HO.out (by rw[List.length_map,HLn.out,Hn.out]) hj).mono Dk.out.size,J3.out⟩
set_option maxHeartbeats 1000000 in
/-- SameObject, of the same. -/
theorem QS (a b:OV) (o:aH) (w:World) (ha:dI w a o) (hb:dI w b o):
  Calls Tryz.prog 22 #[.agg #[.int .i64 a.kind,.string a.space,.string a.name,.int .i64 a.ver,.slice a.A a.n a.c],.agg #[.int .i64 b.kind,.string b.space,.string b.name,.int .i64 b.ver,.slice b.A b.n b.c]] w fun e w'=>e=.returned (.bool true)∧Below w.heap.size w w':=by
 have hB:=((Below.refl w.heap.size w).alloc Kv (.cells #[.int .i64 a.kind,.string a.space,.string a.name,.int .i64 a.ver,.slice a.A a.n a.c] 37)).alloc (by simp) (.cells #[.int .i64 a.kind,.string a.space,.string a.name,.int .i64 a.ver,.slice b.A b.n b.c] 37)
 have hk:=Kz hB
 have ra:=fU (P:=Tryz.prog) Tryz.underlying35 Tryz.underlying5 Tryz.underlying9 (c:=a.c) (ha.rb.keep hk)
 have rb:=fU (P:=Tryz.prog) Tryz.underlying35 Tryz.underlying5 Tryz.underlying9 (c:=b.c) (hb.rb.keep hk)
 rw[hb.kind.trans ha.kind.symm,hb.space.trans ha.space.symm,hb.name.trans ha.name.symm,hb.ver.trans ha.ver.symm]
 have HB:=Hj hB
 clear ha hb hB hk
 go_enter Tryz.func22,Tryz.ntmps22
 go_wp2
 go_ret
 exact⟨rfl,HB.out⟩
theorem Fb {base:Nat} {A:Option Addr} {n c i:Nat} {l:List aH} (h:OS w base (.slice A n c) l) (hi:i<l.length):∃b o u x,A=some ⟨b,o,none⟩∧l[i]?=some x∧dI w u x∧w.cell? ⟨b,o+i*5,none⟩=some (.int .i64 u.kind)∧w.cell? ⟨b,o+i*5+1,none⟩=some (.string u.space)∧w.cell? ⟨b,o+i*5+2,none⟩=some (.string u.name)∧w.cell? ⟨b,o+i*5+3,none⟩=some (.int .i64 u.ver)∧w.cell? ⟨b,o+i*5+4,none⟩=some (.slice u.A u.n u.c):=by
 obtain⟨os,h1,rfl,h3⟩:=h
 rw[List.length_map] at hi
 obtain⟨b,o,rfl,-,hcell⟩:=GV h1 (by rw[List.length_map];omega)
 obtain⟨x,hx⟩:∃x,os[i]?=some x:=⟨_,List.getElem?_eq_getElem hi⟩
 have e0:=fun j y=>hcell i x.1 (by rw[List.getElem?_map,hx];rfl) j y
 exact⟨b,o,x.1,x.2,rfl,by rw[List.getElem?_map,hx];rfl,h3 x (List.mem_of_getElem? hx),e0 0 _ rfl,e0 1 _ rfl,e0 2 _ rfl,e0 3 _ rfl,e0 4 _ rfl⟩
set_option maxHeartbeats 4000000 in
/-- SameObjects, of the same. -/
theorem MF {b1 b2:Nat} {A A2:Option Addr} {n c c2:Nat} {l:List aH} (h1:OS w b1 (.slice A n c) l) (h2:OS w b2 (.slice A2 n c2) l) (hn:n=l.length) (hl:n≤100000):
  Calls Tryz.prog 16 #[.slice A n c,.slice A2 n c2] w fun e w'=>e=.returned (.bool true)∧Below w.heap.size w w':=by
 have H1:=Hj h1
 have H2:=Hj h2
 have HN:=Hj hn
 have HL:=Hj hl
 clear h1 h2 hn hl
 go_enter Tryz.func16,Tryz.ntmps16
 go_wp2
 go_loopg [13] n (fun gk s13 wr=>∃i:Nat,s13=.int .i64 (i:Int)∧i+gk=n∧Below w.heap.size w wr)
 case atStart=>exact⟨0,rfl,by omega,Below.refl _ _⟩
 case round=>
  obtain⟨i,rfl,hi,hb⟩:=hrel
  have HI:=Hj hi
  have HB:=Hj hb
  by_cases hlt:i<n
  ·obtain ⟨b,o,u,x,rfl,hx,hu,a0,a1,a2,a3,a4⟩:=Fb (H1.out.below hb) (i:=i) (by rw[←HN.out];exact hlt)
   obtain⟨b',o',u',x',rfl,hx',hu',d0,d1,d2,d3,d4⟩:=Fb (H2.out.below hb) (i:=i) (by rw[←HN.out];exact hlt)
   obtain rfl:=Option.some.inj (hx.symm.trans hx')
   have HS:Hid (∀W,Below wr.heap.size wr W→Calls Tryz.prog 22 #[.agg #[.int .i64 u.kind,.string u.space,.string u.name,.int .i64 u.ver,.slice u.A u.n u.c],.agg #[.int .i64 u'.kind,.string u'.space,.string u'.name,.int .i64 u'.ver,.slice u'.A u'.n u'.c]] W fun e w'=>e=.returned (.bool true)∧Below W.heap.size W w'):=Hj fun W hW=>QS u u' x W (hu.below hW) (hu'.below hW)
   have i0:(0:Int)≤(i:Int):=Int.natCast_nonneg i
   have i1:(i:Int)<(n:Int):=Int.ofNat_lt.2 hlt
   have i2:(i:Int)≤100000:=by have:=HL.out;omega
   have Vz:Hid (∀W,Below wr.heap.size wr W→W.cell? ⟨b,o+i*5,none⟩=some (.int .i64 u.kind)∧W.cell? ⟨b,o+i*5+1,none⟩=some (.string u.space)∧W.cell? ⟨b,o+i*5+2,none⟩=some (.string u.name)∧W.cell? ⟨b,o+i*5+3,none⟩=some (.int .i64 u.ver)∧W.cell? ⟨b,o+i*5+4,none⟩=some (.slice u.A u.n u.c)):=Hj fun W hW=>⟨Kz hW _ _ a0,Kz hW _ _ a1,Kz hW _ _ a2,Kz hW _ _ a3,Kz hW _ _ a4⟩
   have OD:Hid (∀W,Below wr.heap.size wr W→W.cell? ⟨b',o'+i*5,none⟩=some (.int .i64 u'.kind)∧W.cell? ⟨b',o'+i*5+1,none⟩=some (.string u'.space)∧W.cell? ⟨b',o'+i*5+2,none⟩=some (.string u'.name)∧W.cell? ⟨b',o'+i*5+3,none⟩=some (.int .i64 u'.ver)∧W.cell? ⟨b',o'+i*5+4,none⟩=some (.slice u'.A u'.n u'.c)):=Hj fun W hW=>⟨Kz hW _ _ d0,Kz hW _ _ d1,Kz hW _ _ d2,Kz hW _ _ d3,Kz hW _ _ d4⟩
   have CP:=Hj hlt
   clear hi hb hlt hx hx' hu hu'
   go_wp2
   go_region_held3 (fun w'=>w'.cell? ⟨b,o+i*5,none⟩=some (.int .i64 u.kind)∧w'.cell? ⟨b,o+i*5+1,none⟩=some (.string u.space)∧w'.cell? ⟨b,o+i*5+2,none⟩=some (.string u.name)∧w'.cell? ⟨b,o+i*5+3,none⟩=some (.int .i64 u.ver)∧w'.cell? ⟨b,o+i*5+4,none⟩=some (.slice u.A u.n u.c)∧w'.cell? ⟨b',o'+i*5,none⟩=some (.int .i64 u'.kind)∧w'.cell? ⟨b',o'+i*5+1,none⟩=some (.string u'.space)∧w'.cell? ⟨b',o'+i*5+2,none⟩=some (.string u'.name)∧w'.cell? ⟨b',o'+i*5+3,none⟩=some (.int .i64 u'.ver)∧w'.cell? ⟨b',o'+i*5+4,none⟩=some (.slice u'.A u'.n u'.c)) (first | exact⟨by assumption,by assumption,by assumption,by assumption,by assumption,by assumption,by assumption,by assumption,by assumption,by assumption⟩ | go_keep) (first
    | (go_at_call 22;((with_reducible refine(HS.out wr.drew (Below.drew (Below.refl _ _))).mono ?_);rintro e w2 ⟨rfl,hb2⟩;have B2:Hid (Below wr.heap.size wr w2):=Hj ((Below.drew (Below.refl _ _)).trans hb2);obtain⟨x0,x1,x2,x3,x4⟩:=Vz.out w2 B2.out;obtain⟨y0,y1,y2,y3,y4⟩:=OD.out w2 B2.out;clear hb2))
    | fail)
   all_goals
    go_wp2
    go_roundg (gk-1)
    case measure=>have:=HI.out;have:=CP.out;omega
    case rel=>exact⟨i+1,by go_num,by have:=HI.out;have:=CP.out;omega,HB.out.trans (B2.out.mono HB.out.size)⟩
  ·obtain rfl:i=n:=by omega
   go_wp2
   go_ret
   exact⟨rfl,HB.out⟩
end
end Go.Proofs.YtdhbpajamlfacaaGreatDoor
