/- Layer 21 (watch): New of any kind, Right, Copy, Get. -/
import Derived.Test.YtdhbpajamlfacaaGreatDoorYa
import Derived.Test.YtdhbpajamlfacaaGreatDoorRm
import Derived.Test.YtdhbpajamlfacaaGreatDoorZc
import Derived.Test.YtdhbpajamlfacaaGreatDoorWg
set_option maxHeartbeats 4000000
set_option maxRecDepth 100000
namespace Go.Proofs.YtdhbpajamlfacaaGreatDoor
open Go.RowKit SO
/-- May a watcher be of that kind and namespace? -/
def jR (kind:Int) (space:ByteArray) (all:Bool):Bool:=if all=true then decide (1≤kind)&&decide (kind≤7) else dJ kind space ⟨#[97]⟩
theorem J8 (kind:Int):dJ kind (if fV kind=true then ⟨#[97]⟩ else ⟨#[]⟩) ⟨#[97]⟩=(decide (1≤kind)&&decide (kind≤7)):=by
 unfold dJ
 have h1:eF (⟨#[97]⟩:ByteArray).data.toList=true:=by decide
 rw[h1]
 cases h:fV kind with
 | true=>simp[h1]
 | false=>
  have e:decide ((⟨#[]⟩:ByteArray).size=0)=true:=by decide
  simp only[Bool.false_eq_true,if_false,e,Bool.true_and,Bool.and_true]
section
variable {w w0:World} {gw gt cur:Nat} {ea:Nat→Addr} {kind:Int} {space:ByteArray} {all:Bool} {K:List (ByteArray×aC)} {P:Nat→Prop}
theorem newG (kind:Int) (space:ByteArray) (all:Bool) (w:World) (he:Errs w ea):Cl 9 #[.int .i64 kind,.string space,.bool all] w fun e w'=>Bw w w'∧(if jR kind space all=true then ∃gw gt,e=.returned (.tuple #[pt gw,.nilIface])∧iY w' gw gt kind space all 0∧w'.heap[gt]?=some (.cells #[.pointer none] 146 (0,0))∧w.heap.size≤gw∧w.heap.size≤gt else e=.returned (.tuple #[.pointer none,.iface 368 (.pointer (some (ea 9)))])):=by
 obtain⟨b,hb⟩:∃b,b=jR kind space all:=⟨_,rfl⟩
 rw[←hb]
 have HR:Hid (∀W sp,(sp=if all=true then (if fV kind=true then ⟨#[97]⟩ else ⟨#[]⟩) else space)→Cl 27 #[.agg #[.int .i64 kind,.string sp,.string ⟨#[97]⟩,.int .i64 0,.slice none 0 0]] W fun e w'=>e=.returned (.bool b)∧Bw W w'):=Hj fun W sp hsp=>(BR ⟨kind,sp,⟨#[97]⟩,0,none,0,0⟩ W).mono fun e w' h=>⟨h.1.trans (by
  rw[hb,hsp]
  unfold jR
  cases all with
  | true=>rw[aF rfl,aF rfl,←J8];simp
  | false=>simp),h.2⟩
 have HE:Hid (∀W,Bw w W→W.cell? ⟨0,0,none⟩=some (.iface 368 (.pointer (some (ea 9))))):=Hj fun W hW=>(he.below hW).cell 9 (by decide) (by decide)
 have hcase:(all=false)∨(all=true∧kind=5)∨(all=true∧kind=6)∨(all=true∧(kind==5)=false∧(kind==6)=false):=by
  simp only[beq_eq_false_iff_ne]
  cases all<;>simp
  omega
 have HB0:=Hj fun o=>(aj w.heap.size w).alloc Kv o
 clear hb he
 cases b
 all_goals
  rcases hcase with rfl | ⟨rfl,rfl⟩ | ⟨rfl,rfl⟩ | ⟨rfl,k5,k6⟩
  all_goals
   first
   | have HS:=Hj fun W=>HR.out W space rfl
   | have HS:=Hj fun W=>HR.out W ⟨#[97]⟩ rfl
   | have HS:=Hj fun W=>HR.out W ⟨#[]⟩ (by
      have h5:¬kind=5:=fun e=>by rw[e] at k5;cases k5
      have h6:¬kind=6:=fun e=>by rw[e] at k6;cases k6
      unfold fV
      simp[h5,h6])
   go_enter Tryz.func9,Tryz.ntmps9
   go_wp2_with (first
    | (go_at_call 27;((refine(HS.out _).mono ?_);rintro e w2 ⟨rfl,hb⟩;have B2:Hid (Bw w w2):=Hj ((HB0.out _).trans (hb.mono (HB0.out _).size));have e9:=HE.out w2 B2.out;clear hb))
    | (go_at_call 28;((refine(Md w2).mono ?_);rintro e w3 ⟨rfl,⟨p,hp,rfl,-⟩,hb⟩;have T3:=Hj hp;have B3:=Hj hb;clear hp hb))
    | fail)
   first
   | (go_region_law (fail)
      all_goals
       go_wp2
       exact bg (eG rfl _ _ _) rfl ⟨aJ B2.out,rfl⟩)
   | (have hb:=fun o=>(aj _ w3).alloc Kv o
      have hB:=B2.out.trans (B3.out.mono B2.out.size)
      refine bg (eG rfl _ _ _) rfl ⟨hB.trans ((hb _).mono hB.size),?_⟩
      exact⟨_,rfl,w2.heap.size,aA w3 _,((hb _).block _ (Cq T3.out)).trans T3.out,hB.size,B2.out.size⟩)
end
section
variable {w w0:World} {gw gt cur:Nat} {kind:Int} {space:ByteArray} {all:Bool} {K:List (ByteArray×aC)} {P:Nat→Prop}
theorem MK (kind:Int) (space:ByteArray) (all:Bool) (w:World):Cl 18 #[.int .i64 kind,.string space,.bool all] w fun e w'=>e=.returned (.bool (jR kind space all))∧Bw w w':=by
 have HN:=Hj fun W=>Ef ⟨kind,space,⟨#[97]⟩,0,none,0,0⟩ W
 have hc:(all=true∧¬(1:Int)≤kind∧jR kind space all=false)∨(all=true∧(1:Int)≤kind∧¬kind≤7∧jR kind space all=false)∨(all=true∧(1:Int)≤kind∧kind≤7∧jR kind space all=true)∨(all=false∧jR kind space all=dJ kind space ⟨#[97]⟩):=by
  unfold jR
  cases all with
  | false=>exact .inr (.inr (.inr ⟨rfl,by simp⟩))
  | true=>
   by_cases h1:(1:Int)≤kind<;>by_cases h7:kind≤7<;>simp[h1,h7]
 rcases hc with ⟨rfl,h1,h⟩ | ⟨rfl,h1,h2,h⟩ | ⟨rfl,h1,h2,h⟩ | ⟨rfl,h⟩
 all_goals
  rw[h]
  clear h
  go_enter Tryz.func18,Tryz.ntmps18
  go_wp2_with (first
   | (go_at_call 49;((refine(HN.out _).mono ?_);rintro e w2 ⟨rfl,hb⟩;have HB:=Hj hb;clear hb))
   | fail)
  go_ret
  first
  | exact⟨rfl,aj _ _⟩
  | exact⟨rfl,HB.out⟩
theorem ZM {g:Nat} {s:Code} {l:List (ByteArray×OV)} (a:TabAt w g s l):Cl 53 #[pt g] w fun e w'=>e=.returned (pt w.heap.size)∧TabAt w' w.heap.size s l∧Bw w w':=by
 obtain⟨p,h1,h2⟩:=a
 have c0:=cell_of_one h1
 have hb:=(aj w.heap.size w).alloc Kv (.cells #[.pointer p] 146)
 have HP:Hid (TabAt (w.alloc (.cells #[.pointer p] 146)) w.heap.size s l):=Hj ⟨p,aA w _,T.keep h2 (BK.of_below hb)⟩
 have HB:=Hj hb
 clear h1 h2 hb
 go_enter Tryz.func53,Tryz.ntmps53
 go_wp2
 go_ret
 exact⟨rfl,HP.out,HB.out⟩
theorem copyW (hw:iY w gw gt kind space all cur) (hK:KT w P gt K):Cl 20 #[pt gw] w fun e w'=>∃gw' gt',e=.returned (pt gw')∧iY w' gw' gt' kind space all cur∧KT w' P gt' K∧w.heap.size≤gw'∧w.heap.size≤gt'∧Bw w w':=by
 obtain⟨w1,hw1⟩:∃W,W=w.alloc (.cells #[.int .i64 kind,.string space,.bool all,pt gt,.int .i64 (cur:Int)] 85):=⟨_,rfl⟩
 have hb1:Bw w w1:=by rw[hw1];exact(aj _ w).alloc Kv _
 have hr1:w1.heap[w.heap.size]?=some (.cells #[.int .i64 kind,.string space,.bool all,pt gt,.int .i64 (cur:Int)] 85 (0,0)):=by rw[hw1];exact aA w _
 have hrw:=(hb1.block gw (Cq hw)).trans hw
 have c0:w.cell? ⟨gw,0,none⟩=some (.int .i64 kind):=Kq 0 hw
 have c1:w.cell? ⟨gw,1,none⟩=some (.string space):=Kq 1 hw
 have c2:w.cell? ⟨gw,2,none⟩=some (.bool all):=Kq 2 hw
 have c3:w.cell? ⟨gw,3,none⟩=some (pt gt):=Kq 3 hw
 have c4:w.cell? ⟨gw,4,none⟩=some (.int .i64 (cur:Int)):=Kq 4 hw
 have d3:w1.cell? ⟨gw,3,none⟩=some (pt gt):=Kq 3 hrw
 have HK:=Hj (hK.below hb1)
 have HB1:=Hj hb1
 have HR1:=Hj hr1
 have HW:=Hj hw1
 clear hw hK hb1 hr1 hrw
 rw[hw1] at d3
 clear hw1
 go_enter Tryz.func20,Tryz.ntmps20
 obtain⟨sh,xs,h1,h2,h3,h4⟩:=HK.out
 have HT:=Hj h1
 have HX:=Hj (aB h2 (aB h3 h4))
 clear h1 h2 h3 h4
 go_wp2_with (first
  | (go_at_call 53;rw[←HW.out];((refine(ZM HT.out).mono ?_);rintro e w2 ⟨rfl,ht,hb⟩;have T2:=Hj ht;have B2:=Hj hb;have hr2:=(hb.block w.heap.size (Cq HR1.out)).trans HR1.out;have HR2:=Hj hr2;have e3:w2.cell? ⟨w.heap.size,3,none⟩=some (pt gt):=Kq 3 hr2;have f3:w2.frozen? ⟨w.heap.size,3,none⟩=false:=Kj hr2;clear ht hb hr2))
  | fail)
 go_ret
 have hF:Fr (fun k=>k=w.heap.size) w2 (w2.setCell ⟨w.heap.size,3,none⟩ (pt w1.heap.size)):=(Fr.refl (fun k=>k=w.heap.size) w2).setCell (p:=⟨w.heap.size,3,none⟩) (fun _=>rfl) _
 have hB:Bw w w2:=HB1.out.trans (B2.out.mono HB1.out.size)
 have hne:w1.heap.size≠w.heap.size:=fun e=>by have:=(Cq HR1.out);omega
 refine⟨w.heap.size,w1.heap.size,rfl,aI _ _ 3 _ _ _ HR2.out,⟨sh,xs,T2.out.fr hF hne fun b cs hc e=> ?_,HX.out.1,fun x hx=> ?_,HX.out.2.2⟩,bZ _,HB1.out.size,hB.setCell (p:=⟨w.heap.size,3,none⟩) Kv _⟩
 ·rw [e] at hc;exact absurd (ak hc HR2.out) (by decide)
 ·obtain ⟨k1,k2⟩:=HX.out.2.1 x hx
  refine⟨(k1.below B2.out).fr hF fun k hk e=> ?_,k2⟩
  obtain⟨_,hc⟩:=au (k1.below B2.out).data hk
  rw[e] at hc
  exact absurd (ak hc HR2.out) (by decide)
end
section
variable {m m':DM} {L L':LM} {M M':bQ} {e:Bool×aC} {n E:Nat}
/-- A change, where there is room. -/
theorem TR (hc:M.Can e) (hf:20+((jV e).length:Int)≤m.free) (hC:Nb M L m e n E M' L' m'):n=e.2.ver∧E=0∧M'=M.app e∧m'.free=m.free-(20+((jV e).length:Int)):=by
 have hv:=hc.ver
 have XL:=hc.most
 rcases jm L m (jV e) with ⟨h1,_⟩ | ⟨_,h0,h1,_⟩
 ·omega
 ·rcases hC with ⟨hr,_⟩ | ⟨_,⟨_,e1,e2,e3,e4,e5⟩ | ⟨Zj,_⟩⟩
  ·omega
  ·refine ⟨e1,e2,e3,?_⟩
   rw[e5,h1]
   unfold DM.free
   rw[nO,kW _ _ (by decide),kW _ _ (by decide)]
   show m.room-_-_-_=_
   omega
  ·rw [h0] at Zj;cases Zj
end
def va:OV:=⟨1,⟨#[]⟩,⟨#[97]⟩,0,none,0,0⟩
def vb:OV:=⟨1,⟨#[]⟩,⟨#[98]⟩,0,none,0,0⟩
def oa:aC:=fU st0 va []
def sa:bQ:=st0.app (false,oa)
def ob:aC:=fU sa vb []
def sb:bQ:=sa.app (false,ob)
theorem ask_a:dL va=0:=by decide+kernel
theorem ask_b:dL vb=0:=by decide+kernel
theorem cre_a:jS st0 va=0:=by decide+kernel
theorem cre_b:jS sa vb=0:=by decide+kernel
theorem ZI:((sb.evs.drop (0-sb.base)).foldl (iZ false 1 ⟨#[]⟩ false) []).length=2:=by decide+kernel
theorem XY:(jV (false,oa)).length≤56∧st0.Can (false,oa):=by
 have hc:st0.Can (false,oa):=(kK ask_a rfl (by decide)).1
 exact⟨CO (e:=(false,oa)) hc.ok hc.most,hc⟩
theorem XZ:(jV (false,ob)).length≤56∧sa.Can (false,ob):=by
 have hc:sa.Can (false,ob):=(kK (M:=sa) ask_b rfl (by decide)).1
 exact⟨CO (e:=(false,ob)) hc.ok hc.most,hc⟩
theorem aC.Ok.small {o:aC} (h:o.Ok):o.data.length≤1000000∧o.space.size≤1000∧o.name.size≤1000:=by
 have hd:=h.data
 obtain⟨p1,p2,p3,p4,p5⟩:=h.parts
 exact⟨by omega,by omega,by omega⟩
theorem OI {M:bQ} {kind:Int} {S:ByteArray} {all:Bool} (h:M.Ok):∀o∈jP M kind S all,(o.data.length≤1000000∧o.space.size≤1000∧o.name.size≤1000)∧o.Ok:=fun o ho=>by
 obtain⟨x,hx,rfl⟩:=bW.1 ho
 have:=(h.tab.each x (jB.1 hx).1).2.1
 exact⟨this.small,this⟩
theorem WE (M:bQ) (kind:Int) (S:ByteArray) (all:Bool):(jP M kind S all).length≤M.tab.length:=by unfold jP;rw[aX];exact kZ _ _
theorem wY (w:World) {ea:Nat→Addr} (hE:EW w ea) (he:Errs w ea):Cl 6 #[] w fun e w'=>e=.returned (.bool true)∧Bw w w':=by
 have HMd:=Hj (TG 1000 (by decide) (by decide) w)
 obtain⟨m0,hm0⟩:∃m:DM,m=⟨1000,fun _=>0⟩:=⟨_,rfl⟩
 obtain⟨L0,hL0⟩:∃L:LM,L=⟨0,1,[]⟩:=⟨_,rfl⟩
 have hr0:m0.free=1000:=by rw[hm0];rfl
 rw[←hm0,←hL0] at HMd
 have HA:Hid (∀W Q g gs,SW w W Q g m0 gs L0 st0→Cl 23 #[pt gs,.agg #[.int .i64 1,.string ⟨#[]⟩,.string ⟨#[97]⟩,.int .i64 0,.slice none 0 0]] W fun e w'=>∃(n:Nat) (m1:DM) (L1:LM),e=.returned (.tuple #[.int .i64 (n:Int),.nilIface])∧SW w w' (ext Q W w') g m1 gs L1 sa∧Fr Q W w'∧eX sa 1∧924≤m1.free):=Hj fun W Q g gs hs=>by
  obtain⟨f4,f5,f6,-⟩:=eX.start.facts (by decide)
  refine(rZ va [] hs he hE (RB.nil _ _) (by decide) (by decide) (by decide) f4 f5 f6).mono ?_
  rintro e w' ⟨n,E,M',L',m',rfl,hp,hsw,hf⟩
  have hk1:=(eX.start.cre (v:=va) (by decide) rfl hp).1.1
  rw[cre_a] at hp
  rcases hp with ⟨h,_⟩ | ⟨-,hC⟩
  ·exact absurd rfl h
  ·have hla:(jV (false,fU st0 va [])).length≤56:=XY.1
   obtain⟨e1,e2,e3,e4⟩:=TR XY.2 (by have:(jV (false,oa)).length≤56:=hla;rw[hr0];omega) hC
   subst e2
   subst e3
   exact⟨n,m',L',rfl,hsw,hf,hk1,by rw[e4,hr0];have:(jV (false,oa)).length≤56:=hla;omega⟩
 have HB:Hid (∀W Q g gs m1 L1,SW w W Q g m1 gs L1 sa→eX sa 1→924≤m1.free→Cl 23 #[pt gs,.agg #[.int .i64 1,.string ⟨#[]⟩,.string ⟨#[98]⟩,.int .i64 0,.slice none 0 0]] W fun e w'=>∃(n:Nat) (m2:DM) (L2:LM),e=.returned (.tuple #[.int .i64 (n:Int),.nilIface])∧SW w w' (ext Q W w') g m2 gs L2 sb∧Fr Q W w'):=Hj fun W Q g gs m1 L1 hs hk1 hl1=>by
  obtain⟨f4,f5,f6,-⟩:=hk1.facts (by decide)
  refine(rZ vb [] hs he hE (RB.nil _ _) (by decide) (by decide) (by decide) f4 f5 f6).mono ?_
  rintro e w' ⟨n,E,M',L',m',rfl,hp,hsw,hf⟩
  rw[cre_b] at hp
  rcases hp with ⟨h,_⟩ | ⟨-,hC⟩
  ·exact absurd rfl h
  ·have hlb:=XZ.1
   obtain⟨e1,e2,e3,-⟩:=TR XZ.2 (by have:(jV (false,ob)).length≤56:=hlb;omega) hC
   subst e2
   subst e3
   exact⟨n,m',L',rfl,hsw,hf⟩
 have HN:=Hj (newB false)
 have HSy:Hid (∀W Q g gs gw gt m2 L2,SW w W Q g m2 gs L2 sb→iY W gw gt 1 ⟨#[]⟩ false 0→W.heap[gt]?=some (.cells #[.pointer none] 146 (0,0))→Cl 11 #[pt gw,pt gs] W fun e w'=>∃an A c A2 n2 c2 iT,e=.returned (.tuple #[.agg #[.bool an,.slice A 2 c,.slice A2 n2 c2],.nilIface])∧iY w' gw iT 1 ⟨#[]⟩ false 2∧Fr (fun k=>k=gw∨k=gt) W w'):=Hj fun W Q g gs gw gt m2 L2 hs hw hg=>by
  refine(MG (P:=fun _=>True) hs hw (KT.nil hg) (bU _) (jP sb 1 ⟨#[]⟩ false) (fun W' hW'=>MC (hs.below hW') ((hW'.block gw (Cq hw)).trans hw) (by decide) (by decide) (by decide+kernel) (.inl rfl)) (fun o ho=>(OI hs.ok o ho).1) (Cz (WE _ _ _ _) (by decide+kernel)) (by decide) (by decide+kernel)).mono ?_
  rintro e w' ⟨an,pv,dv,iT,K',lp,ld,rfl,h1,h1',h2,-,h3,-,h4⟩
  obtain⟨A,c,rfl,-,-⟩:=h1.form
  obtain⟨A2,c2,rfl,-,-⟩:=h1'.form
  rcases h4 with ⟨h5,-⟩ | ⟨-,-,-,h5,-⟩
  ·exact absurd h5 (by decide)
  ·have:lp.length=2:=by rw[h5];exact ZI
   rw[this]
   exact⟨an,A,c,A2,_,c2,iT,rfl,h2,h3⟩
 clear hm0 hL0 hr0 hE he
 go_enter Tryz.func6,Tryz.ntmps6
 go_wp2_with (first
  | (go_at_call 8;((refine HMd.out.mono ?_);rintro e w1 ⟨gs,gd,g,Qs,Qd,rfl,hs1,-,-,hb1⟩;have S1:=Hj hs1;have B1:=Hj hb1;clear hs1 hb1))
  | (go_at_call 9;((refine(HN.out w1).mono ?_);rintro e w2 ⟨gw,gt,rfl,h1,h2,h3,h4,h5⟩;have W2:=Hj (aB h1 (aB h2 (aB h3 (aB h4 h5))));have S2:=Hj (S1.out.below h5);clear h1 h2 h3 h4 h5))
  | (go_at_call 23;(first
    | ((with_reducible refine(HA.out w2 Qs g gs S2.out).mono ?_);rintro e w3 ⟨n1,m1,L1,rfl,h1,h2,h3⟩;have S3:=Hj h1;have F3:=Hj h2;have K3:=Hj h3;clear h1 h2 h3)
    | (((with_reducible refine(HB.out w3 _ g gs m1 L1 S3.out K3.out.1 K3.out.2).mono ?_);rintro e w4 ⟨n2,m2,L2,rfl,h1,h2⟩;have S4:=Hj h1;have F4:=Hj h2;clear h1 h2))))
  | (go_at_call 11;obtain⟨h1,h2,h3,h4,h5⟩:=W2.out;have q1:∀k,w1.heap.size≤k→¬Qs k:=(fun k hk hq=>by have:=S1.out.hi k hq;omega);have r3:=(F3.out.block gw (Cq h1) (q1 gw h3)).trans h1;have t3:=(F3.out.block gt (Cq h2) (q1 gt h4)).trans h2;have r4:iY w4 gw gt 1 ⟨#[]⟩ false 0:=(F4.out.block gw (Cq r3) (fun e=>e.elim (q1 gw h3) fun e=>by have:=(Cq h1);omega)).trans r3;have t4:=(F4.out.block gt (Cq t3) (fun e=>e.elim (q1 gt h4) fun e=>by have:=(Cq h2);omega)).trans t3;((refine(HSy.out w4 _ g gs gw gt m2 L2 S4.out r4 t4).mono ?_);rintro e w5 ⟨an,A,c,A2,nd,c2,iT,rfl,k1,k2⟩;have H5:=Hj (aB k1 k2);clear k1 k2 r3 t3 r4 t4 q1 h1 h2 h3 h4 h5))
  | (go_at_call 14;obtain⟨w6,hw6⟩:∃W,W=w5.alloc (.cells #[.bool an,.slice A 2 c,.slice A2 nd c2] 43):=⟨_,rfl⟩;rw[←hw6];have b6:Bw w5 w6:=(by rw[hw6];exact(aj _ w5).alloc Kv _);have B6:=Hj b6;have hw7:iY w6 gw iT 1 ⟨#[]⟩ false 2:=(b6.block gw (Cq H5.out.1)).trans H5.out.1;((refine(MF (cur:=2) hw7).mono ?_);rintro e w7 ⟨rfl,rfl⟩))
  | fail)
 go_ret
 refine⟨rfl,?_⟩
 have h4:=S4.out.bel
 have h5:=h4.trans (H5.out.2.below h4.size fun k hk e=>by
  obtain⟨-,-,h3,h4',-⟩:=W2.out
  have:=B1.out.size
  rcases e with rfl | rfl<;>omega)
 exact h5.trans (((aj _ w5).alloc Kv _).mono h5.size)
/-- Both stores; the program's watcher, the document's. -/
structure Pl (D:Nat→Prop) (w0 w:World) (Qs Qd P:Nat→Prop) (g gs gd gx tx cx gy cy:Nat) (m:DM) (L:LM) (M:bQ) (kind:Int) (space:ByteArray) (all:Bool) (Kx:List (ByteArray×aC)) (kv:Value) (R:List (OV×aC)):Prop where
 two:Two D w0 w Qs Qd g gs gd m L M
 xr:iY w gx tx kind space all cx
 xt:KT w P tx Kx
 yr:vU w gy kind space all kv cy
 yk:OL w 0 kv (R.map Prod.fst)
 yi:EG w R
 yd:∀x∈R,∀k,(sl x.1).ownBlock=some k→D k
 ok:∀x∈R,x.2.Ok∧pI kind space all x.2=true
 dq:∀k,Qs k∨Qd k∨D k→k≠gx∧k≠tx∧k≠gy∧¬P k∧kv.ownBlock≠some k
 pl:∀k,P k→k<w.heap.size
 up:w0.heap.size≤gx∧w0.heap.size≤tx∧w0.heap.size≤gy
 np:¬P gy
section
variable {D D':Nat→Prop} {w w' w2 w0:World} {Qs Qd xZ P:Nat→Prop} {g gs gd gx tx ZT cx cx' gy cy cy' a b Uf PL:Nat} {m m':DM} {L L':LM} {M M':bQ} {kind:Int} {space:ByteArray} {all:Bool} {Kx K':List (ByteArray×aC)} {kv kv':Value} {R R':List (OV×aC)}
theorem Pl.below (h:Pl D w0 w Qs Qd P g gs gd gx tx cx gy cy m L M kind space all Kx kv R) (hb:Bw w w'):Pl D w0 w' Qs Qd P g gs gd gx tx cx gy cy m L M kind space all Kx kv R:=
 ⟨h.two.below hb,(hb.block gx (Cq h.xr)).trans h.xr,h.xt.below hb,(hb.block gy (Cq h.yr)).trans h.yr,h.yk.below hb,fun x hx=>(h.yi x hx).below hb,h.yd,h.ok,h.dq,fun k hk=>dP (h.pl k hk) hb.size,h.up,h.np⟩
theorem Pl.step (h:Pl D w0 w Qs Qd P g gs gd gx tx cx gy cy m L M kind space all Kx kv R) (hs:Step D w0 w w' Qs Qd g gs gd m' L' M'):∃OC xZ,Pl D w0 w' OC xZ P g gs gd gx tx cx gy cy m' L' M' kind space all Kx kv R:=by
 obtain⟨OC,xZ,h1,h2,h3,h4⟩:=hs
 have a1:=(Cq h.xr)
 have a2:=(Cq h.yr)
 have a4:tx<w.heap.size:=let ⟨_,ht⟩:=h.xt.row;(Cq ht)
 have hd:∀k,(Qs k∨Qd k)∧aH w k→k≠gx∧k≠tx∧k≠gy∧¬P k∧kv.ownBlock≠some k:=fun k hk=>h.dq k (hk.1.imp id .inl)
 refine⟨OC,xZ,h1,(h2.block gx a1 fun hx=>(hd gx hx).1 rfl).trans h.xr,h.xt.fr h2 fun k hk=>⟨hk.2,(hd k hk).2.1,(hd k hk).2.2.2.1⟩,(h2.block gy a2 fun hx=>(hd gy hx).2.2.1 rfl).trans h.yr,ah.kept h.yk h2 fun k hk hx=>(hd k hx).2.2.2.2 hk,fun x hx=>(h.yi x hx).fr h2 fun k hk e=> ?_,h.yd,h.ok,fun k hk=> ?_,fun k hk=>dP (h.pl k hk) h2.size,h.up,h.np⟩
 ·have hk:=h.yd x hx k hk
  exact e.1.elim (fun hq=>h.two.TJ k hq (.inr hk)) (h.two.d.dd k hk).1
 ·have hk2:(Qs k∨Qd k∨D k)∨w.heap.size≤k:=by
   rcases hk with hk | hk | hk
   ·exact (h3 k hk).imp .inl id
   ·exact (h4 k hk).imp (fun h=>.inr (.inl h)) id
   ·exact .inl (.inr (.inr hk))
  rcases hk2 with hk | hk
  ·exact h.dq k hk
  ·exact ⟨by omega,by omega,by omega,fun hp=>by have:=h.pl k hp;omega,fun e=>by have:=(ah.lt h.yk k e).2;omega⟩
/-- A watcher and its table turned: the stores stand. -/
theorem Two.sync (h:Two D w0 w Qs Qd g gs gd m L M) (hf:Fr (fun k=>k=a∨k=b) w w') (hw:∀k,Qs k∨Qd k∨D k→k≠a∧k≠b) (hu:w0.heap.size≤a∧w0.heap.size≤b) {cw ct:Array Value} (hr:w.heap[a]?=some (.cells cw 85 (0,0))) (ht:w.heap[b]?=some (.cells ct 146 (0,0))):Two D w0 w' Qs Qd g gs gd m L M:=by
 have hX:∀k,Qs k∨Qd k∨D k→¬(k=a∨k=b):=fun k hk e=>e.elim (hw k hk).1 (hw k hk).2
 have hU:∀k,k=a∨k=b→w0.heap.size≤k:=fun k e=>by rcases e with rfl | rfl;exact hu.1;exact hu.2
 exact⟨h.s.fr hf (fun k hk=>hX k (.inl hk)) hU fun k e=>by rcases e with rfl | rfl;exact aH.of hr (by decide);exact aH.of ht (by decide),h.d.fr hf (fun k hk=>hX k (.inr hk)) hU,h.TJ⟩
theorem Ug (hf:Fr (fun k=>k=a∨k=b) w w') {cw ct:Array Value} (hr:w.heap[a]?=some (.cells cw 85 (0,0))) (ht:w.heap[b]?=some (.cells ct 146 (0,0))):Sf w w':=⟨_,hf,fun k cs T hk hc=>by
 rcases hk with rfl | rfl
 ·exact .inr (.inr (.inr (ak hc hr)))
 ·exact .inl (ak hc ht)⟩
/-- Another watcher of the program goes on. -/
theorem Pl.sf (h:Pl D w0 w Qs Qd P g gs gd gx tx cx gy cy m L M kind space all Kx kv R) (hf:Fr (fun k=>k=a∨k=b) w w') {cw ct:Array Value} (hr:w.heap[a]?=some (.cells cw 85 (0,0))) (ht:w.heap[b]?=some (.cells ct 146 (0,0))) (ha:gx≠a) (hb:tx≠b) (hw:∀k,Qs k∨Qd k∨D k→k≠a∧k≠b) (hu:w0.heap.size≤a∧w0.heap.size≤b):Pl D w0 w' Qs Qd P g gs gd gx tx cx gy cy m L M kind space all Kx kv R:=by
 have hs:=Ug hf hr ht
 obtain⟨p,hx⟩:=h.xt.row
 refine⟨h.two.sync hf hw hu hr ht,(hf.block gx (Cq h.xr) fun e=> ?_).trans h.xr,hs.tab h.xt (hf.block tx (Cq hx) fun e=> ?_),(hf.block gy (Cq h.yr) fun e=> ?_).trans h.yr,ah.kept h.yk hf fun k hk e=> ?_,fun x hx=>hs.Ig (h.yi x hx),h.yd,h.ok,h.dq,fun k hk=>dP (h.pl k hk) hf.size,h.up,h.np⟩
 ·rcases e with e | e
  ·exact ha e
  ·exact absurd (ak h.xr (by rw[e];exact ht)) (by decide)
 ·rcases e with e | e
  ·exact absurd (ak hx (by rw[e];exact hr)) (by decide)
  ·exact hb e
 ·rcases e with e | e
  ·exact absurd (ak h.yr (by rw[e];exact hr)) (by decide)
  ·exact absurd (ak h.yr (by rw[e];exact ht)) (by decide)
 ·rcases e with e | e
  ·exact fH h.yk hk (by rw[e];exact hr) (by decide)
  ·exact fH h.yk hk (by rw[e];exact ht) (by decide)
theorem Uh (h:M.Ok):∀o∈jc M kind space all,o.data.length≤1000000∧o.space.size≤1000∧o.name.size≤1000:=fun o ho=>(Kt h o ho).small
/-- Sync, of a watcher of the program beside the stores. -/
theorem Two.Yd {K i:Nat} (h:Two D w0 w Qs Qd g gs gd m L M) (hr:iY w gx tx (K:Int) space all cx) (ht:KT w P tx Kx) (hi:eX M i) (hl:i≤60) (hn:vN M.tab) (hc:cx≤M.rev) (ZE:Kx.length≤400) (hK:K≤7) (hS:all=false→sJ space) (hz:space.size≤100):
  Cl 11 #[pt gx,pt gs] w fun e w'=>∃an A1 n1 c1 A2 n2 c2 iT K' lp ld,e=.returned (.tuple #[.agg #[.bool an,.slice A1 n1 c1,.slice A2 n2 c2],.nilIface])∧OS w' w.heap.size (.slice A1 n1 c1) lp∧n1=lp.length∧OS w' w.heap.size (.slice A2 n2 c2) ld∧n2=ld.length∧iY w' gx iT (K:Int) space all M.rev∧KT w' (fun k=>(P k∨w.heap.size≤k)∧k<w'.heap.size) iT K'∧Fr (fun k=>k=gx∨k=tx) w w'∧(iT=tx∨w.heap.size≤iT)∧og M (K:Int) space all cx Kx (jc M (K:Int) space all) an K' lp ld:=by
 obtain⟨f1,f2,f3,f4,f5⟩:=hi.facts (by omega)
 refine(MG h.s hr ht hc (jc M (K:Int) space all) (fun W hW=>WT K hK hS (by omega) (h.s.below hW) ((hW.block gx (Cq hr)).trans hr) f2 hn) (Uh hi.ok) (Cz Iz (by omega)) (by omega) (by omega)).mono ?_
 rintro e w' ⟨an,pv,dv,iT,K',lp,ld,rfl,h1,h2,h3,h4,h5,h6,h7⟩
 obtain⟨A1,c1,rfl,-,-⟩:=h1.form
 obtain⟨A2,c2,rfl,-,-⟩:=h2.form
 exact⟨an,A1,_,c1,A2,_,c2,iT,K',lp,ld,rfl,h1,rfl,h2,rfl,h3,h4.mono fun k hk hl=>⟨hk,hl⟩,h5,h6,h7⟩
/-- The program's watcher goes on. -/
theorem Pl.Ui {K i:Nat} (h:Pl D w0 w Qs Qd P g gs gd gx tx cx gy cy m L M (K:Int) space all Kx kv R) (hi:eX M i) (hl:i≤60) (hn:vN M.tab) (hc:cx≤M.rev) (ZE:Kx.length≤400) (hK:K≤7) (hS:all=false→sJ space) (hz:space.size≤100):
  Cl 11 #[pt gx,pt gs] w fun e w'=>∃an A1 n1 c1 A2 n2 c2 P' ZT K' lp ld,e=.returned (.tuple #[.agg #[.bool an,.slice A1 n1 c1,.slice A2 n2 c2],.nilIface])∧OS w' w.heap.size (.slice A1 n1 c1) lp∧n1=lp.length∧OS w' w.heap.size (.slice A2 n2 c2) ld∧n2=ld.length∧Pl D w0 w' Qs Qd P' g gs gd gx ZT M.rev gy cy m L M (K:Int) space all K' kv R∧og M (K:Int) space all cx Kx (jc M (K:Int) space all) an K' lp ld∧Fr (fun k=>k=gx∨k=tx) w w':=by
 refine(h.two.Yd h.xr h.xt hi hl hn hc ZE hK hS hz).mono ?_
 rintro e w' ⟨an,A1,n1,c1,A2,n2,c2,iT,K',lp,ld,rfl,h1,e1,h2,e2,h3,h4,h5,h6,h7⟩
 refine⟨an,A1,n1,c1,A2,n2,c2,fun k=>(P k∨w.heap.size≤k)∧k<w'.heap.size,iT,K',lp,ld,rfl,h1,e1,h2,e2,?_,h7,h5⟩
 obtain⟨p,hx⟩:=h.xt.row
 have hs:=Ug h5 h.xr hx
 have a2:=(Cq h.yr)
 have hlt:∀k,Qs k∨Qd k∨D k→k<w.heap.size:=fun k hk=>by
  rcases hk with hk | hk | hk
  ·exact h.two.s.hi k hk
  ·exact h.two.d.hi k hk
  ·exact (h.two.d.dd k hk).2
 have hbel:=h.two.s.bel.size
 refine⟨h.two.sync h5 (fun k hk=>⟨(h.dq k hk).1,(h.dq k hk).2.1⟩) ⟨h.up.1,h.up.2.1⟩ h.xr hx,h3,h4,(h5.block gy a2 fun e=> ?_).trans h.yr,ah.kept h.yk h5 fun k hk e=> ?_,fun x hx=>hs.Ig (h.yi x hx),h.yd,h.ok,fun k hk=> ?_,fun k hk=>hk.2,⟨h.up.1,?_,h.up.2.2⟩,fun e=>e.1.elim h.np fun e=>by omega⟩
 ·rcases e with e | e
  ·exact absurd (ak h.yr (by rw[e];exact h.xr)) (by decide)
  ·exact absurd (ak h.yr (by rw[e];exact hx)) (by decide)
 ·rcases e with e | e
  ·exact fH h.yk hk (by rw[e];exact h.xr) (by decide)
  ·exact fH h.yk hk (by rw[e];exact hx) (by decide)
 ·have h1:=hlt k hk
  obtain⟨d1,d2,d3,d4,d5⟩:=h.dq k hk
  exact⟨d1,by rcases h6 with rfl | ht;exact d2;omega,d3,fun e=>e.1.elim d4 fun e=>by omega,d5⟩
 ·have:=h.up.2.1;rcases h6 with rfl | ht<;>omega
/-- The program's watcher goes on as a copy, the elder once more. -/
theorem Pl.copy (h:Pl D w0 w Qs Qd P g gs gd gx tx cx gy cy m L M kind space all Kx kv R) (hr:iY w' Uf PL kind space all cx) (ht:KT w' P PL Kx) (h1:w.heap.size≤Uf) (h2:w.heap.size≤PL) (hb:Bw w w'):Pl D w0 w' Qs Qd P g gs gd Uf PL cx gy cy m L M kind space all Kx kv R:=by
 obtain⟨k1,k2,k3,k4,k5,k6,k7,k8,k9,k10,k11,k12⟩:=h.below hb
 have hbel:=h.two.s.bel.size
 refine⟨k1,hr,ht,k4,k5,k6,k7,k8,fun k hk=> ?_,k10,⟨by omega,by omega,k11.2.2⟩,k12⟩
 have hlt:k<w.heap.size:=by
  rcases hk with hk | hk | hk
  ·exact h.two.s.hi k hk
  ·exact h.two.d.hi k hk
  ·exact (h.two.d.dd k hk).2
 obtain⟨-,-,d3⟩:=k9 k hk
 exact⟨by omega,by omega,d3⟩
theorem Pl.old {K i:Nat} (h:Pl D w0 w Qs Qd P g gs gd gx tx cx gy cy m L M (K:Int) space all Kx kv R) (h2:Pl D w0 w2 Qs Qd P g gs gd Uf PL cx gy cy m L M (K:Int) space all Kx kv R) (h1:w.heap.size≤Uf) (h3:w.heap.size≤PL) (hb:Bw w w2) (hi:eX M i) (hl:i≤60) (hn:vN M.tab) (hc:cx≤M.rev) (ZE:Kx.length≤400) (hK:K≤7) (hS:all=false→sJ space) (hz:space.size≤100):
  Cl 11 #[pt gx,pt gs] w2 fun e w'=>∃an A1 n1 c1 A2 n2 c2,e=.returned (.tuple #[.agg #[.bool an,.slice A1 n1 c1,.slice A2 n2 c2],.nilIface])∧Pl D w0 w' Qs Qd P g gs gd Uf PL cx gy cy m L M (K:Int) space all Kx kv R∧Fr (fun k=>k=gx∨k=tx) w2 w':=by
 have hk:=h.below hb
 obtain⟨p,hx⟩:=hk.xt.row
 refine(hk.two.Yd hk.xr hk.xt hi hl hn hc ZE hK hS hz).mono ?_
 rintro e w3 ⟨an,A1,n1,c1,A2,n2,c2,iT,K',lp,ld,rfl,-,-,-,-,-,-,h5,-,-⟩
 have a1:=(Cq h.xr)
 have a2:tx<w.heap.size:=let ⟨_,ht⟩:=h.xt.row;(Cq ht)
 exact⟨an,A1,n1,c1,A2,n2,c2,rfl,h2.sf h5 hk.xr hx (by omega) (by omega) (fun k hk'=>⟨(hk.dq k hk').1,(hk.dq k hk').2.1⟩) ⟨hk.up.1,hk.up.2.1⟩,h5⟩
/-- The document's watcher turned. -/
theorem Pl.IB (h:Pl D w0 w Qs Qd P g gs gd gx tx cx gy cy m L M kind space all Kx kv R) (h2:Two D' w0 w Qs xZ g gs gd m L M) (hD:∀k,xZ k∨D' k→Qd k∨D k) (hf:Fr (fun k=>k=gy) w w') (WL:vU w' gy kind space all kv' cy') (hyk:OL w' 0 kv' (R'.map Prod.fst)) (hyi:EG w' R') (hyd:∀x∈R',∀k,(sl x.1).ownBlock=some k→D' k) (hok:∀x∈R',x.2.Ok∧pI kind space all x.2=true) (hkv:∀k,kv'.ownBlock=some k→kv.ownBlock=some k∨w.heap.size≤k):Pl D' w0 w' Qs xZ P g gs gd gx tx cx gy cy' m L M kind space all Kx kv' R':=by
 obtain⟨p,hx⟩:=h.xt.row
 have hd:∀k,Qs k∨xZ k∨D' k→Qs k∨Qd k∨D k:=fun k hk=>hk.imp id (hD k)
 have hU:∀k,k=gy→w0.heap.size≤k:=fun k e=>by rw[e];exact h.up.2.2
 refine⟨⟨h2.s.fr hf (fun k hk e=>(h.dq k (.inl hk)).2.2.1 e) hU fun k e=>by rw[e];exact aH.of h.yr (by decide),h2.d.fr hf (fun k hk e=>(h.dq k (hd k (.inr hk))).2.2.1 e) hU,h2.TJ⟩,(hf.block gx (Cq h.xr) fun e=>absurd (ak h.xr (by rw[e];exact h.yr)) (by decide)).trans h.xr,h.xt.fr hf fun k e=> ?_,WL,hyk,hyi,hyd,hok,fun k hk=> ?_,fun k hk=>dP (h.pl k hk) hf.size,h.up,h.np⟩
 ·subst e
  exact⟨aH.of h.yr (by decide),fun e=>absurd (ak h.yr (by rw[e];exact hx)) (by decide),h.np⟩
 ·have hk:=hd k hk
  have hlt:k<w.heap.size:=by
   rcases hk with hk | hk | hk
   ·exact h.two.s.hi k hk
   ·exact h.two.d.hi k hk
   ·exact (h.two.d.dd k hk).2
  obtain⟨d1,d2,d3,d4,d5⟩:=h.dq k hk
  exact⟨d1,d2,d3,d4,fun e=>(hkv k e).elim d5 fun e=>by omega⟩
/-- The document's watcher goes on. -/
theorem Pl.Uj {i:Nat} (h:Pl D w0 w Qs Qd P g gs gd gx tx cx gy cy m L M kind space all Kx kv R) (hi:eX M i) (hl:i≤60) (hc:cy≤M.rev) (hR:R.length≤400) (hr:aT aS (kd ko (R.map Prod.snd))):
  Cl 19 #[pt gy,pt gd] w fun e w'=>∃an A1 n1 c1 A2 n2 c2 D' xZ kv' R' lp ld,e=.returned (.tuple #[.agg #[.bool an,.slice A1 n1 c1,.slice A2 n2 c2],.int .i64 0])∧OS w' w.heap.size (.slice A1 n1 c1) lp∧n1=lp.length∧OS w' w.heap.size (.slice A2 n2 c2) ld∧n2=ld.length∧Pl D' w0 w' Qs xZ P g gs gd gx tx cx gy M.rev m L M kind space all Kx kv' R'∧og M kind space all cy (kd ko (R.map Prod.snd)) (jc M kind space all) an (kd ko (R'.map Prod.snd)) lp ld∧aT aS (kd ko (R'.map Prod.snd))∧Fr (fun k=>k=gy) w w'∧(R'.length≤R.length+(M.rev-cy)∨R'.length≤M.tab.length):=by
 obtain⟨f1,f2,f3,f4,f5⟩:=hi.facts (by omega)
 have hnum:=hi.ok.num
 obtain⟨Z,gl,av,ev,xs,ys,hv,hz,hg⟩:=h.two.d.grow
 obtain⟨l1,l2⟩:=hv.len
 have h2:Two (fun k=>D k∨Qd k∧Z k∧k≠gd) w0 w Qs (fun k=>Qd k∧¬(Z k∧k≠gd)) g gs gd m L M:=⟨h.two.s,hg,fun k hq hd=>h.two.TJ k hq (by
  rcases hd with hd | hd | hd
  ·exact .inl hd.1
  ·exact .inr hd
  ·exact .inl hd.1)⟩
 have hD:∀k,(Qd k∧¬(Z k∧k≠gd))∨(D k∨Qd k∧Z k∧k≠gd)→Qd k∨D k:=fun k hd=>by
  rcases hd with hd | hd | hd
  ·exact .inl hd.1
  ·exact .inr hd
  ·exact .inl hd.1
 have hZD:∀(v:OV) (o:aC),dD w v o→∀k,(sl v).ownBlock=some k→Z k→(D k∨Qd k∧Z k∧k≠gd):=fun v o Ye k hk hZ=>by
  rcases hz k hZ with hq | hd
  ·exact .inr ⟨hq,hZ,fun e=>by
    obtain⟨_,hc⟩:=au Ye.data hk
    exact absurd (ak hc (by rw[e];exact hv.cells)) (by decide)⟩
  ·exact .inl hd
 have hsm:∀{x:OV×aC},dD w x.1 x.2→x.2.Ok→zZ x.1:=fun hx ho=>by
  unfold zZ
  rw[hx.space,hx.name]
  exact ho.small.2
 have hxo:∀x∈xs,x.2.Ok:=fun x hx=>by
  obtain⟨y,hy,e⟩:=bW.1 (show x.2∈M.tab.map (fun x=>x.2) by rw[hv.allM];exact bW.2 ⟨x,hx,rfl⟩)
  rw[←e]
  exact(hi.ok.tab.each y hy).2.1
 have hyo:∀y∈ys,y.2.2.Ok:=fun y hy=>by
  have hm:(y.1,y.2.2)∈M.evs:=by rw[hv.IE];exact bW.2 ⟨y,hy,rfl⟩
  obtain⟨j,hj⟩:=jT.1 hm
  exact(hi.ok.evs j _ hj).2
 by_cases hb:cy<M.base
 ·obtain ⟨s1,s2,s3⟩:=Ue (kind:=kind) (space:=space) (all:=all) hi.ok hv.allM hv.each h.yi h.ok hb
  refine(ZL hv (fun hZ=>(h.dq gy (.inr (hz gy hZ))).2.2.1 rfl) hi.ok h.yr h.yk hb (by omega) (by omega) fun x hx=>hsm (hv.each x hx) (hxo x hx)).mono ?_
  rintro e w' ⟨pv,dv,rfl,h3,h4,h5,h6,h7⟩
  obtain⟨A1,c1,rfl,-,-⟩:=ah.form h4
  obtain⟨A2,c2,rfl,-,-⟩:=ah.form h6
  have hby:∀{x:OV×aC},dD w x.1 x.2→dD w' x.1 x.2:=fun hx=>hx.fr h7 fun k hk e=>by
   obtain⟨_,hc⟩:=au hx.data hk
   exact absurd (ak hc (by rw[e];exact h.yr)) (by decide)
  refine⟨true,A1,_,c1,A2,_,c2,_,_,_,xs.foldl (yA kind space all) [],_,_,rfl,⟨_,h5,rfl,fun x hx=>hby (s2 x hx)⟩,by rw[aX,aX],⟨_,h6,rfl,fun x hx=>hby (h.yi x (jB.1 hx).1)⟩,by rw[aX,aX],h.IB h2 hD h7 h3 h4 (fun x hx=>hby (s2 x hx)) (fun x hx k hk=> ?_) (fun x hx=> ?_) (fun k hk=>.inr (ah.lt h5 k hk).1),s1,s3,h7,.inr ?_⟩
  ·rcases EI _ _ x hx with hx | ⟨hx,-⟩
   ·cases hx
   ·exact hZD x.1 x.2 (hv.each x hx) k hk (hv.zx x hx k hk)
  ·rcases EI _ _ x hx with hx | ⟨hx,hf⟩
   ·cases hx
   ·exact ⟨hxo x hx,by rw[←dD.Ud (x:=x) (hv.each x hx)];exact hf⟩
  ·have:=J7 (kind:=kind) (space:=space) (all:=all) xs []
   rw[Xe] at this
   omega
 ·obtain ⟨s1,s2,s3,s4,s5⟩:=WU (kind:=kind) (space:=space) (all:=all) (cy:=cy) hv.IE hv.kY h.yi hr (by omega) (jc M kind space all)
  refine(Evs21 hv hi.ok h.yr h.yk (by omega) hc (by omega) (by omega) (by omega) ⟨fun x hx=>hsm (h.yi x hx) (h.ok x hx).1,fun y hy=>hsm (hv.kY y hy) (hyo y hy)⟩).mono ?_
  rintro e w' ⟨kv',pv,dv,rfl,h3,h4,h5,h6,h7,h8⟩
  obtain⟨A1,c1,rfl,-,-⟩:=ah.form h5
  obtain⟨A2,c2,rfl,-,-⟩:=ah.form h6
  have hby:∀{x:OV×aC},dD w x.1 x.2→dD w' x.1 x.2:=fun hx=>hx.fr h7 fun k hk e=>by
   obtain⟨_,hc⟩:=au hx.data hk
   exact absurd (ak hc (by rw[e];exact h.yr)) (by decide)
  refine⟨false,A1,_,c1,A2,_,c2,_,_,kv',_,_,_,rfl,⟨_,h5,rfl,fun x hx=>hby (s4 x hx)⟩,by rw[aX,aX],⟨_,h6,rfl,fun x hx=>hby (s5 x hx)⟩,by rw[aX,aX],h.IB h2 hD h7 h3 h4 (fun x hx=>hby (s2 x hx)) (fun x hx k hk=> ?_) (fun x hx=> ?_) (fun k hk=>h8.elim (fun e=>.inl (by rw[←e];exact hk)) fun h=>.inr (h k hk)),s1,s3,h7,.inl ?_⟩
  ·rcases EH _ _ x hx with hx | ⟨⟨y,hy,rfl⟩,-⟩
   ·exact .inl (h.yd x hx k hk)
   ·have hy:=List.mem_of_mem_drop hy
    exact hZD _ _ (hv.kY y hy) k hk (hv.zy y hy k hk)
  ·rcases EH _ _ x hx with hx | ⟨⟨y,hy,rfl⟩,hf⟩
   ·exact h.ok x hx
   ·have hy:=List.mem_of_mem_drop hy
    exact⟨hyo y hy,by rw[←dD.Ud (x:=y.2) (hv.kY y hy)];exact hf⟩
  ·have:=J4 (kind:=kind) (space:=space) (all:=all) (ys.drop (cy-M.base)) R
   rw[lu] at this
   omega
end
end Go.Proofs.YtdhbpajamlfacaaGreatDoor
