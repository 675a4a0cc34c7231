/- A disk in memory. -/
import Derived.Test.YtdhbpajamlfacaaGreatDoorDiskWr
import Derived.Test.YtdhbpajamlfacaaGreatDoorErrs
import Derived.Test.YtdhbpajamlfacaaGreatDoorSha
set_option maxHeartbeats 2000000
namespace Go.Proofs.YtdhbpajamlfacaaGreatDoor
open Go.RowKit
def kV (m:DK) (bv:Nat→Value) (wv:Value):Array Value:=#[.int .i64 m.room,bv 0,bv 1,bv 2,bv 3,bv 4,bv 5,wv,.bool false,.int .i64 0,.bool false]
def lV (ws:List (jG×Value)):List Value:=ws.flatMap fun x=>[.int .i64 (x.1.area:Int),.int .i64 (x.1.pos:Int),x.2,.bool x.1.cuts]
theorem Au (a b:List (jG×Value)):lV (a++b)=lV a++lV b:=by simp[lV]
/-- Block g is a disk; O: the blocks that are its own. -/
structure aY (w:World) (O:Nat→Prop) (g:Nat) (m:DK) (bv:Nat→Value) (wv:Value) (ws:List (jG×Value)):Prop where
 cells:w.heap[g]?=some (.cells (kV m bv wv) 125 (0,0))
 eH:∀i,i<6→OB w 0 (bv i) (m.b i)
 Np:ah w 0 239 4 wv ws.length (lV ws)
 eq:ws.map (fun x=>x.1)=m.waits
 bytes:∀x∈ws,OB w 0 x.2 x.1.bytes
 apart:∀i j,i<6→j<6→i≠j→∀k,(bv i).ownBlock=some k→(bv j).ownBlock≠some k
 qm:∀x∈ws,∀i,i<6→∀k,x.2.ownBlock=some k→(bv i).ownBlock≠some k
 jv:O g
 ownB:∀i,i<6→∀k,(bv i).ownBlock=some k→O k
 FD:∀k,wv.ownBlock=some k→O k
 I9:∀x∈ws,∀k,x.2.ownBlock=some k→O k
def gu (w:World) (O:Nat→Prop) (g:Nat) (m:DK):Prop:=∃bv wv ws,aY w O g m bv wv ws
/-- What a call made is the disk's own, too. -/
def ext (O:Nat→Prop) (w w':World) (k:Nat):Prop:=O k∨(w.heap.size≤k∧k<w'.heap.size)
section
variable {w w':World} {O:Nat→Prop} {g:Nat} {m m':DK} {bv:Nat→Value} {wv:Value} {ws:List (jG×Value)}
theorem au {w:World} {base e size n:Nat} {v:Value} {xs:List Value} (h:ah w base e size v n xs) {k:Nat} (hk:v.ownBlock=some k):∃cur,w.heap[k]?=some (.cells cur e (0,0)):=by
 rcases h.2 with ⟨rfl,_⟩ | ⟨g,o,cap,cur,rfl,_,h3,_⟩
 ·cases hk
 ·injection hk with hk
  subst hk
  exact⟨cur,h3⟩
theorem ak {w:World} {k:Nat} {a b:Array Value} {s t:TypeId} {f f':Nat×Nat} (h1:w.heap[k]?=some (.cells a s f)) (h2:w.heap[k]?=some (.cells b t f')):s=t:=by
 rw[h1] at h2
 injection h2 with h2
 injection h2
theorem aY.lt (h:aY w O g m bv wv ws):g<w.heap.size:=(Cq h.cells)
theorem aY.bne (h:aY w O g m bv wv ws) {i:Nat} (hi:i<6):(bv i).ownBlock≠some g:=fun e=>by
 obtain⟨cur,hc⟩:=au (h.eH i hi) e
 exact absurd (ak hc h.cells) (by decide)
theorem aY.wne (h:aY w O g m bv wv ws):wv.ownBlock≠some g:=fun e=>by
 obtain⟨cur,hc⟩:=au h.Np e
 exact absurd (ak hc h.cells) (by decide)
theorem aY.bw (h:aY w O g m bv wv ws) {i:Nat} (hi:i<6) {k:Nat} (hk:wv.ownBlock=some k):(bv i).ownBlock≠some k:=fun e=>by
 obtain⟨cur,hc⟩:=au (h.eH i hi) e
 obtain⟨cur',hc'⟩:=au h.Np hk
 exact absurd (ak hc hc') (by decide)
theorem aY.xne (h:aY w O g m bv wv ws) {x:jG×Value} (hx:x∈ws):x.2.ownBlock≠some g:=fun e=>by
 obtain⟨cur,hc⟩:=au (h.bytes x hx) e
 exact absurd (ak hc h.cells) (by decide)
theorem aY.kL (h:aY w O g m bv wv ws) {i:Nat} (hi:i<6):∃A c,bv i=.slice A (m.b i).length c∧(m.b i).length≤c∧c≤maxLen:=by
 obtain⟨A,c,e,h1,h2,_⟩:=(h.eH i hi).form
 exact⟨A,c,e,h1,h2⟩
theorem aY.cell (h:aY w O g m bv wv ws) (k:Nat):w.cell? ⟨g,k,none⟩=(kV m bv wv)[k]?:=bT _ _ _ _ _ _ h.cells
theorem aY.free (h:aY w O g m bv wv ws) (k:Nat):w.frozen? ⟨g,k,none⟩=false:=Kj h.cells
/-- Only the disk's block has turned, and in it neither areas nor what waits. -/
theorem aY.turn (h:aY w O g m bv wv ws) (hf:Fr (fun k=>k=g) w w') (hc:w'.heap[g]?=some (.cells (kV m' bv wv) 125 (0,0))) (hb:m'.b=m.b) (hw:m'.waits=m.waits):aY w' O g m' bv wv ws:=by
 have hx:∀x∈ws,OB w' 0 x.2 x.1.bytes:=fun x hx=>ah.kept (h.bytes x hx) hf fun k hk e=>h.xne hx (by rw[←e];exact hk)
 exact⟨hc,fun i hi=>by rw[hb];exact ah.kept (h.eH i hi) hf (fun k hk e=>h.bne hi (by rw[←e];exact hk)),ah.kept h.Np hf (fun k hk e=>h.wne (by rw[←e];exact hk)),by rw[hw];exact h.eq,hx,h.apart,h.qm,h.jv,h.ownB,h.FD,h.I9⟩
theorem aY.frO (h:aY w O g m bv wv ws) {j:Nat} (hj:j<6) {S:Nat→Prop} (hf:Fr (UY g (bv j)) w w') (hs:∀k,O k→S k):Fr S w w':=
 hf.mono fun k _ hk=>hs k (by
  rcases hk with rfl | hk
  ·exact h.jv
  ·exact h.ownB j hj k hk)
def Qk (f:Nat→Value) (i:Nat) (x:Value):Nat→Value:=fun j=>if j=i then x else f j
/-- An area has turned. -/
theorem aY.area (h:aY w O g m bv wv ws) {j:Nat} (hj:j<6) {v':Value} {l':List UInt8} (hf:Fr (UY g (bv j)) w w') (hc:w'.heap[g]?=some (.cells ((kV m bv wv).setIfInBounds (1+j) v') 125 (0,0)))
  (hv:OB w' 0 v' l') (hat:v'.ownBlock=(bv j).ownBlock∨∃k,v'.ownBlock=some k∧w.heap.size≤k):aY w' (ext O w w') g {m with b:=updB m.b j l'} (Qk bv j v') wv ws:=by
 have hvk:∀k,v'.ownBlock=some k→(bv j).ownBlock=some k∨(w.heap.size≤k∧k<w'.heap.size):=fun k hk=>by
  rcases hat with e | ⟨q,e,hq⟩
  ·exact .inl (e.symm.trans hk)
  ·rw [e] at hk
   injection hk with hk
   subst hk
   exact .inr ⟨hq,(OB.lt hv _ e).2⟩
 have hlt:∀i,i<6→∀k,(bv i).ownBlock=some k→k<w.heap.size:=fun i hi k hk=>(OB.lt (h.eH i hi) k hk).2
 have hdo:∀i,i<6→i≠j→∀k,(bv i).ownBlock=some k→¬UY g (bv j) k:=fun i hi hij k hk e=>by
  rcases e with rfl | e
  ·exact h.bne hi hk
  ·exact h.apart i j hi hj hij k hk e
 have hcs:(kV m bv wv).setIfInBounds (1+j) v'=kV {m with b:=updB m.b j l'} (Qk bv j v') wv:=by
  have:j=0∨j=1∨j=2∨j=3∨j=4∨j=5:=by omega
  rcases this with rfl | rfl | rfl | rfl | rfl | rfl<;>rfl
 rw[hcs] at hc
 refine⟨hc,fun i hi=> ?_,?_,h.eq,fun x hx=> ?_,fun i i' hi hi' hne k hk=> ?_,fun x hx i hi k hk=> ?_,.inl h.jv,fun i hi k hk=> ?_,fun k hk=>.inl (h.FD k hk),fun x hx k hk=>.inl (h.I9 x hx k hk)⟩
 ·by_cases e:i=j
  ·subst e
   show OB w' 0 (if i=i then v' else _) (if i=i then l' else _)
   rw[aF rfl,aF rfl]
   exact hv
  ·show OB w' 0 (if i=j then v' else _) (if i=j then l' else _)
   rw[aG e,aG e]
   exact ah.kept (h.eH i hi) hf (hdo i hi e)
 ·exact ah.kept h.Np hf fun k hk e=>by
   rcases e with rfl | e
   ·exact h.wne hk
   ·exact h.bw hj hk e
 ·exact ah.kept (h.bytes x hx) hf fun k hk e=>by
   rcases e with rfl | e
   ·exact h.xne hx hk
   ·exact h.qm x hx j hj k hk e
 ·have key:∀i,i<6→i≠j→∀k,v'.ownBlock=some k→(bv i).ownBlock≠some k:=fun i hi hij k hk e=>by
   rcases hvk k hk with h1 | h1
   ·exact h.apart i j hi hj hij k e h1
   ·have:=hlt i hi k e;omega
  unfold Qk at*
  by_cases e:i=j
  ·subst e
   rw[aF rfl] at hk
   rw[aG (fun e=>hne e.symm)]
   exact key i' hi' (fun e=>hne e.symm) k hk
  ·rw [aG e] at hk
   by_cases e':i'=j
   ·subst e'
    rw[aF rfl]
    exact fun h2=>key i hi e k h2 hk
   ·rw [aG e']
    exact h.apart i i' hi hi' hne k hk
 ·have hxl:=(OB.lt (h.bytes x hx) k hk).2
  unfold Qk
  by_cases e:i=j
  ·rw [aF e]
   intro h2
   rcases hvk k h2 with h1 | h1
   ·exact h.qm x hx j hj k hk h1
   ·omega
  ·rw [aG e]
   exact h.qm x hx i hi k hk
 ·unfold Qk at hk
  by_cases e:i=j
  ·rw [aF e] at hk
   rcases hvk k hk with h1 | h1
   ·exact .inl (h.ownB j hj k h1)
   ·exact .inr h1
  ·rw [aG e] at hk
   exact .inl (h.ownB i hi k hk)
theorem aY.Ql (m:DK) (bv:Nat→Value) (wv:Value) {j:Nat} (hj:j<6):(kV m bv wv)[1+j]?=some (bv j):=by
 have:j=0∨j=1∨j=2∨j=3∨j=4∨j=5:=by omega
 rcases this with rfl | rfl | rfl | rfl | rfl | rfl<;>rfl
end
/-- do, of a disk's area (off = 1: what is sure; off = 4: what is seen). -/
theorem Yz (g off a:Nat) (c:jG) (xv:Value) (m:DK) (hok:m.Ok) (O:Nat→Prop) (bv:Nat→Value) (wv:Value) (ws:List (jG×Value)) (w:World) (h:aY w O g m bv wv ws) (hoff:off=1∨off=4) (hca:c.area=a) (ha:a<3) (hp:c.pos+c.bytes.length≤1048576)
  (hx:OB w 0 xv c.bytes) (hap:∀k,xv.ownBlock=some k→(bv (off-1+a)).ownBlock≠some k):
  Cl 211 #[.pointer (some ⟨g,off,none⟩),.agg #[.int .i64 (a:Int),.int .i64 (c.pos:Int),xv,.bool c.cuts]] w fun e w'=>e=.returned (.tuple #[])∧
   ∃Qm,aY w' (ext O w w') g {m with b:=updB m.b (off-1+a) (Pg (m.b (off-1+a)) c)} Qm wv ws∧Fr O w w':=by
 have hj:off-1+a<6:=by omega
 have ej:off+a=1+(off-1+a):=by omega
 obtain⟨A,cp,e1,h1,h2⟩:=h.kL hj
 have hd:=aY.Ql m bv wv hj
 have hB:=h.eH _ hj
 rw[e1] at hd hB
 obtain⟨ca,cpos,cb,ccuts⟩:=c
 subst hca
 cases ccuts with
 | true=>
  refine(YA g off ca cpos _ A _ cp (m.b (off-1+ca)) xv w h.cells ha (by rw[ej];exact hd) hB rfl h1 (hok.len _ hj) (by simp at hp;omega)).mono ?_
  rintro e w' ⟨rfl,hc',hv',hf'⟩
  rw[ej] at hc'
  have hf2:Fr (UY g (bv (off-1+ca))) w w':=hf'.mono fun k _ hk=>.inl hk
  exact⟨rfl,_,h.area hj hf2 hc' hv' (.inl (by rw[e1];cases A<;>rfl)),h.frO hj hf2 fun k hk=>hk⟩
 | false=>
  obtain⟨Ab,cbb,e2,h3,h4,hr⟩:=hx.form
  subst e2
  refine(Qn g off ca cpos cb.length cbb _ A Ab _ cp (m.b (off-1+ca)) cb w h.cells ha (by rw[ej];exact hd) hB rfl h1 (hok.len _ hj) hp hr ?_).mono ?_
  ·rintro h0 b' o' rfl h5
   exact hap b' rfl (by rw[e1];exact h5)
  ·rintro e w' ⟨rfl,v',hc',hv',hat,hf'⟩
   rw[ej] at hc'
   rw[←e1] at hf' hat
   exact⟨rfl,_,h.area hj hf' hc' hv' hat,h.frO hj hf' fun k hk=>hk⟩
/-- The errors that a disk answers. -/
structure Lc (w:World) (ea:Nat→Addr):Prop where
 range:w.cell? ⟨1,0,none⟩=some (.iface 368 (.pointer (some (ea 1))))
 down:w.cell? ⟨24,0,none⟩=some (.iface 368 (.pointer (some (ea 25))))
 full:w.cell? ⟨25,0,none⟩=some (.iface 368 (.pointer (some (ea 26))))
theorem Lc.keep {w w':World} {ea:Nat→Addr} (h:Lc w ea) (k:Keeps w w'):Lc w' ea:=⟨k _ _ h.range,k _ _ h.down,k _ _ h.full⟩
theorem Dw (area:Int) (w:World):Cl 162 #[.int .i64 area] w fun e w'=>e=.returned (.bool (decide (0≤area∧area<3)))∧w=w':=by
 by_cases h1:0≤area
 ·have q1:decide (0≤area)=true:=aZ h1
  by_cases h2:area<3
  ·have q2:decide (area<3)=true:=aZ h2
   have HD:Hid (decide (0≤area∧area<3)=true):=Hj (aZ ⟨h1,h2⟩)
   clear h1 h2
   go_enter Tryz.func162,Tryz.ntmps162
   go_wp2
   go_ret
   exact⟨bC HD.out.symm,rfl⟩
  ·have q2:decide (area<3)=false:=aQ h2
   have HD:Hid (decide (0≤area∧area<3)=false):=Hj (aQ fun h=>h2 h.2)
   clear h1 h2
   go_enter Tryz.func162,Tryz.ntmps162
   go_wp2
   go_ret
   exact⟨bC HD.out.symm,rfl⟩
 ·have q1:decide (0≤area)=false:=aQ h1
  have HD:Hid (decide (0≤area∧area<3)=false):=Hj (aQ fun h=>h1 h.1)
  clear h1
  go_enter Tryz.func162,Tryz.ntmps162
  go_wp2
  go_ret
  exact⟨bC HD.out.symm,rfl⟩
theorem Qo (room:Int) (w:World) (h0:0≤room) (h1:room≤1048576):Cl 24 #[.int .i64 room] w fun e w'=>e=.returned (.tuple #[pt w.heap.size,.nilIface])∧
  gu w' (fun k=>k=w.heap.size) w.heap.size ⟨room,fun _=>[],[]⟩∧Bw w w':=by
 have q1:decide (room<0)=false:=aQ (by omega)
 have q2:decide (1048576<room)=false:=aQ (by omega)
 go_enter Tryz.func24,Tryz.ntmps24
 go_wp2
 go_ret2
 refine⟨rfl,⟨fun _=>.slice none 0 0,.slice none 0 0,[],?_⟩,(aj _ w).alloc Kv _⟩
 exact⟨aA w _,fun _ _=>OB.nil _ _,ah.nil _ _ _ _,rfl,by simp,fun i j _ _ _ k hk=>(by cases hk),by simp,rfl,fun i _ k hk=>(by cases hk),fun k hk=>(by cases hk),by simp⟩
section
variable {w:World} {O:Nat→Prop} {g:Nat} {m:DK} {bv:Nat→Value} {wv:Value} {ws:List (jG×Value)}
theorem xM (a:Nat) (ha:a<3) (h:aY w O g m bv wv ws):Cl 102 #[pt g,.int .i64 (a:Int)] w fun e w'=>e=.returned (.int .i64 ((m.b (3+a)).length:Int))∧w=w':=by
 have HD:Hid (decide (0≤(a:Int)∧(a:Int)<3)=true):=Hj (aZ (by omega))
 obtain⟨A,c,e1,h1,h2⟩:=h.kL (i:=3+a) (by omega)
 have hd:=aY.Ql m bv wv (j:=3+a) (by omega)
 rw[e1] at hd
 have c0:w.cell? ⟨g,4+a,none⟩=some (.slice A (m.b (3+a)).length c):=by rw[h.cell,show 4+a=1+(3+a) by omega];exact hd
 have a0:(0:Int)≤(a:Int):=by omega
 have a1:(a:Int)<3:=by omega
 clear h hd e1
 go_enter Tryz.func102,Tryz.ntmps102
 go_wp2_with (go_at_call 162;refine(Dw _ _).mono ?_;rw[HD.out];rintro e w' ⟨rfl,rfl⟩)
 go_ret
 exact⟨rfl,rfl⟩
theorem FH (hok:m.Ok) (h:aY w O g m bv wv ws):Cl 137 #[pt g] w fun e w'=>e=.returned (.int .i64 m.free)∧w=w':=by
 obtain⟨A0,k0,e0,_,_⟩:=h.kL (i:=3) (by omega)
 obtain⟨A1,k1,e1,_,_⟩:=h.kL (i:=4) (by omega)
 obtain⟨A2,k2,e2,_,_⟩:=h.kL (i:=5) (by omega)
 have c0:w.cell? ⟨g,0,none⟩=some (.int .i64 m.room):=h.cell 0
 have c4:w.cell? ⟨g,4,none⟩=some (.slice A0 (m.b 3).length k0):=by rw[h.cell];show some (bv 3)=_;rw[e0]
 have c5:w.cell? ⟨g,5,none⟩=some (.slice A1 (m.b 4).length k1):=by rw[h.cell];show some (bv 4)=_;rw[e1]
 have c6:w.cell? ⟨g,6,none⟩=some (.slice A2 (m.b 5).length k2):=by rw[h.cell];show some (bv 5)=_;rw[e2]
 have r0:=hok.Ld
 have r1:=hok.yE
 have l3:=hok.len 3 (by omega)
 have l4:=hok.len 4 (by omega)
 have l5:=hok.len 5 (by omega)
 have HF:Hid (m.free=m.room-((m.b 3).length:Int)-((m.b 4).length:Int)-((m.b 5).length:Int)):=Hj rfl
 rw[HF.out]
 clear h hok e0 e1 e2 HF
 generalize (m.b 3).length=n3 at*
 generalize (m.b 4).length=n4 at*
 generalize (m.b 5).length=n5 at*
 generalize m.room=rm at*
 go_enter Tryz.func137,Tryz.ntmps137
 go_wp2
 refine wp_loop_rounds 4 ?_
 iterate 4
  rw[rounds_succ]
  go_wp2
 go_ret
 exact⟨rfl,rfl⟩
end
section
variable {w:World} {O:Nat→Prop} {g:Nat} {m:DK} {bv:Nat→Value} {wv:Value} {ws:List (jG×Value)} {ea:Nat→Addr}
theorem aY.row (h:aY w O g m bv wv ws) (k:Nat) (x:Value):(w.setCell ⟨g,k,none⟩ x).heap[g]?=some (.cells ((kV m bv wv).setIfInBounds k x) 125 (0,0)):=aI _ _ _ _ _ _ h.cells
theorem BI (h:aY w O g m bv wv ws):Cl 164 #[pt g] w fun e w'=>e=.returned .nilIface∧aY w' O g m bv wv ws∧Fr (fun k=>k=g) w w':=by
 have H:=Hj h
 have c8:w.cell? ⟨g,8,none⟩=some (.bool false):=h.cell 8
 have c9:w.cell? ⟨g,9,none⟩=some (.int .i64 0):=h.cell 9
 have c10:w.cell? ⟨g,10,none⟩=some (.bool false):=h.cell 10
 clear h
 go_enter Tryz.func164,Tryz.ntmps164
 go_wp2
 go_ret
 exact⟨rfl,H.out,Fr.refl _ _⟩
end
theorem aJ {B:Nat} {a w:World} (h:Below B a w):Below B a w.drew:=⟨h.os,h.tape,h.output,h.size,h.block⟩
theorem Fr.IJ {S:Nat→Prop} {a w:World} (h:Fr S a.drew w):Fr S a w:=⟨h.os,h.tape,h.output,h.size,h.block⟩
theorem Qp:(Tryz.prog.info? 239).map (fun i=>(i.zero,i.size,i.bytes))=some (some (.agg #[.int .i64 0,.int .i64 0,.slice none 0 0,.bool false]),4,48):=by kernel_rfl
theorem Src.one (w W:World) (A:Option Addr) (n k:Nat) (cp:Nat) (hW:Keeps (w.alloc (.cells #[.slice A n k] 35)) W):Src Tryz.prog 1 130 (.slice (some ⟨w.heap.size,0,none⟩) 1 cp) 1 [.slice A n k] W:=
 Src.ofSlice _ Tryz.underlying130 _ _ cp _ rfl (fun j u hu=>hW _ _ (mJ (cs:=#[.slice A n k]) (aA w _) j u hu)) (fun u hu=>by
  rw[iq.1 hu];rfl)
theorem yD:(Tryz.prog.info? 35).map (fun i=>(i.zero,i.size,i.bytes))=some (some (.slice none 0 0),1,24):=by kernel_rfl
theorem dO {T:TypeId} {z:Option Value} {s b:Nat} (h:(Tryz.prog.info? T).map (fun i=>(i.zero,i.size,i.bytes))=some (z,s,b)):∃i,Tryz.prog.info? T=some i∧i.zero=z∧i.size=s∧i.bytes=b:=by
 cases hi:Tryz.prog.info? T with
 | none=>rw[hi] at h;cases h
 | some i=>
  rw[hi] at h
  injection h with h
  injection h with h1 h2
  injection h2 with h2 h3
  exact⟨i,rfl,h1,h2,h3⟩
/-- A change as cells. -/
def Qq (c:jG) (xv:Value):Array Value:=#[.int .i64 (c.area:Int),.int .i64 (c.pos:Int),xv,.bool c.cuts]
theorem Ja (c:jG) (xv:Value):lV [(c,xv)]=(Qq c xv).toList:=rfl
theorem Src.Ph (w W:World) (c:jG) (A:Option Addr) (n k:Nat) (cp:Nat) (hW:Keeps (w.alloc (.cells #[.int .i64 (c.area:Int),.int .i64 (c.pos:Int),.slice A n k,.bool c.cuts] 239)) W):Src Tryz.prog 4 123 (.slice (some ⟨w.heap.size,0,none⟩) 1 cp) 1 (lV [(c,.slice A n k)]) W:=
 Src.ofSlice _ Tryz.underlying123 _ _ cp _ rfl (fun j u hu=>hW _ _ (mJ (cs:=#[.int .i64 (c.area:Int),.int .i64 (c.pos:Int),.slice A n k,.bool c.cuts]) (aA w _) j u hu)) (fun u hu=>by
  simp only[Ja,Qq,List.mem_cons,List.not_mem_nil,or_false] at hu
  rcases hu with rfl | rfl | rfl | rfl<;>rfl)
theorem Aw {ops:Array Oper} {o:Oper} {a:Act} {w:World} {K:Act→World→Prop} {Q:Exit→Act→World→Prop} {E:Prop} (hgd:o.guard=none) (s x:Operand)
  (ho:o.op=.call {callee:=.builtin .append,args:=#[s,x],argTypes:=#[123,123]})
  {v:Value} {ws:List (jG×Value)} (hown:ah w 0 239 4 v ws.length (lV ws)) (hs:a.eval s=v)
  {xv:Value} {y:jG×Value} (hsrc:Src Tryz.prog 4 123 xv 1 (lV [y]) w) (hx:a.eval x=xv) (hbytes:ws.length≤1000000)
  (h:∀v' w',ah w' 0 239 4 v' (ws.length+1) (lV (ws++[y]))→w.grownBy w' v.ownBlock→(v'.ownBlock=v.ownBlock∨v'.ownBlock=some w.heap.size)→K (a.put o.dst v') w'):
  if Region.wanted o (yielded ops a.tmps)=true then Oper.wp Tryz.prog o a w K Q else E:=by
 obtain⟨i0,hi,hz0,hz1,hz2⟩:=dO Qp
 refine dA hgd s x 123 123 ho i0 _ 48 Tryz.underlying123 hi hz0 hz1 hz2 rfl (by omega) hs hown xv 1 _ hx hsrc (by unfold maxLen;omega) (by omega) (bU _) fun v' w' h1 h2 h3=> ?_
 refine h v' w' ?_ h2 h3
 rw[Au]
 exact h1
section
variable {w w':World} {O O':Nat→Prop} {g:Nat} {m m':DK} {bv:Nat→Value} {wv:Value} {ws:List (jG×Value)} {ea:Nat→Addr}
theorem aY.mono (h:aY w O g m bv wv ws) (ho:∀k,k<w.heap.size→O k→O' k):aY w O' g m bv wv ws:=
 ⟨h.cells,h.eH,h.Np,h.eq,h.bytes,h.apart,h.qm,ho _ h.lt h.jv,fun i hi k hk=>ho k (OB.lt (h.eH i hi) k hk).2 (h.ownB i hi k hk),fun k hk=>ho k (ah.lt h.Np k hk).2 (h.FD k hk),fun x hx k hk=>ho k (OB.lt (h.bytes x hx) k hk).2 (h.I9 x hx k hk)⟩
theorem aY.below (h:aY w O g m bv wv ws) (hb:Bw w w'):aY w' O g m bv wv ws:=
 h.turn (Fr.of_below hb) ((hb.block g h.lt).trans h.cells) rfl rfl
/-- One change more waits. -/
theorem aY.waitV (h:aY w O g m bv wv ws) {c:jG} {xv wv':Value} (hf:Fr (fun k=>k=g∨wv.ownBlock=some k) w w') (hc:w'.heap[g]?=some (.cells (kV m bv wv') 125 (0,0)))
  (hv:ah w' 0 239 4 wv' (ws.length+1) (lV (ws++[(c,xv)]))) (hat:wv'.ownBlock=wv.ownBlock∨∃k,wv'.ownBlock=some k∧w.heap.size≤k)
  (hx:OB w 0 xv c.bytes) (hxO:∀k,xv.ownBlock=some k→O k) (hxa:∀i,i<6→∀k,xv.ownBlock=some k→(bv i).ownBlock≠some k):
  aY w' (ext O w w') g {m with waits:=m.waits++[c]} bv wv' (ws++[(c,xv)]):=by
 have hxn:∀(x:Value) (l:List UInt8),OB w 0 x l→∀k,x.ownBlock=some k→¬(k=g∨wv.ownBlock=some k):=fun x l hx k hk e=>by
  obtain⟨cur,hcur⟩:=au hx hk
  rcases e with rfl | e
  ·exact absurd (ak hcur h.cells) (by decide)
  ·obtain ⟨cur',hc'⟩:=au h.Np e
   exact absurd (ak hcur hc') (by decide)
 refine⟨hc,fun i hi=>ah.kept (h.eH i hi) hf (hxn _ _ (h.eH i hi)),by rw[bP];exact hv,by rw[dI,h.eq];rfl,fun x hx'=> ?_,h.apart,fun x hx' i hi k hk=> ?_,.inl h.jv,fun i hi k hk=>.inl (h.ownB i hi k hk),fun k hk=> ?_,fun x hx' k hk=> ?_⟩
 ·rcases iO.1 hx' with hx' | hx'
  ·exact ah.kept (h.bytes x hx') hf (hxn _ _ (h.bytes x hx'))
  ·rw [iq.1 hx']
   exact ah.kept hx hf (hxn _ _ hx)
 ·rcases iO.1 hx' with hx' | hx'
  ·exact h.qm x hx' i hi k hk
  ·rw [iq.1 hx'] at hk
   exact hxa i hi k hk
 ·rcases hat with e | ⟨q,e,hq⟩
  ·exact .inl (h.FD k (e.symm.trans hk))
  ·refine .inr ⟨?_,(ah.lt hv k hk).2⟩
   rw[e] at hk
   injection hk with hk
   omega
 ·rcases iO.1 hx' with hx' | hx'
  ·exact .inl (h.I9 x hx' k hk)
  ·rw [iq.1 hx'] at hk
   exact .inl (hxO k hk)
/-- What stands behind the append. -/
theorem Dx {w1 wa w3:World} {v3:Value} (h:aY w1 O g m bv wv ws) (hb:Bw w1 wa) (hgr:wa.drew.grownBy w3 wv.ownBlock) (hat:v3.ownBlock=wv.ownBlock∨v3.ownBlock=some wa.drew.heap.size):
  w3.heap[g]?=some (.cells (kV m bv wv) 125 (0,0))∧w3.cell? ⟨g,7,none⟩=some wv∧w3.frozen? ⟨g,7,none⟩=false∧Fr (fun q=>q=g∨wv.ownBlock=some q) w1 w3∧(v3.ownBlock=wv.ownBlock∨∃q,v3.ownBlock=some q∧w1.heap.size≤q):=by
 have hg3:=((Fr.bF hgr).block g (dP h.lt (aJ hb).size) (fun e=>h.wne e.symm)).trans (((aJ hb).block g h.lt).trans h.cells)
 exact⟨hg3,Kq 7 hg3,Kj hg3,(Fr.of_below (aJ hb)).trans (Fr.bF hgr) (fun q _ hq=>.inr hq.symm),hat.imp id fun e=>⟨_,e,(aJ hb).size⟩⟩
theorem Jb (c:jG) (A:Option Addr) (n k:Nat) (h:aY w O g m bv wv ws) (hok:m.Ok) (hw:m.waits.length≤1000) (hca:c.area<3) (hp:c.pos+c.bytes.length≤1048576) (hx:OB w 0 (.slice A n k) c.bytes) (hxO:∀q,(Value.slice A n k).ownBlock=some q→O q)
  (hbx:¬O w.heap.size) (hxa:∀i,i<6→∀q,(Value.slice A n k).ownBlock=some q→(bv i).ownBlock≠some q):Cl 163 #[pt g,.agg #[.int .i64 (c.area:Int),.int .i64 (c.pos:Int),.slice A n k,.bool c.cuts]] w fun e w'=>e=.returned .nilIface∧gu w' (ext O w w') g (m.wait c)∧Fr O w w':=by
 have D0:=(aj w.heap.size w).alloc Kv (.cells #[.int .i64 (c.area:Int),.int .i64 (c.pos:Int),.slice A n k,.bool c.cuts] 239)
 have H1:=Hj (BI (h.below D0))
 have HD:=Hj D0
 have HX:=Hj (OB.below hx D0)
 have HXO:=Hj hxO
 have HXA:=Hj hxa
 have HK:=Hj hok
 have HG:=Hj h.jv
 have FI:=Hj hbx
 have HOW:=Hj h.FD
 have hgl:=h.lt
 have hg0:=Hj h.cells
 have hbg:w.heap.size≠g:=by omega
 have hlw:ws.length≤1000:=by rw[←aX (fun x:jG×Value=>x.1),h.eq];exact hw
 have HWB:Hid (∀q,wv.ownBlock=some q→q<w.heap.size):=Hj fun q hq=>(ah.lt h.Np q hq).2
 obtain⟨A7,c7,e7,_,_⟩:=ah.form h.Np
 subst e7
 clear h hok hw hx hxO hxa D0 hbx
 go_enter Tryz.func163,Tryz.ntmps163
 go_wp2_with (go_at_call 164;refine H1.out.mono ?_;rintro e w1 ⟨rfl,hv1,hf1⟩)
 have V1:=Hj hv1
 have F1:=Hj hf1
 have hs1:=hf1.size
 have D1:=(aj w1.heap.size w1).alloc Kv (.cells #[.int .i64 (c.area:Int),.int .i64 (c.pos:Int),.slice A n k,.bool c.cuts] 239)
 have cA:w1.cell? ⟨g,7,none⟩=some (.slice A7 ws.length c7):=hv1.cell 7
 have cAa:=Kz D1 _ _ cA
 have hbox:∀i u,(#[.int .i64 (c.area:Int),.int .i64 (c.pos:Int),.slice A n k,.bool c.cuts]:Array Value)[i]?=some u→w1.cell? ⟨w.heap.size,i,none⟩=some u:=fun i u hu=>by
  rw[hf1.cell (p:=⟨w.heap.size,i,none⟩) (by simp) hbg,bT _ _ i _ _ _ (aA w _)]
  exact hu
 have b0:w1.cell? ⟨w.heap.size,0,none⟩=some (.int .i64 (c.area:Int)):=hbox 0 _ rfl
 have b1:w1.cell? ⟨w.heap.size,1,none⟩=some (.int .i64 (c.pos:Int)):=hbox 1 _ rfl
 have b2:w1.cell? ⟨w.heap.size,2,none⟩=some (.slice A n k):=hbox 2 _ rfl
 have b3:w1.cell? ⟨w.heap.size,3,none⟩=some (.bool c.cuts):=hbox 3 _ rfl
 have HB:=Hj D1
 clear hv1 hf1 hbox D1
 go_region_law (first
  | (refine Aw rfl (.tmp 15) (.tmp 17) (by rfl) (ah.drew (V1.out.Np.below HB.out)) (by rfl) (Src.Ph w1 (w1.alloc (.cells #[.int .i64 (c.area:Int),.int .i64 (c.pos:Int),.slice A n k,.bool c.cuts] 239)).drew c A n k 1 (Kz (aJ (aj _ _)))) (by rfl) (by omega) ?_;intro v3 w3 hown3 FK UZ;have YB:=Dx V1.out HB.out FK UZ;have m7:=YB.2.1;have f7:=YB.2.2.1;obtain⟨A3,c3,rfl,-,-⟩:=ah.form hown3;have HM3:=Hj YB;have KQ:=Hj hown3;clear YB FK hown3 UZ))
 all_goals
  obtain⟨w4,hw4⟩:∃W,W=w3.setCell ⟨g,7,none⟩ (.slice A3 (ws.length+1) c3):=⟨_,rfl⟩
  rw[←hw4]
  have xO:Hid (w.heap.size<w1.heap.size):=Hj (by simp at hs1;omega)
  have Xq:Hid (Fr (fun q=>q=g∨(Value.slice A7 ws.length c7).ownBlock=some q) w1 w4):=Hj (by rw[hw4];exact HM3.out.2.2.2.1.setCell (p:=⟨g,7,none⟩) (fun _=>.inl rfl) _)
  have V4:Hid (aY w4 (ext O w1 w4) g {m with waits:=m.waits++[c]} bv (.slice A3 (ws.length+1) c3) (ws++[(c,Value.slice A n k)])):=Hj (V1.out.waitV Xq.out (by rw[hw4];exact aI _ _ _ _ _ _ HM3.out.1)
   (by rw[hw4];exact ah.eY KQ.out fun q hq=>Below.heap_setCell w3 ⟨g,7,none⟩ _ q (fun e=>by
    have e:q=g:=e
    subst e
    obtain⟨cur,hcur⟩:=au KQ.out hq
    exact absurd (ak hcur HM3.out.1) (by decide))) HM3.out.2.2.2.2 (ah.kept HX.out F1.out fun q hq e=>by
     have:=HXO.out q hq
     have e:q=g:=e
     subst e
     obtain⟨cur,hcur⟩:=au HX.out hq
     exact absurd (ak hcur ((HD.out.block _ hgl).trans hg0.out)) (by decide)) HXO.out HXA.out)
  have t0:w4.cell? ⟨w.heap.size,0,none⟩=some (.int .i64 (c.area:Int)):=by rw[Xq.out.cell (p:=⟨w.heap.size,0,none⟩) xO.out (fun e=>e.elim hbg fun e=>absurd (HWB.out _ e) (Nat.lt_irrefl _))];exact b0
  have t1:w4.cell? ⟨w.heap.size,1,none⟩=some (.int .i64 (c.pos:Int)):=by rw[Xq.out.cell (p:=⟨w.heap.size,1,none⟩) xO.out (fun e=>e.elim hbg fun e=>absurd (HWB.out _ e) (Nat.lt_irrefl _))];exact b1
  have t2:w4.cell? ⟨w.heap.size,2,none⟩=some (.slice A n k):=by rw[Xq.out.cell (p:=⟨w.heap.size,2,none⟩) xO.out (fun e=>e.elim hbg fun e=>absurd (HWB.out _ e) (Nat.lt_irrefl _))];exact b2
  have t3:w4.cell? ⟨w.heap.size,3,none⟩=some (.bool c.cuts):=by rw[Xq.out.cell (p:=⟨w.heap.size,3,none⟩) xO.out (fun e=>e.elim hbg fun e=>absurd (HWB.out _ e) (Nat.lt_irrefl _))];exact b3
  have X4:=Hj (V4.out.bytes (c,.slice A n k) (by simp))
  have HT:Hid (∀w5,Fr (ext O w1 w4) w4 w5→∀j,w5.cell? ⟨w.heap.size,j,none⟩=w4.cell? ⟨w.heap.size,j,none⟩):=Hj fun w5 hf j=>hf.cell (p:=⟨w.heap.size,j,none⟩) (dP xO.out Xq.out.size) (fun e=>e.elim FI.out fun e=>absurd e.1 (Nat.not_le_of_lt xO.out))
  have HK4:Hid (DK.Ok {m with waits:=m.waits++[c]}):=Hj ⟨HK.out.Ld,HK.out.yE,HK.out.len,fun c' hc'=>(iO.1 hc').elim (HK.out.wait c') fun hc'=>by rw[iq.1 hc'];exact⟨hca,hp⟩⟩
  clear hw4 b0 b1 b2 b3 cA cAa m7 f7 hs1
  go_wp2_with fail
  go_region_held3 (fun w'=>w'.cell? ⟨w.heap.size,0,none⟩=w4.cell? ⟨w.heap.size,0,none⟩∧w'.cell? ⟨w.heap.size,1,none⟩=w4.cell? ⟨w.heap.size,1,none⟩∧w'.cell? ⟨w.heap.size,2,none⟩=w4.cell? ⟨w.heap.size,2,none⟩∧w'.cell? ⟨w.heap.size,3,none⟩=w4.cell? ⟨w.heap.size,3,none⟩) (go_keep)
   (first | (go_at_call 211;refine(Yz g 4 c.area c (.slice A n k) _ HK4.out (ext O w1 w4) bv _ _ w4.drew (V4.out.below (aJ (aj _ _))) (.inr rfl) rfl hca hp (ah.drew X4.out) (HXA.out (3+c.area) (by omega))).mono ?_;rintro e w5 ⟨rfl,bv5,hv5,hf5⟩;replace hf5:=Fr.IJ hf5;have k0:=HT.out w5 hf5 0;have k1:=HT.out w5 hf5 1;have k2:=HT.out w5 hf5 2;have k3:=HT.out w5 hf5 3;replace hv5:=Hj hv5;replace hf5:=Hj hf5))
  go_wp2
  go_ret
  have z1:=xO.out
  have z4:=Xq.out.size
  have z5:=hf5.out.size
  refine⟨rfl,⟨bv5,_,_,hv5.out.mono fun q hq ho=> ?_⟩,?_⟩
  ·rcases ho with (ho | ho) | ho
   ·exact .inl ho
   ·exact .inr ⟨by omega,hq⟩
   ·exact .inr ⟨by have:w4.heap.size≤q:=ho.1;omega,hq⟩
  ·refine (((Fr.of_below (S:=O) HD.out).trans F1.out (fun q _ e=>by subst e;exact HG.out)).trans Xq.out (fun q _ e=> ?_)).trans hf5.out (fun q hq e=> ?_)
   ·rcases e with rfl | e
    ·exact HG.out
    ·exact HOW.out q e
   ·rcases e with e | e
    ·exact e
    ·omega
theorem BJ (c:jG) (A:Option Addr) (n k:Nat) (h:aY w O g m bv wv ws) (hok:m.Ok) (hw:m.waits.length≤1000) (hca:c.area<3) (hp:c.pos+c.bytes.length≤1048576) (hx:OB w 0 (.slice A n k) c.bytes) (hxO:∀q,(Value.slice A n k).ownBlock=some q→O q)
  (hxa:∀i,i<6→∀q,(Value.slice A n k).ownBlock=some q→(bv i).ownBlock≠some q):Cl 163 #[pt g,.agg #[.int .i64 (c.area:Int),.int .i64 (c.pos:Int),.slice A n k,.bool c.cuts]] w fun e w'=>e=.returned .nilIface∧gu w' (ext O w w') g (m.wait c)∧Fr O w w':=by
 refine(Jb (O:=fun q=>O q∧q<w.heap.size) c A n k (h.mono fun q hq ho=>⟨ho,hq⟩) hok hw hca hp hx (fun q hq=>⟨hxO q hq,(OB.lt hx q hq).2⟩) (fun e=>Nat.lt_irrefl _ e.2) hxa).mono ?_
 rintro e w' ⟨rfl,⟨Qm,wv',ws',hv⟩,hf⟩
 exact⟨rfl,⟨Qm,wv',ws',hv.mono fun q _ ho=>ho.imp And.left id⟩,hf.mono fun q _ ho=>ho.1⟩
end
/-- The error that a number names. -/
def jC (ea:Nat→Addr):Nat→Value
 | 0=>.nilIface
 | k+1=>.iface 368 (.pointer (some (ea (k+1))))
section
variable {w w':World} {O O':Nat→Prop} {g:Nat} {m m':DK} {bv:Nat→Value} {wv:Value} {ws:List (jG×Value)} {ea:Nat→Addr}
theorem Jc (a p:Nat) (A:Option Addr) (n k:Nat) (bs:List UInt8) (hV:gu w O g m) (hok:m.Ok) (hb:RB w A n bs) (hn:n≤1048576) (hw:m.waits.length≤1000) (ha:a<3) (hpl:p≤(m.b (3+a)).length) (hfr:(p:Int)+n-((m.b (3+a)).length:Int)≤m.free):
  Cl 208 #[pt g,.int .i64 (a:Int),.int .i64 (p:Int),.slice A n k] w fun e w'=>e=.returned .nilIface∧gu w' (ext O w w') g (m.wait ⟨a,p,bs,false⟩)∧Fr O w w':=by
 obtain⟨bv,wv,ws,h⟩:=hV
 have hbl:=hb.1
 have HD:Hid (decide (0≤(a:Int)∧(a:Int)<3)=true):=Hj (aZ (by omega))
 have hsz:=hok.len (3+a) (by omega)
 have HS:=Hj (xM a ha h)
 have HF:=Hj (FH hok h)
 have hf1:m.free≤1048576:=by have:=hok.yE;unfold DK.free;omega
 have hc:=dU A n k bs w hb (by omega)
 rw[hbl] at hc
 have HC:=Hj hc
 have hpb:p+bs.length≤1048576:=by
  have z0:=hok.yE
  have zz:a=0∨a=1∨a=2:=by omega
  unfold DK.free at hfr
  rcases zz with rfl | rfl | rfl
  ·change (p:Int)+n-((m.b 3).length:Int)≤_ at hfr;omega
  ·change (p:Int)+n-((m.b 4).length:Int)≤_ at hfr;omega
  ·change (p:Int)+n-((m.b 5).length:Int)≤_ at hfr;omega
 have HX:=Hj (fun(W:World) (A2:Option Addr) (c2:Nat) (hb:Bw w W) (hx:OB W w.heap.size (.slice A2 n c2) bs)=>BJ (O:=ext O w W) (w:=W) ⟨a,p,bs,false⟩ A2 n c2 ((h.below hb).mono fun _ _ ho=>.inl ho) hok hw ha hpb (ah.mono hx fun _ _=>bU _) (fun q hq=>.inr (OB.lt hx q hq)) (fun i hi q hq e=>by
  have:=(OB.lt hx q hq).1
  have:=(OB.lt (h.eH i hi) q e).2
  omega))
 dsimp only at HX
 obtain⟨sz,hs⟩:∃sz,sz=(m.b (3+a)).length:=⟨_,rfl⟩
 obtain⟨fr,hfe⟩:∃fr,fr=m.free:=⟨_,rfl⟩
 rw[←hs] at hsz HS hpl hfr
 rw[←hfe] at HF hf1 hfr
 have q2:decide ((sz:Int)<(p:Int))=false:=aQ (by omega)
 have q3:decide (fr<(p:Int)+n-sz)=false:=aQ (by omega)
 have p0:(p:Int)≤1048576:=by omega
 clear hb h hok hs hpb hc hfe hbl
 go_enter Tryz.func208,Tryz.ntmps208
 go_wp2_with (first
  | (go_at_call 162;refine(Dw _ _).mono ?_;rw[HD.out];rintro e w' ⟨rfl,rfl⟩)
  | (go_at_call 102;refine HS.out.mono ?_;rintro e w' ⟨rfl,rfl⟩)
  | (go_at_call 137;refine HF.out.mono ?_;rintro e w' ⟨rfl,rfl⟩)
  | (go_at_call 94;refine HC.out.mono ?_;rintro e w1 ⟨A2,c2,rfl,hx1,hb1⟩;replace hb1:=Hj hb1;replace hx1:=Hj hx1)
  | (go_at_call 163;refine(HX.out w1 A2 c2 hb1.out hx1.out).mono ?_;rintro e w2 ⟨rfl,⟨bv2,wv2,ws2,hv2⟩,hf2⟩))
 go_ret
 have z1:=hb1.out.size
 refine⟨rfl,⟨_,_,_,hv2.mono fun q hq ho=> ?_⟩,(Fr.of_below hb1.out).trans hf2 fun q hq ho=> ?_⟩
 ·rcases ho with (ho | ho) | ho
  ·exact .inl ho
  ·exact .inr ⟨ho.1,hq⟩
  ·exact .inr ⟨Cz z1 ho.1,hq⟩
 ·rcases ho with ho | ho
  ·exact ho
  ·exact absurd ho.1 (Nat.not_le_of_lt hq)
end
theorem iG {w w':World} {b:Nat} {cs:Array Value} {T:TypeId} (h:w.heap[b]?=some (.cells cs T (0,0))) (hb:Bw w w'):w'.heap[b]?=some (.cells cs T (0,0)):=(hb.block b (Cq h)).trans h
theorem round_facts {wA w1:World} {b i:Nat} {cs:Array Value} {v:Value} {l:List UInt8} (hR:wA.heap[b]?=some (.cells cs 122 (0,0))) (hb:Bw wA w1) (hv:OB w1 wA.heap.size v l):
  (w1.setCell ⟨b,i,none⟩ v).heap[b]?=some (.cells (cs.setIfInBounds i v) 122 (0,0))∧Fr (fun k=>k=b) wA (w1.setCell ⟨b,i,none⟩ v)∧OB (w1.setCell ⟨b,i,none⟩ v) wA.heap.size v l:=by
 have hlt:=(Cq hR)
 exact⟨aI _ _ _ _ _ _ (iG hR hb),(Fr.of_below (S:=fun k=>k=b) hb).setCell (p:=⟨b,i,none⟩) (fun _=>rfl) _,ah.kept hv ((Fr.refl (fun k=>k=b) w1).setCell (p:=⟨b,i,none⟩) (fun _=>rfl) _) (fun k hk e=>by have:=(OB.lt hv k hk).1;omega)⟩
theorem nR {w w':World} {b B:Nat} {v:Value} {l:List UInt8} (h:OB w B v l) (hf:Fr (fun k=>k=b) w w') (hb:b<B):OB w' B v l:=ah.kept h hf fun k hk e=>by have:=(OB.lt h k hk).1;omega
/-- Copies of three areas. -/
theorem Jd (A0 A1 A2:Option Addr) (k0 k1 k2:Nat) (l0 l1 l2:List UInt8) (w:World) (h0:RB w A0 l0.length l0) (h1:RB w A1 l1.length l1) (h2:RB w A2 l2.length l2) (hn0:l0.length≤1048576) (hn1:l1.length≤1048576) (hn2:l2.length≤1048576):
  Cl 165 #[.agg #[.slice A0 l0.length k0,.slice A1 l1.length k1,.slice A2 l2.length k2]] w fun e w'=>∃B0 B1 B2 d0 d1 d2,e=.returned (.agg #[.slice B0 l0.length d0,.slice B1 l1.length d1,.slice B2 l2.length d2])∧
   OB w' w.heap.size (.slice B0 l0.length d0) l0∧OB w' w.heap.size (.slice B1 l1.length d1) l1∧OB w' w.heap.size (.slice B2 l2.length d2) l2∧(∀q,(Value.slice B0 l0.length d0).ownBlock=some q→(Value.slice B1 l1.length d1).ownBlock≠some q∧(Value.slice B2 l2.length d2).ownBlock≠some q)∧(∀q,(Value.slice B1 l1.length d1).ownBlock=some q→(Value.slice B2 l2.length d2).ownBlock≠some q)∧Bw w w':=by
 have H0:=Hj h0
 have H1:=Hj h1
 have H2:=Hj h2
 clear h0 h1 h2
 go_enter Tryz.func165,Tryz.ntmps165
 go_wp2
 obtain⟨wA,hwA⟩:∃W,W=(w.alloc (.cells #[.slice A0 l0.length k0,.slice A1 l1.length k1,.slice A2 l2.length k2] 122)).alloc (.cells #[.slice none 0 0,.slice none 0 0,.slice none 0 0] 122):=⟨_,rfl⟩
 rw[←hwA]
 have D0:=(aj w.heap.size w).alloc Kv (.cells #[.slice A0 l0.length k0,.slice A1 l1.length k1,.slice A2 l2.length k2] 122)
 have BA:Hid (Bw w wA):=Hj (by rw[hwA];exact D0.alloc D0.size _)
 have R1:Hid (wA.heap[w.heap.size]?=some (.cells #[.slice A0 l0.length k0,.slice A1 l1.length k1,.slice A2 l2.length k2] 122 (0,0))):=Hj (by rw[hwA];exact iG (aA w _) ((aj _ _).alloc Kv _))
 have R2:Hid (wA.heap[w.heap.size+1]?=some (.cells #[.slice none 0 0,.slice none 0 0,.slice none 0 0] 122 (0,0))):=Hj (by
  rw[hwA]
  have:=aA (w.alloc (.cells #[.slice A0 l0.length k0,.slice A1 l1.length k1,.slice A2 l2.length k2] 122)) (.cells #[.slice none 0 0,.slice none 0 0,.slice none 0 0] 122)
  simpa using this)
 have hsA:Hid (w.heap.size+2≤wA.heap.size):=Hj (by rw[hwA];simp)
 have c0:wA.cell? ⟨w.heap.size,0,none⟩=some (.slice A0 l0.length k0):=Kq 0 R1.out
 clear hwA D0
 refine wp_loop_rounds 4 ?_
 rw[rounds_succ]
 go_wp2_with (go_at_call 94;refine(dU A0 _ k0 l0 wA (H0.out.keep (Kz BA.out)) (by omega)).mono ?_;rintro e w1 ⟨B0,d0,rfl,ho1,hb1⟩;have m1:=Kq 0 (iG R1.out hb1);have f1:w1.frozen? ⟨w.heap.size,0,none⟩=false:=Kj (iG R1.out hb1);replace ho1:=Hj ho1;replace hb1:=Hj hb1)
 obtain⟨v1,hv1⟩:∃W,W=w1.setCell ⟨w.heap.size,0,none⟩ (.slice B0 l0.length d0):=⟨_,rfl⟩
 rw[←hv1]
 have X1:=Hj (round_facts (i:=0) R1.out hb1.out ho1.out)
 rw[←hv1] at X1
 have BV1:Hid (Bw w v1):=Hj (BA.out.trans (X1.out.2.1.below BA.out.size fun i _ e=>Nat.le_of_eq e.symm))
 have c1:v1.cell? ⟨w.heap.size,1,none⟩=some (.slice A1 l1.length k1):=Kq 1 X1.out.1
 clear hv1 m1 f1 c0
 rw[rounds_succ]
 go_wp2_with (go_at_call 94;refine(dU A1 _ k1 l1 v1 (H1.out.keep (Kz BV1.out)) (by omega)).mono ?_;rintro e w2 ⟨B1,d1,rfl,ho2,hb2⟩;have m2:=Kq 1 (iG X1.out.1 hb2);have f2:w2.frozen? ⟨w.heap.size,1,none⟩=false:=Kj (iG X1.out.1 hb2);replace ho2:=Hj ho2;replace hb2:=Hj hb2)
 obtain⟨v2,hv2⟩:∃W,W=w2.setCell ⟨w.heap.size,1,none⟩ (.slice B1 l1.length d1):=⟨_,rfl⟩
 rw[←hv2]
 have X2:=Hj (round_facts (i:=1) X1.out.1 hb2.out ho2.out)
 rw[←hv2] at X2
 have BV2:Hid (Bw w v2):=Hj (BV1.out.trans (X2.out.2.1.below BV1.out.size fun i _ e=>Nat.le_of_eq e.symm))
 have c2:v2.cell? ⟨w.heap.size,2,none⟩=some (.slice A2 l2.length k2):=Kq 2 X2.out.1
 clear hv2 m2 f2 c1
 rw[rounds_succ]
 go_wp2_with (go_at_call 94;refine(dU A2 _ k2 l2 v2 (H2.out.keep (Kz BV2.out)) (by omega)).mono ?_;rintro e w3 ⟨B2,d2,rfl,ho3,hb3⟩;have m3:=Kq 2 (iG X2.out.1 hb3);have f3:w3.frozen? ⟨w.heap.size,2,none⟩=false:=Kj (iG X2.out.1 hb3);replace ho3:=Hj ho3;replace hb3:=Hj hb3)
 obtain⟨v3,hv3⟩:∃W,W=w3.setCell ⟨w.heap.size,2,none⟩ (.slice B2 l2.length d2):=⟨_,rfl⟩
 rw[←hv3]
 have X3:=Hj (round_facts (i:=2) X2.out.1 hb3.out ho3.out)
 rw[←hv3] at X3
 have BV3:Hid (Bw w v3):=Hj (BV2.out.trans (X3.out.2.1.below BV2.out.size fun i _ e=>Nat.le_of_eq e.symm))
 have p0:v3.cell? ⟨w.heap.size,0,none⟩=some (.slice B0 l0.length d0):=Kq 0 X3.out.1
 have p1:v3.cell? ⟨w.heap.size,1,none⟩=some (.slice B1 l1.length d1):=Kq 1 X3.out.1
 have p2:v3.cell? ⟨w.heap.size,2,none⟩=some (.slice B2 l2.length d2):=Kq 2 X3.out.1
 have FA:Hid (Fr (fun k=>k=w.heap.size) wA v3):=Hj ((X1.out.2.1.trans X2.out.2.1 fun _ _ h=>h).trans X3.out.2.1 fun _ _ h=>h)
 have RN:Hid (v3.heap[w.heap.size+1]?=some (.cells #[.slice none 0 0,.slice none 0 0,.slice none 0 0] 122 (0,0))):=Hj ((FA.out.block (w.heap.size+1) (by have:=hsA.out;omega) (by omega)).trans R2.out)
 have r0:v3.cell? ⟨w.heap.size+1,0,none⟩=some (.slice none 0 0):=Kq 0 RN.out
 have r1:v3.cell? ⟨w.heap.size+1,1,none⟩=some (.slice none 0 0):=Kq 1 RN.out
 have r2:v3.cell? ⟨w.heap.size+1,2,none⟩=some (.slice none 0 0):=Kq 2 RN.out
 have g0:v3.frozen? ⟨w.heap.size+1,0,none⟩=false:=Kj RN.out
 have g1:v3.frozen? ⟨w.heap.size+1,1,none⟩=false:=Kj RN.out
 have g2:v3.frozen? ⟨w.heap.size+1,2,none⟩=false:=Kj RN.out
 clear hv3 m3 f3 c2
 rw[rounds_succ]
 go_wp2
 have HF:=(((Fr.refl (fun k=>k=w.heap.size+1) v3).setCell (p:=⟨w.heap.size+1,0,none⟩) (fun _=>rfl) (.slice B0 l0.length d0)).setCell (p:=⟨w.heap.size+1,1,none⟩) (fun _=>rfl) (.slice B1 l1.length d1)).setCell (p:=⟨w.heap.size+1,2,none⟩) (fun _=>rfl) (.slice B2 l2.length d2)
 have hs2:=hsA.out
 have z1:=X1.out.2.1.size
 have z2:=X2.out.2.1.size
 have z3:=X3.out.2.1.size
 have O1:OB v1 wA.heap.size (.slice B0 l0.length d0) l0:=X1.out.2.2
 have O2:OB v2 v1.heap.size (.slice B1 l1.length d1) l1:=X2.out.2.2
 have O3:OB v3 v2.heap.size (.slice B2 l2.length d2) l2:=X3.out.2.2
 have a1:=OB.lt O1
 have a2:=OB.lt O2
 have a3:=OB.lt O3
 have O1':=nR (nR (nR O1 X2.out.2.1 (by omega)) X3.out.2.1 (by omega)) HF (by omega)
 have O2':=nR (nR O2 X3.out.2.1 (by omega)) HF (by omega)
 have O3':=nR O3 HF (by omega)
 refine bg (results_cell_row rfl _ _ (w.heap.size+1) 122 #[.slice B0 l0.length d0,.slice B1 l1.length d1,.slice B2 l2.length d2] (0,0) _ rfl (aI _ _ _ _ _ _ (aI _ _ _ _ _ _ (aI _ _ _ _ _ _ RN.out))) Tryz.underlying122 rfl (by kernel_rfl)) rfl ⟨B0,B1,B2,d0,d1,d2,rfl,?_,?_,?_,?_,?_,?_⟩
 ·exact ah.mono O1' fun k hk=>by have:=a1 k hk;omega
 ·exact ah.mono O2' fun k hk=>by have:=a2 k hk;omega
 ·exact ah.mono O3' fun k hk=>by have:=a3 k hk;omega
 ·intro q hq
  have:=a1 q hq
  exact⟨fun e=>by have:=a2 q e;omega,fun e=>by have:=a3 q e;omega⟩
 ·intro q hq e
  have:=a2 q hq
  have:=a3 q e
  omega
 ·exact BV3.out.trans (HF.below BV3.out.size fun i _ e=>by omega)
section
variable {w w1 w':World} {O O':Nat→Prop} {g:Nat} {m m':DK} {bv Qm:Nat→Value} {wv:Value} {ws:List (jG×Value)} {ea:Nat→Addr}
/-- Some areas are new, nothing waits. -/
theorem aY.newV (h:aY w O g m bv wv ws) (hb:Bw w w1) (hf:Fr (fun k=>k=g) w1 w') (hc:w'.heap[g]?=some (.cells (kV m' Qm (.slice none 0 0)) 125 (0,0)))
  (hN:∀i,i<6→(Qm i=bv i∧m'.b i=m.b i)∨OB w1 w.heap.size (Qm i) (m'.b i)) (hap:∀i j,i<6→j<6→i≠j→∀k,(Qm i).ownBlock=some k→w.heap.size≤k→(Qm j).ownBlock≠some k) (hw:m'.waits=[]):
  aY w' (ext O w w') g m' Qm (.slice none 0 0) []:=by
 have hg:=h.lt
 have key:∀i,i<6→∀k,(Qm i).ownBlock=some k→(bv i).ownBlock=some k∧k<w.heap.size∨w.heap.size≤k∧k<w'.heap.size:=fun i hi k hk=>by
  rcases hN i hi with ⟨e,_⟩ | e
  ·rw [e] at hk
   exact .inl ⟨hk,(OB.lt (h.eH i hi) k hk).2⟩
  ·have:=OB.lt e k hk
   exact .inr ⟨this.1,dP this.2 hf.size⟩
 refine⟨hc,fun i hi=> ?_,ah.nil _ _ _ _,by rw[hw];rfl,fun x hx=>(by cases hx),fun i j hi hj hij k hk e=> ?_,fun x hx=>(by cases hx),.inl h.jv,fun i hi k hk=> ?_,fun k hk=>(by cases hk),fun x hx=>(by cases hx)⟩
 ·rcases hN i hi with ⟨e,e'⟩ | e
  ·rw [e,e']
   exact ah.kept ((h.eH i hi).below hb) hf fun k hk e=>h.bne hi (by rw[←e];exact hk)
  ·exact ah.mono (ah.kept e hf fun k hk e'=>by have:=(OB.lt e k hk).1;omega) fun _ _=>bU _
 ·rcases key i hi k hk with ⟨h1,h2⟩ | h1
  ·rcases key j hj k e with ⟨h3,h4⟩ | h3
   ·exact h.apart i j hi hj hij k h1 h3
   ·omega
  ·exact hap i j hi hj hij k hk h1.1 e
 ·rcases key i hi k hk with h1 | h1
  ·exact .inl (h.ownB i hi k h1.1)
  ·exact .inr h1
/-- Areas 0 to 2 (off = 0) or 3 to 5 (off = 3) put anew. -/
def Dy (off:Nat) (bv:Nat→Value) (v0 v1 v2:Value):Nat→Value:=fun i=>if i=off then v0 else if i=off+1 then v1 else if i=off+2 then v2 else bv i
theorem sF (off:Nat) (bv:Nat→Value) (v0 v1 v2:Value) (i:Nat):Dy off bv v0 v1 v2 i=bv i∧(i<off∨off+2<i)∨i=off∧Dy off bv v0 v1 v2 i=v0∨i=off+1∧Dy off bv v0 v1 v2 i=v1∨i=off+2∧Dy off bv v0 v1 v2 i=v2:=by
 unfold Dy
 by_cases h0:i=off
 ·exact .inr (.inl ⟨h0,aF h0⟩)
 ·rw [aG h0]
  by_cases h1:i=off+1
  ·exact .inr (.inr (.inl ⟨h1,aF h1⟩))
  ·rw [aG h1]
   by_cases h2:i=off+2
   ·exact .inr (.inr (.inr ⟨h2,aF h2⟩))
   ·rw [aG h2]
    exact .inl ⟨rfl,by omega⟩
theorem aY.Dy {off:Nat} {v0 v1 v2:Value} (h:aY w O g m bv wv ws) (hb:Bw w w1) (hf:Fr (fun k=>k=g) w1 w') (hc:w'.heap[g]?=some (.cells (kV m' (Dy off bv v0 v1 v2) (.slice none 0 0)) 125 (0,0)))
  (o0:OB w1 w.heap.size v0 (m'.b off)) (o1:OB w1 w.heap.size v1 (m'.b (off+1))) (o2:OB w1 w.heap.size v2 (m'.b (off+2))) (a0:∀q,v0.ownBlock=some q→v1.ownBlock≠some q∧v2.ownBlock≠some q) (a1:∀q,v1.ownBlock=some q→v2.ownBlock≠some q)
  (hm:∀i,i<6→i<off∨off+2<i→m'.b i=m.b i) (hw:m'.waits=[]):aY w' (ext O w w') g m' (Go.Proofs.YtdhbpajamlfacaaGreatDoor.Dy off bv v0 v1 v2) (.slice none 0 0) []:=by
 refine h.newV hb hf hc (fun i hi=> ?_) (fun i j hi hj hij k hk hkw e=> ?_) hw
 ·rcases sF off bv v0 v1 v2 i with ⟨e,e'⟩ | ⟨rfl,e⟩ | ⟨rfl,e⟩ | ⟨rfl,e⟩
  ·exact .inl ⟨e,hm i hi e'⟩
  ·rw [e];exact .inr o0
  ·rw [e];exact .inr o1
  ·rw [e];exact .inr o2
 ·have hold:∀i,i<6→(bv i).ownBlock=some k→False:=fun i hi e=>by have:=(OB.lt (h.eH i hi) k e).2;omega
  rcases sF off bv v0 v1 v2 i with ⟨e1,_⟩ | ⟨rfl,e1⟩ | ⟨rfl,e1⟩ | ⟨rfl,e1⟩<;>rw[e1] at hk
  ·exact hold i hi hk
  all_goals
   rcases sF _ bv v0 v1 v2 j with ⟨e2,_⟩ | ⟨h2,e2⟩ | ⟨h2,e2⟩ | ⟨h2,e2⟩<;>rw[e2] at e
   ·exact hold j hj e
   all_goals first
    | omega
    | exact(a0 k hk).1 e
    | exact(a0 k hk).2 e
    | exact(a0 k e).1 hk
    | exact(a0 k e).2 hk
    | exact a1 k hk e
    | exact a1 k e hk
theorem FM (hV:gu w O g m) (hok:m.Ok):
  Cl 104 #[pt g] w fun e w'=>e=.returned .nilIface∧gu w' (ext O w w') g m.flush∧Fr O w w':=by
 obtain⟨bv,wv,ws,h⟩:=hV
 have HG:=Hj h.jv
 have H1:=Hj (BI h)
 have l3:=hok.len 3 (by omega)
 have l4:=hok.len 4 (by omega)
 have l5:=hok.len 5 (by omega)
 obtain⟨A3,k3,e3,_,_⟩:=h.kL (i:=3) (by omega)
 obtain⟨A4,k4,e4,_,_⟩:=h.kL (i:=4) (by omega)
 obtain⟨A5,k5,e5,_,_⟩:=h.kL (i:=5) (by omega)
 have HE3:=Hj e3
 have HE4:=Hj e4
 have HE5:=Hj e5
 clear h hok e3 e4 e5
 go_enter Tryz.func104,Tryz.ntmps104
 go_wp2_with (go_at_call 164;refine H1.out.mono ?_;rintro e w1 ⟨rfl,hv1,hf1⟩;have c4:w1.cell? ⟨g,4,none⟩=some (.slice A3 (m.b 3).length k3):=(hv1.cell 4).trans (bJ some HE3.out);have c5:w1.cell? ⟨g,5,none⟩=some (.slice A4 (m.b 4).length k4):=(hv1.cell 5).trans (bJ some HE4.out);have c6:w1.cell? ⟨g,6,none⟩=some (.slice A5 (m.b 5).length k5):=(hv1.cell 6).trans (bJ some HE5.out);replace hv1:=Hj hv1;replace hf1:=Hj hf1)
 have hr3:RB w1 A3 (m.b 3).length (m.b 3):=by have:=hv1.out.eH 3 (by omega);rw[HE3.out] at this;exact RB.jd this
 have hr4:RB w1 A4 (m.b 4).length (m.b 4):=by have:=hv1.out.eH 4 (by omega);rw[HE4.out] at this;exact RB.jd this
 have Le:RB w1 A5 (m.b 5).length (m.b 5):=by have:=hv1.out.eH 5 (by omega);rw[HE5.out] at this;exact RB.jd this
 have HC:=Hj (Jd A3 A4 A5 k3 k4 k5 _ _ _ w1 hr3 hr4 Le l3 l4 l5)
 clear hr3 hr4 Le
 go_wp2_with (go_at_call 165;refine HC.out.mono ?_;rintro e w2 ⟨B0,B1,B2,d0,d1,d2,rfl,o0,o1,o2,a0,a1,hb2⟩;have hrow:=iG hv1.out.cells hb2;have m1:w2.cell? ⟨g,1,none⟩=some (bv 0):=Kq 1 hrow;have m2:w2.cell? ⟨g,2,none⟩=some (bv 1):=Kq 2 hrow;have m3:w2.cell? ⟨g,3,none⟩=some (bv 2):=Kq 3 hrow;have m7:w2.cell? ⟨g,7,none⟩=some wv:=Kq 7 hrow;have f1:w2.frozen? ⟨g,1,none⟩=false:=Kj hrow;have f2:w2.frozen? ⟨g,2,none⟩=false:=Kj hrow;have f3:w2.frozen? ⟨g,3,none⟩=false:=Kj hrow;have f7:w2.frozen? ⟨g,7,none⟩=false:=Kj hrow;replace hrow:=Hj hrow;replace o0:=Hj o0;replace o1:=Hj o1;replace o2:=Hj o2;replace a0:=Hj a0;replace a1:=Hj a1;replace hb2:=Hj hb2)
 go_ret
 have HF:=((((Fr.refl (fun k=>k=g) w2).setCell (p:=⟨g,1,none⟩) (fun _=>rfl) (.slice B0 (m.b 3).length d0)).setCell (p:=⟨g,2,none⟩) (fun _=>rfl) (.slice B1 (m.b 4).length d1)).setCell (p:=⟨g,3,none⟩) (fun _=>rfl) (.slice B2 (m.b 5).length d2)).setCell (p:=⟨g,7,none⟩) (fun _=>rfl) (.slice none 0 0)
 have hV:=hv1.out.Dy (m':=m.flush) (off:=0) hb2.out HF (aI _ _ _ _ _ _ (aI _ _ _ _ _ _ (aI _ _ _ _ _ _ (aI _ _ _ _ _ _ hrow.out)))) o0.out o1.out o2.out a0.out a1.out
  (fun i _ hi=>by show (if i<3 then m.b (3+i) else m.b i)=m.b i;rw[aG (by omega)]) rfl
 have z1:=hf1.out.size
 have z2:=hb2.out.size
 have z3:=HF.size
 refine⟨rfl,⟨_,_,_,hV.mono fun q hq ho=> ?_⟩,?_⟩
 ·exact ho.imp id fun ho=>⟨Cz z1 ho.1,hq⟩
 ·exact ((hf1.out.mono fun q _ e=>by subst e;exact HG.out).trans (Fr.of_below (S:=O) hb2.out) fun _ _ h=>h).trans HF fun q _ e=>by subst e;exact HG.out
end
section
variable {w w':World} {O O':Nat→Prop} {g:Nat} {m m':DK} {ea:Nat→Addr}
theorem Qr (a:Nat) (hV:gu w O g m) (hok:m.Ok) (hw:m.waits.length≤1000) (ha:a<3):
  Cl 103 #[pt g,.int .i64 (a:Int),.int .i64 0] w fun e w'=>e=.returned .nilIface∧gu w' (ext O w w') g (m.wait ⟨a,0,[],true⟩)∧Fr O w w':=by
 obtain⟨bv,wv,ws,h⟩:=hV
 have HD:Hid (decide (0≤(a:Int)∧(a:Int)<3)=true):=Hj (aZ (by omega))
 have hsz:=hok.len (3+a) (by omega)
 have HS:=Hj (xM a ha h)
 have HX:=Hj (BJ (O:=O) (w:=w) ⟨a,0,[],true⟩ none 0 0 h hok hw ha (by show 0+0≤_;omega) (OB.nil _ _) (fun q hq=>(by cases hq)) (fun i hi q hq=>(by cases hq)))
 dsimp only at HX
 obtain⟨sz,hs⟩:∃sz,sz=(m.b (3+a)).length:=⟨_,rfl⟩
 rw[←hs] at hsz HS
 have q2:decide ((sz:Int)<0)=false:=aQ (by omega)
 clear h hok hs
 go_enter Tryz.func103,Tryz.ntmps103
 go_wp2_with (first
  | (go_at_call 162;refine(Dw _ _).mono ?_;rw[HD.out];rintro e w' ⟨rfl,rfl⟩)
  | (go_at_call 102;refine HS.out.mono ?_;rintro e w' ⟨rfl,rfl⟩)
  | (go_at_call 163;refine HX.out.mono ?_;rintro e w2 ⟨rfl,hv2,hf2⟩))
 go_ret
 exact⟨rfl,hv2,hf2⟩
end
end Go.Proofs.YtdhbpajamlfacaaGreatDoor
