/- Layer 17 (disk): what it does, in plain words: areas of bytes, changes that wait. No program in sight. -/
import Derived.Test.YtdhbpajamlfacaaGreatDoorBase
import Derived.Test.YtdhbpajamlfacaaGreatDoorWho
import Derived.Deep.RegionHeld3
import Derived.Deep.RegionLaw
import Derived.OneCell
import Derived.StillTailTactics
set_option maxRecDepth 100000
namespace Go.Proofs.YtdhbpajamlfacaaGreatDoor
structure fC where
 area:Nat
 pos:Nat
 bytes:List UInt8
 cuts:Bool
/-- An area, long enough for a change. -/
def oN (l:List UInt8) (n:Nat):List UInt8:=l++List.replicate (n-l.length) 0
/-- An area behind a change. -/
def NK (l:List UInt8) (c:fC):List UInt8:=
 if c.cuts then l.take c.pos else (oN l (c.pos+c.bytes.length)).take c.pos++c.bytes++(oN l (c.pos+c.bytes.length)).drop (c.pos+c.bytes.length)
theorem Ag (l:List UInt8) (n:Nat):(oN l n).length=max l.length n:=by simp[oN];omega
theorem Gh (l:List UInt8) (c:fC):(NK l c).length≤max l.length (c.pos+c.bytes.length):=by
 unfold NK
 split
 ·rw [List.length_take];omega
 ·rw [List.length_append,List.length_append,List.length_take,List.length_drop,Ag];omega
theorem NV (l:List UInt8) (n:Nat) (h:n≤l.length):oN l n=l:=by simp[oN,show n-l.length=0 by omega]
/-- Areas 0 to 2 are sure, 3 to 5 are seen. -/
structure DM where
 room:Int
 b:Nat→List UInt8
 waits:List fC
 armed:Bool
 left:Int
 gone:Bool
def updB (f:Nat→List UInt8) (i:Nat) (x:List UInt8):Nat→List UInt8:=fun j=>if j=i then x else f j
theorem dV (f:Nat→List UInt8) (i:Nat) (x:List UInt8):updB f i x i=x:=if_pos rfl
theorem dN (f:Nat→List UInt8) (i j:Nat) (x:List UInt8) (h:j≠i):updB f i x j=f j:=if_neg h
/-- What a disk holds is small. -/
structure DM.Ok (m:DM):Prop where
 wu:0≤m.room
 mO:m.room≤1048576
 len:∀i,i<6→(m.b i).length≤1048576
 wait:∀c∈m.waits,c.area<3∧c.pos+c.bytes.length≤1048576
 left0:0≤m.left
 left1:m.left≤9223372036854775807
def DM.free (m:DM):Int:=m.room-((m.b 3).length:Int)-((m.b 4).length:Int)-((m.b 5).length:Int)
/-- A unit is asked for: no more of them? -/
def DM.dead (m:DM):Bool:=m.gone||(m.armed&&m.left==0)
def DM.unit (m:DM):DM:=if m.dead then {m with gone:=true} else if m.armed then {m with left:=m.left-1} else m
def DM.wait (m:DM) (c:fC):DM:={m with waits:=m.waits++[c],b:=updB m.b (3+c.area) (NK (m.b (3+c.area)) c)}
/-- The error's number of a write; 0: it waits. -/
def DM.dA (m:DM) (area at_:Int) (n:Nat):Nat:=
 if ¬(0≤area∧area<3)∨at_<0∨((m.b (3+area.toNat)).length:Int)<at_ then 1
 else if m.free<at_+n-((m.b (3+area.toNat)).length:Int) then 26
 else if m.dead then 25 else 0
def DM.write (m:DM) (area at_:Int) (bs:List UInt8):DM:=
 if m.dA area at_ bs.length=0 then m.unit.wait ⟨area.toNat,at_.toNat,bs,false⟩ else if m.dA area at_ bs.length=25 then m.unit else m
def DM.jZ (m:DM) (area n:Int):Nat:=
 if ¬(0≤area∧area<3)∨n<0∨((m.b (3+area.toNat)).length:Int)<n then 1 else if m.dead then 25 else 0
def DM.cut (m:DM) (area n:Int):DM:=
 if m.jZ area n=0 then m.unit.wait ⟨area.toNat,n.toNat,[],true⟩ else if m.jZ area n=25 then m.unit else m
/-- All that is seen is sure. -/
def DM.flush (m:DM):DM:={m with b:=fun i=>if i<3 then m.b (3+i) else m.b i,waits:=[]}
def DM.sync (m:DM):DM:=if m.dead then m.unit else m.unit.flush
theorem DM.Ok.unit {m:DM} (h:m.Ok):m.unit.Ok:=by
 unfold DM.unit
 split
 ·exact ⟨h.wu,h.mO,h.len,h.wait,h.left0,h.left1⟩
 ·rename_i hd
  split
  ·rename_i ha
   simp[DM.dead,ha] at hd
   have:=h.left0
   have:=h.left1
   exact⟨h.wu,h.mO,h.len,h.wait,by show 0≤m.left-1;omega,by show m.left-1≤_;omega⟩
  ·exact h
theorem DM.Ok.NW {m:DM} (h:m.Ok) {c:fC} (ha:c.area<3) (hc:c.pos+c.bytes.length≤1048576):(m.wait c).Ok:=by
 refine⟨h.wu,h.mO,fun i hi=> ?_,fun c' hc'=> ?_,h.left0,h.left1⟩
 ·show (updB m.b (3+c.area) _ i).length≤_
  by_cases e:i=3+c.area
  ·subst e
   rw[dV]
   have:=Gh (m.b (3+c.area)) c
   have:=h.len (3+c.area) hi
   omega
  ·rw [dN _ _ _ _ e]
   exact h.len i hi
 ·rcases List.mem_append.1 hc' with hc' | hc'
  ·exact h.wait c' hc'
  ·rw [List.mem_singleton.1 hc']
   exact⟨ha,hc⟩
theorem DM.wC (m:DM):m.unit.b=m.b:=by
 unfold DM.unit
 split
 ·rfl
 ·split<;>rfl
theorem DM.iW (m:DM):m.unit.waits=m.waits:=by
 unfold DM.unit
 split
 ·rfl
 ·split<;>rfl
theorem DM.sF (m:DM):m.unit.room=m.room:=by
 unfold DM.unit
 split
 ·rfl
 ·split<;>rfl
theorem DM.Ok.write {m:DM} (h:m.Ok) (area at_:Int) (bs:List UInt8):(m.write area at_ bs).Ok:=by
 unfold DM.write
 split
 ·rename_i h0
  unfold DM.dA at h0
  split at h0
  ·cases h0
  split at h0
  ·cases h0
  rename_i h1 h2
  refine h.unit.NW (by show area.toNat<3;omega) ?_
  show at_.toNat+bs.length≤1048576
  have h3:=h.mO
  have h4:=h.len 3 (by omega)
  simp only[DM.free] at h2
  have:area=0∨area=1∨area=2:=by omega
  rcases this with rfl | rfl | rfl
  ·change ¬_<_+_-((m.b 3).length:Int) at h2;omega
  ·change ¬_<_+_-((m.b 4).length:Int) at h2;omega
  ·change ¬_<_+_-((m.b 5).length:Int) at h2;omega
 ·split
  ·exact h.unit
  ·exact h
theorem DM.Ok.cut {m:DM} (h:m.Ok) (area n:Int):(m.cut area n).Ok:=by
 unfold DM.cut
 split
 ·rename_i h0
  unfold DM.jZ at h0
  split at h0
  ·cases h0
  rename_i h1
  have h4:=h.len (3+area.toNat) (by omega)
  refine h.unit.NW (by show area.toNat<3;omega) ?_
  show n.toNat+0≤1048576
  omega
 ·split
  ·exact h.unit
  ·exact h
theorem DM.Ok.flush {m:DM} (h:m.Ok):m.flush.Ok:=
 ⟨h.wu,h.mO,fun i hi=>by
  show (if i<3 then m.b (3+i) else m.b i).length≤_
  split
  ·exact h.len _ (by omega)
  ·exact h.len _ hi,fun c hc=>(by cases hc),h.left0,h.left1⟩
theorem DM.Ok.sync {m:DM} (h:m.Ok):m.sync.Ok:=by
 unfold DM.sync
 split
 ·exact h.unit
 ·exact h.unit.flush
open Go.RowKit
/-- The blocks that an area's change may turn: the disk's own and the area's. -/
def RI (g:Nat) (v:Value) (k:Nat):Prop:=k=g∨v.ownBlock=some k
theorem OB.II {w:World} {B n c:Nat} {A:Option Addr} {l:List UInt8} (h:OB w B (.slice A n c) l) (k:Nat) (hk:k≤l.length):OB w B (.slice A k c) (l.take k):=by
 obtain⟨h1,h2⟩:=h
 have hl:(l.take k).length=k:=by rw[List.length_take];omega
 refine⟨by rw[aI,Nat.mul_one],?_⟩
 rw[hl]
 rcases h2 with ⟨h2,h3⟩ | ⟨g,o,cap,cur,h2,h3,h4,h5,h6,h7,h8⟩
 ·injection h2 with e1 e2 e3
  subst e1;subst e2;subst e3
  have:k=0:=by omega
  subst this
  exact .inl ⟨rfl,rfl⟩
 ·injection h2 with e1 e2 e3
  subst e1;subst e2;subst e3
  refine .inr ⟨g,o,c,cur,rfl,h3,h4,by omega,h6,h7,?_⟩
  have:(List.drop o cur.toList).take (k*1)=(au l).take k:=by
   rw[←h8,List.take_take,Nat.mul_one,Nat.mul_one,Nat.min_eq_left hk]
  rw[this]
  simp[au,List.map_take]
set_option maxHeartbeats 4000000 in
theorem Wi (g off a pos:Nat) (cs:Array Value) (A:Option Addr) (n c:Nat) (l:List UInt8) (cb:Value) (w:World) (hg:w.heap[g]?=some (.cells cs 125 (0,0))) (ha:a<3)
  (hc:cs[off+a]?=some (.slice A n c)) (hown:OB w 0 (.slice A n c) l) (hn:l.length=n) (hncap:n≤c) (hl:l.length≤1048576) (hp:pos≤1048576):
  Calls Tryz.prog 211 #[.pointer (some ⟨g,off,none⟩),.agg #[.int .i64 (a:Int),.int .i64 (pos:Int),cb,.bool true]] w fun e w'=>e=.returned (.tuple #[])∧
   w'.heap[g]?=some (.cells (cs.setIfInBounds (off+a) (.slice A (min pos n) c)) 125 (0,0))∧OB w' 0 (.slice A (min pos n) c) (l.take pos)∧Fr (fun k=>k=g) w w':=by
 have Hg:=Hj hg
 have cZ:=Hj hown
 have c0:w.cell? ⟨g,off+a,none⟩=some (.slice A n c):=by rw[cell_of_row _ _ _ _ _ _ hg];exact hc
 have f0:w.frozen? ⟨g,off+a,none⟩=false:=Kj hg
 have D0:=(Below.refl w.heap.size w).alloc Kv (.cells #[.int .i64 (a:Int),.int .i64 (pos:Int),cb,.bool true] 239)
 have c0a:=Kz D0 _ _ c0
 have f0a:(w.alloc (.cells #[.int .i64 (a:Int),.int .i64 (pos:Int),cb,.bool true] 239)).frozen? ⟨g,off+a,none⟩=false:=by
  rw[D0.frozen (World.block_lt_of_cell? w _ c0)];exact f0
 have a0:(0:Int)≤(a:Int):=by omega
 have a1:(a:Int)<3:=by omega
 clear hg hown
 go_enter Tryz.func211,Tryz.ntmps211
 go_wp2
 go_quiet (fail)
 go_wp2
 obtain⟨w1,hw1⟩:∃W,W=(w.alloc (.cells #[.int .i64 (a:Int),.int .i64 (pos:Int),cb,.bool true] 239)).drewN nq:=⟨_,rfl⟩
 have D1:Below w.heap.size w w1:=by rw[hw1];exact below_drewN D0 nq
 have b0:w1.cell? ⟨w.heap.size,0,none⟩=some (.int .i64 (a:Int)):=by rw[hw1];exact Kq 0 (heap_alloc_new w _)
 have b1:w1.cell? ⟨w.heap.size,1,none⟩=some (.int .i64 (pos:Int)):=by rw[hw1];exact Kq 1 (heap_alloc_new w _)
 have b2:w1.cell? ⟨g,off+a,none⟩=some (.slice A n c):=by rw[hw1];exact c0a
 have b3:w1.frozen? ⟨g,off+a,none⟩=false:=by rw[hw1];exact f0a
 rw[←hw1]
 have HD1:=Hj D1
 clear hw1 c0 f0 c0a f0a D0 D1
 have hrow:∀(x:Value),(w1.setCell ⟨g,off+a,none⟩ x).heap[g]?=some (.cells (cs.setIfInBounds (off+a) x) 125 (0,0)):=fun x=>heap_setCell_same _ _ _ _ _ _ ((HD1.out.block g (Cq Hg.out)).trans Hg.out)
 have YO:=Hj hrow
 have hne:∀q,(Value.slice A n c).ownBlock=some q→q≠g:=fun q hq e=>by
  subst e
  rcases cZ.out.2 with ⟨h1,_⟩ | ⟨g',o',cap',cur,h1,_,h3,_⟩
  ·rw [h1] at hq;cases hq
  ·rw [h1] at hq
   injection hq with hq
   subst hq
   rw[Hg.out] at h3
   injection h3 with h3
   injection h3 with _ h3 _
   exact absurd h3 (by decide)
 have IJ:=Hj hne
 clear hrow hne
 by_cases hpn:pos≤n
 ·have hm:(n<pos)=False:=eq_false (by omega)
  have hpc:(pos:Int)≤(c:Int):=by omega
  have hp0:(0:Int)≤(pos:Int):=by omega
  have HM:Hid (min pos n=pos):=Hj (by omega)
  go_still_tail 12,(by kernel_rfl)
  change wpList _ _ _ _ _ w1.drew
  go_wp2
  refine bodyPost_ret (results_none rfl _ _ _) rfl ⟨rfl,?_,?_,((Fr.of_below (S:=fun k=>k=g) HD1.out).setCell (p:=⟨g,off+a,none⟩) (fun _=>rfl) _).drew⟩
  ·rw [HM.out];exact YO.out _
  ·rw [HM.out]
   exact OB.II (OB.dP (OB.below cZ.out HD1.out) fun k hk=>Below.heap_setCell w1 ⟨g,off+a,none⟩ _ k (IJ.out k hk)) pos (by omega)
 ·have hm:(n<pos)=True:=eq_true (by omega)
  have hpc:(n:Int)≤(c:Int):=by omega
  have hp0:(0:Int)≤(n:Int):=by omega
  have HM:Hid (min pos n=n):=Hj (by omega)
  have HT:Hid (l.take pos=l.take n):=Hj (by rw[List.take_of_length_le (by omega),List.take_of_length_le (by omega)])
  go_still_tail 12,(by kernel_rfl)
  change wpList _ _ _ _ _ w1.drew
  go_wp2
  refine bodyPost_ret (results_none rfl _ _ _) rfl ⟨rfl,?_,?_,((Fr.of_below (S:=fun k=>k=g) HD1.out).setCell (p:=⟨g,off+a,none⟩) (fun _=>rfl) _).drew⟩
  ·rw [HM.out];exact YO.out _
  ·rw [HM.out,HT.out]
   exact OB.II (OB.dP (OB.below cZ.out HD1.out) fun k hk=>Below.heap_setCell w1 ⟨g,off+a,none⟩ _ k (IJ.out k hk)) n (by omega)
theorem tV {B:Nat} {a w:World} (h:Below B a w):Below B a w.drew:=⟨h.os,h.tape,h.output,h.size,h.block⟩
theorem iJ {S:Nat→Prop} {w w':World} {b o:Nat} {v:Value} (hf:Fr S w w') (hne:¬S b) (h:w.cell? ⟨b,o,none⟩=some v):w'.cell? ⟨b,o,none⟩=some v:=
 (hf.cell (World.block_lt_of_cell? w _ h) hne).trans h
theorem IK {w:World} {B n c:Nat} {A:Option Addr} {l:List UInt8} (h:OB w B (.slice A n c) l) (hl:l.length=n) (hn:0<n):∃g o,A=some ⟨g,o,none⟩:=by
 rcases h.2 with ⟨_,h0⟩ | ⟨g,o,cap,cur,h1,_⟩
 ·omega
 ·injection h1 with h1 _ _
  exact⟨g,o,h1⟩
theorem yZ (l bs:List UInt8) (a pos:Nat):NK l ⟨a,pos,bs,false⟩=(oN l (pos+bs.length)).take pos++bs++(oN l (pos+bs.length)).drop (pos+bs.length):=rfl
set_option maxHeartbeats 4000000 in
theorem NM (g off a pos nb cb:Nat) (cs:Array Value) (A Ab:Option Addr) (n c:Nat) (l bs:List UInt8) (w:World) (hg:w.heap[g]?=some (.cells cs 125 (0,0))) (ha:a<3)
  (hc:cs[off+a]?=some (.slice A n c)) (hown:OB w 0 (.slice A n c) l) (hn:l.length=n) (hncap:n≤c) (hl:l.length≤1048576) (hp:pos+nb≤1048576) (hb:RB w Ab nb bs)
  (hap:0<nb→∀b' o',Ab=some ⟨b',o',none⟩→(Value.slice A n c).ownBlock≠some b'):
  Calls Tryz.prog 211 #[.pointer (some ⟨g,off,none⟩),.agg #[.int .i64 (a:Int),.int .i64 (pos:Int),.slice Ab nb cb,.bool false]] w fun e w'=>e=.returned (.tuple #[])∧
   ∃v',w'.heap[g]?=some (.cells (cs.setIfInBounds (off+a) v') 125 (0,0))∧OB w' 0 v' (NK l ⟨a,pos,bs,false⟩)∧(v'.ownBlock=(Value.slice A n c).ownBlock∨∃k,v'.ownBlock=some k∧w.heap.size≤k)∧Fr (RI g (.slice A n c)) w w':=by
 have Hg:=Hj hg
 have cZ:=Hj hown
 have Hb:=Hj hb
 have hbl:=Hj hb.1
 have c0:w.cell? ⟨g,off+a,none⟩=some (.slice A n c):=by rw[cell_of_row _ _ _ _ _ _ hg];exact hc
 have D0:=(Below.refl w.heap.size w).alloc Kv (.cells #[.int .i64 (a:Int),.int .i64 (pos:Int),.slice Ab nb cb,.bool false] 239)
 have c0a:=Kz D0 _ _ c0
 have a0:(0:Int)≤(a:Int):=by omega
 have a1:(a:Int)<3:=by omega
 have hne:∀q,(Value.slice A n c).ownBlock=some q→q≠g∧q<w.heap.size:=fun q hq=>⟨fun e=>by
  subst e
  rcases cZ.out.2 with ⟨h1,_⟩ | ⟨g',o',cap',cur,h1,_,h3,_⟩
  ·rw [h1] at hq;cases hq
  ·rw [h1] at hq
   injection hq with hq
   subst hq
   rw[Hg.out] at h3
   injection h3 with h3
   injection h3 with _ h3 _
   exact absurd h3 (by decide),(OB.lt hown q hq).2⟩
 have IJ:=Hj hne
 have Hap:=Hj hap
 have hgl:=Hj ((Cq hg))
 clear hg hown hb hne hap
 go_enter Tryz.func211,Tryz.ntmps211
 go_wp2
 go_quiet (fail)
 obtain⟨w1,hw1⟩:∃W,W=(w.alloc (.cells #[.int .i64 (a:Int),.int .i64 (pos:Int),.slice Ab nb cb,.bool false] 239)).drewN nq:=⟨_,rfl⟩
 have D1:Below w.heap.size w w1:=by rw[hw1];exact below_drewN D0 nq
 have hbx:w1.heap[w.heap.size]?=some (.cells #[.int .i64 (a:Int),.int .i64 (pos:Int),.slice Ab nb cb,.bool false] 239):=by rw[hw1];exact heap_alloc_new w _
 have Dz:Hid (w1.heap.size=w.heap.size+1):=Hj (by rw[hw1];exact(show (w.alloc (.cells #[.int .i64 (a:Int),.int .i64 (pos:Int),.slice Ab nb cb,.bool false] 239)).heap.size=w.heap.size+1 by simp))
 have b0:w1.cell? ⟨w.heap.size,0,none⟩=some (.int .i64 (a:Int)):=Kq 0 hbx
 have b1:w1.cell? ⟨w.heap.size,1,none⟩=some (.int .i64 (pos:Int)):=Kq 1 hbx
 have b2:w1.cell? ⟨w.heap.size,2,none⟩=some (.slice Ab nb cb):=Kq 2 hbx
 have b3:w1.cell? ⟨w.heap.size,3,none⟩=some (.bool false):=Kq 3 hbx
 rw[←hw1]
 have HD1:=Hj D1
 have Hbx:=Hj hbx
 clear hw1 c0 c0a D0 D1 hbx
 by_cases hgr:n<pos+nb
 ·have q1:decide ((n:Int)<(pos:Int)+(nb:Int))=true:=decide_eq_true (by omega)
  have HOW1:Hid (OB w1 0 (.slice A n c) l):=Hj (OB.below cZ.out HD1.out)
  have Nw:=Hj ((HD1.out.block g hgl.out).trans Hg.out)
  obtain⟨N,hN⟩:∃N,N=pos+nb:=⟨_,rfl⟩
  have hN1:N≤pos+nb:=by omega
  have hN2:pos+nb≤N:=by omega
  have YP:(l++List.replicate (pos+nb-n) 0).length=N:=by rw[List.length_append,List.length_replicate,hn];omega
  have MI:=Hj YP
  have YQ:=Hj hN
  clear hN YP
  go_wp2_with (at_builtin;refine jE rfl (.tmp 36) (.tmp 40) rfl HOW1.out rfl (m:=pos+nb-n) (congrArg (Value.int .i64) (show (pos:Int)+(nb:Int)-(n:Int)=((pos+nb-n:Nat):Int) by omega)) (by omega) (by omega) (Nat.zero_le _) ?_;intro v2 w2 hown2 bZ jc;obtain⟨A2,c2,hv2,hc2,hm2,-⟩:=hown2.form;rw[MI.out] at hv2 hc2;subst hv2;have H2:=Hj hown2;have G2:=Hj bZ;have T2:=Hj jc;clear hown2 bZ jc)
  have hs1:Hid (w1.heap.size=w.heap.size+1):=Hj Dz.out
  have F2:=Hj (Fr.aU G2.out)
  have Dx:=Hj ((F2.out.block w.heap.size (by have:=hs1.out;omega) (fun h=>by have:=(IJ.out _ h.symm).2;omega)).trans Hbx.out)
  have HOW:Hid (OB w2.drew 0 (.slice A2 N c2) (l++List.replicate (pos+nb-n) 0)):=H2
  have Wl:=Hj ((F2.out.block g (by have:=hs1.out;have:=hgl.out;omega) (fun h=>(IJ.out _ h.symm).1 rfl)).trans Nw.out)
  have yK:Hid (RB w2.drew Ab nb bs):=Hj ⟨hbl.out,fun h0=>by
   obtain⟨b',o',rfl,hcc⟩:=Hb.out.2 h0
   refine⟨b',o',rfl,fun k hk=> ?_⟩
   have h1:=Kz HD1.out _ _ (hcc k hk)
   exact iJ F2.out.drew (fun h=>Hap.out h0 b' o' rfl (Eq.symm h)) h1⟩
  have HT2:Hid (∀k,(Value.slice A2 N c2).ownBlock=some k→(Value.slice A n c).ownBlock=some k∨k=w.heap.size+1):=Hj (fun k hk=>by
   rcases T2.out with h | h
   ·exact .inl (h.symm.trans hk)
   ·rw [h] at hk
    injection hk with hk
    exact .inr (by rw[←hk];exact hs1.out))
  have MJ:Hid (¬(Value.slice A2 N c2).ownBlock=some w.heap.size):=Hj (fun h=>by
   rcases HT2.out _ h with h | h
   ·have:=(IJ.out _ h).2;omega
   ·omega)
  have Wn:Hid (¬(Value.slice A2 N c2).ownBlock=some g):=Hj (fun h=>by
   rcases HT2.out _ h with h | h
   ·exact (IJ.out _ h).1 rfl
   ·have:=hgl.out;omega)
  have HAL:Hid ((Value.slice A2 N c2).ownBlock=(Value.slice A n c).ownBlock∨∃k,(Value.slice A2 N c2).ownBlock=some k∧w.heap.size≤k):=Hj (by
   rcases T2.out with h | h
   ·exact .inl h
   ·exact .inr ⟨_,h,by have:=hs1.out;omega⟩)
  have HDO:Hid (NK l ⟨a,pos,bs,false⟩=(l++List.replicate (pos+nb-n) 0).take pos++bs++(l++List.replicate (pos+nb-n) 0).drop (pos+nb)):=Hj (by rw[yZ,hbl.out];unfold oN;rw[hn])
  have HFW:Hid (Fr (RI g (.slice A n c)) w w2.drew):=Hj ((((Fr.of_below HD1.out).trans F2.out (fun k _ h=>.inr h.symm)).drew))
  have HSub:Hid (∀k,k<w.heap.size→(Value.slice A2 N c2).ownBlock=some k→RI g (.slice A n c) k):=Hj (fun k hk h=>by
   rcases HT2.out _ h with h | h
   ·exact .inr h
   ·omega)
  rcases Nat.eq_zero_or_pos nb with hz | hz
  focus
   have Hz:=Hj hz
   clear hz
   by_cases hcq:c2=pos
   focus
    have hcp:(c2=pos)=True:=eq_true hcq
   rotate_right
   focus
    have hcp:(c2=pos)=False:=eq_false hcq
   all_goals
    clear hcq
    have e1:w2.drew.cell? ⟨w.heap.size,1,none⟩=some (.int .i64 (pos:Int)):=Kq 1 Dx.out
    have e2:w2.drew.cell? ⟨w.heap.size,2,none⟩=some (.slice Ab nb cb):=Kq 2 Dx.out
    have hpN:(pos:Int)≤((N:Nat):Int):=by omega
    have hp0:(0:Int)≤(pos:Int):=by omega
    have hNc:((N:Nat):Int)≤((c2:Nat):Int):=by omega
    skip
    go_region_held3 (fun w'=>w'.cell? ⟨w.heap.size,1,none⟩=some (.int .i64 (pos:Int))∧w'.cell? ⟨w.heap.size,2,none⟩=some (.slice Ab nb cb)) (first | assumption | go_keep)
     (first | ((refine jH (w:=w2.drew) rfl (.tmp 45) (.tmp 47) (by rfl) (B:=0) (n:=N) (c:=c2) (pos:=pos) (nb:=nb) (A:=A2) (l:=(l++List.replicate (pos+nb-n) 0)) HOW.out MI.out (by omega) (by rfl) (fun h=>absurd h (by have:=Hz.out;omega)) (by rfl) yK.out ?_;intro w3 hown3 hf3;have s1:=iJ hf3 MJ.out e1;have s2:=iJ hf3 MJ.out e2;have H3:=Hj hown3;have F3:=Hj hf3;clear hown3 hf3)))
  rotate_right
  focus
   obtain⟨gb,ob,hAv⟩:∃gb ob,A2=some ⟨gb,ob,none⟩:=IK HOW.out MI.out (by omega)
   subst hAv
   have e1:w2.drew.cell? ⟨w.heap.size,1,none⟩=some (.int .i64 (pos:Int)):=Kq 1 Dx.out
   have e2:w2.drew.cell? ⟨w.heap.size,2,none⟩=some (.slice Ab nb cb):=Kq 2 Dx.out
   have hpN:(pos:Int)≤((N:Nat):Int):=by omega
   have hp0:(0:Int)≤(pos:Int):=by omega
   have hNc:((N:Nat):Int)≤((c2:Nat):Int):=by omega
   have hcp:(c2=pos)=False:=eq_false (by omega)
   go_region_held3 (fun w'=>w'.cell? ⟨w.heap.size,1,none⟩=some (.int .i64 (pos:Int))∧w'.cell? ⟨w.heap.size,2,none⟩=some (.slice Ab nb cb)) (first | assumption | go_keep)
    (first | ((refine jH (w:=w2.drew) rfl (.tmp 45) (.tmp 47) (by rfl) (B:=0) (n:=N) (c:=c2) (pos:=pos) (nb:=nb) (A:=(some ⟨gb,ob,none⟩)) (l:=(l++List.replicate (pos+nb-n) 0)) HOW.out MI.out (by omega) (by rfl) (fun _ g1 o1 e=>by injection e with e;injection e with e1 e2;subst e1 e2;rfl) (by rfl) yK.out ?_;intro w3 hown3 hf3;have s1:=iJ hf3 MJ.out e1;have s2:=iJ hf3 MJ.out e2;have H3:=Hj hown3;have F3:=Hj hf3;clear hown3 hf3)))
  all_goals
   go_wp2
   have DC:=Hj ((F3.out.block g (Cq Wl.out) Wn.out).trans Wl.out)
   have HB3:=Hj ((F3.out.block w.heap.size (Cq Dx.out) MJ.out).trans Dx.out)
   have k0:w3.cell? ⟨w.heap.size,0,none⟩=some (.int .i64 (a:Int)):=Kq 0 HB3.out
   have k1:w3.frozen? ⟨g,off+a,none⟩=false:=Kj DC.out
   have k2:w3.cell? ⟨g,off+a,none⟩=some (.slice A n c):=by rw[cell_of_row _ _ _ _ _ _ DC.out];exact hc
   go_still_tail 6,(by kernel_rfl)
   change wpList _ _ _ _ _ w3.drew
   go_wp2
   refine bodyPost_end (results_none rfl _ _ _) rfl ⟨rfl,_,heap_setCell_same _ _ _ _ _ _ DC.out,?_,HAL.out,?_⟩
   ·rw [HDO.out]
    exact OB.dP H3.out fun k hk=>Below.heap_setCell w3 ⟨g,off+a,none⟩ _ k (fun e=>Wn.out (by rw[←show k=g from e];exact hk))
   ·exact ((HFW.out.trans F3.out (fun k hk h=>HSub.out k hk h)).setCell (p:=⟨g,off+a,none⟩) (fun _=>.inl rfl) _).drew
 ·have q1:decide ((n:Int)<(pos:Int)+(nb:Int))=false:=decide_eq_false (by omega)
  go_wp2
  have Dx:=Hbx
  have HOW:Hid (OB w1.drew 0 (.slice A n c) l):=Hj (OB.below cZ.out (tV HD1.out))
  have MI:=Hj hn
  have yK:Hid (RB w1.drew Ab nb bs):=Hj ((Hb.out.keep (Kz HD1.out)).keep (Keeps.drew _))
  have Wl:=Hj ((HD1.out.block g hgl.out).trans Hg.out)
  have MJ:Hid (¬(Value.slice A n c).ownBlock=some w.heap.size):=Hj (fun h=>by have:=(IJ.out _ h).2;omega)
  have Wn:Hid (¬(Value.slice A n c).ownBlock=some g):=Hj (fun h=>(IJ.out _ h).1 rfl)
  have HAL:Hid ((Value.slice A n c).ownBlock=(Value.slice A n c).ownBlock∨∃k,(Value.slice A n c).ownBlock=some k∧w.heap.size≤k):=Hj (.inl rfl)
  have HDO:Hid (NK l ⟨a,pos,bs,false⟩=l.take pos++bs++l.drop (pos+nb)):=Hj (by rw[yZ,hbl.out,NV _ _ (by omega)])
  have HFW:Hid (Fr (RI g (.slice A n c)) w w1.drew):=Hj (Fr.of_below (tV HD1.out))
  have HSub:Hid (∀k,k<w.heap.size→(Value.slice A n c).ownBlock=some k→RI g (.slice A n c) k):=Hj (fun k _ h=>.inr h)
  rcases Nat.eq_zero_or_pos nb with hz | hz
  focus
   have Hz:=Hj hz
   clear hz
   by_cases hcq:c=pos
   focus
    have hcp:(c=pos)=True:=eq_true hcq
   rotate_right
   focus
    have hcp:(c=pos)=False:=eq_false hcq
   all_goals
    clear hcq
    have e1:w1.drew.cell? ⟨w.heap.size,1,none⟩=some (.int .i64 (pos:Int)):=Kq 1 Dx.out
    have e2:w1.drew.cell? ⟨w.heap.size,2,none⟩=some (.slice Ab nb cb):=Kq 2 Dx.out
    have hpN:(pos:Int)≤((n:Nat):Int):=by omega
    have hp0:(0:Int)≤(pos:Int):=by omega
    have hNc:((n:Nat):Int)≤((c:Nat):Int):=by omega
    skip
    go_region_held3 (fun w'=>w'.cell? ⟨w.heap.size,1,none⟩=some (.int .i64 (pos:Int))∧w'.cell? ⟨w.heap.size,2,none⟩=some (.slice Ab nb cb)) (first | assumption | go_keep)
     (first | ((refine jH (w:=w1.drew) rfl (.tmp 45) (.tmp 47) (by rfl) (B:=0) (n:=n) (c:=c) (pos:=pos) (nb:=nb) (A:=A) (l:=l) HOW.out MI.out (by omega) (by rfl) (fun h=>absurd h (by have:=Hz.out;omega)) (by rfl) yK.out ?_;intro w3 hown3 hf3;have s1:=iJ hf3 MJ.out e1;have s2:=iJ hf3 MJ.out e2;have H3:=Hj hown3;have F3:=Hj hf3;clear hown3 hf3)))
    go_wp2
    have DC:=Hj ((F3.out.block g (Cq Wl.out) Wn.out).trans Wl.out)
    have HB3:=Hj ((F3.out.block w.heap.size (Cq Dx.out) MJ.out).trans Dx.out)
    have k0:w3.cell? ⟨w.heap.size,0,none⟩=some (.int .i64 (a:Int)):=Kq 0 HB3.out
    have k1:w3.frozen? ⟨g,off+a,none⟩=false:=Kj DC.out
    have k2:w3.cell? ⟨g,off+a,none⟩=some (.slice A n c):=by rw[cell_of_row _ _ _ _ _ _ DC.out];exact hc
  rotate_right
  focus
   obtain⟨gb,ob,hAv⟩:∃gb ob,A=some ⟨gb,ob,none⟩:=IK HOW.out MI.out (by omega)
   subst hAv
   have e1:w1.drew.cell? ⟨w.heap.size,1,none⟩=some (.int .i64 (pos:Int)):=Kq 1 Dx.out
   have e2:w1.drew.cell? ⟨w.heap.size,2,none⟩=some (.slice Ab nb cb):=Kq 2 Dx.out
   have hpN:(pos:Int)≤((n:Nat):Int):=by omega
   have hp0:(0:Int)≤(pos:Int):=by omega
   have hNc:((n:Nat):Int)≤((c:Nat):Int):=by omega
   have hcp:(c=pos)=False:=eq_false (by omega)
   go_region_held3 (fun w'=>w'.cell? ⟨w.heap.size,1,none⟩=some (.int .i64 (pos:Int))∧w'.cell? ⟨w.heap.size,2,none⟩=some (.slice Ab nb cb)) (first | assumption | go_keep)
    (first | ((refine jH (w:=w1.drew) rfl (.tmp 45) (.tmp 47) (by rfl) (B:=0) (n:=n) (c:=c) (pos:=pos) (nb:=nb) (A:=(some ⟨gb,ob,none⟩)) (l:=l) HOW.out MI.out (by omega) (by rfl) (fun _ g1 o1 e=>by injection e with e;injection e with e1 e2;subst e1 e2;rfl) (by rfl) yK.out ?_;intro w3 hown3 hf3;have s1:=iJ hf3 MJ.out e1;have s2:=iJ hf3 MJ.out e2;have H3:=Hj hown3;have F3:=Hj hf3;clear hown3 hf3)))
   go_wp2
   have DC:=Hj ((F3.out.block g (Cq Wl.out) Wn.out).trans Wl.out)
   have HB3:=Hj ((F3.out.block w.heap.size (Cq Dx.out) MJ.out).trans Dx.out)
   have k0:w3.cell? ⟨w.heap.size,0,none⟩=some (.int .i64 (a:Int)):=Kq 0 HB3.out
   have k1:w3.frozen? ⟨g,off+a,none⟩=false:=Kj DC.out
   have k2:w3.cell? ⟨g,off+a,none⟩=some (.slice (some ⟨gb,ob,none⟩) n c):=by rw[cell_of_row _ _ _ _ _ _ DC.out];exact hc
  all_goals
   go_still_tail 6,(by kernel_rfl)
   change wpList _ _ _ _ _ w3.drew
   go_wp2
   refine bodyPost_end (results_none rfl _ _ _) rfl ⟨rfl,_,heap_setCell_same _ _ _ _ _ _ DC.out,?_,.inl rfl,?_⟩
   ·rw [HDO.out]
    exact OB.dP H3.out fun k hk=>Below.heap_setCell w3 ⟨g,off+a,none⟩ _ k (fun e=>Wn.out (by rw[←show k=g from e];exact hk))
   ·exact ((HFW.out.trans F3.out (fun k hk h=>HSub.out k hk h)).setCell (p:=⟨g,off+a,none⟩) (fun _=>.inl rfl) _).drew
end Go.Proofs.YtdhbpajamlfacaaGreatDoor
