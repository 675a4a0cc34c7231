/- Rows of ints that are words of 32 bits; appends onto them; the reference's arithmetic. -/
import Derived.Test.YtdhbpajamlfacaaGreatDoorShaSum
import Derived.Test.YtdhbpajamlfacaaGreatDoorRows
import Derived.Lib.LaidTab
import Derived.LaidMore
import Derived.Lib.SlBytesConst
import Derived.Test.YtdhbpajamlfacaaGreatDoorBase
import Derived.Test.YtdhbpajamlfacaaGreatDoorZeros
import Derived.Deep.RegionHeld3
import Derived.Deep.RegionLaw
import Derived.OneCell
import Derived.StillTailTactics
set_option maxHeartbeats 4000000
set_option maxRecDepth 100000
namespace Go.Proofs.YtdhbpajamlfacaaGreatDoor
open Go.RowKit
/-- The standard's constants and first words. -/
def ktab:List UInt32:=[1116352408,1899447441,3049323471,3921009573,961987163,1508970993,2453635748,2870763221,3624381080,310598401,607225278,1426881987,1925078388,2162078206,2614888103,3248222580,3835390401,4022224774,264347078,604807628,770255983,1249150122,1555081692,1996064986,2554220882,2821834349,2952996808,3210313671,3336571891,3584528711,113926993,338241895,666307205,773529912,1294757372,1396182291,1695183700,1986661051,2177026350,2456956037,2730485921,2820302411,3259730800,3345764771,3516065817,3600352804,4094571909,275423344,430227734,506948616,659060556,883997877,958139571,1322822218,1537002063,1747873779,1955562222,2024104815,2227730452,2361852424,2428436474,2756734187,3204031479,3329325298]
def htab:W8:=⟨1779033703,3144134277,1013904242,2773480762,1359893119,2600822924,528734635,1541459225⟩
def JK (k:Nat):UInt32:=ktab.getD k 0
section
variable {L:List (String×DataW Unit)} {W:World}
end
/-- Both tables stand. -/
structure gI (w:World):Prop where
 k:jM w JK
 f:ji w htab
theorem gI.keep {w w':World} (h:gI w) (k:Keeps w w'):gI w':=⟨h.k.keep k,h.f.keep k⟩
theorem gI.lt {w:World} (h:gI w):30<w.heap.size:=iP w _ (h.k 0 (by decide))
theorem EO.lits {w:World} {g:Nat} {vs:List Value} {ls:List (List UInt8)} {n:Nat} {T:TypeId} {fr:Nat×Nat} (h:w.heap[g]?=some (.cells vs.toArray T fr)) (hn:ls.length=n) (hs:∀k,k<n→∃v,vs[k]?=some v∧SB w v (ls.getD k [])):EO w (some ⟨g,0,none⟩) n ls:=by
 refine⟨hn,fun _=>⟨g,0,rfl,fun k hk=> ?_⟩⟩
 obtain⟨v,h1,h2⟩:=hs k hk
 exact⟨v,by rw[bT _ _ _ _ _ _ h,dV,List.getElem?_toArray];exact h1,h2⟩
theorem below_setRow {B:Nat} {a w:World} (h:Below B a w) {g:Nat} (hg:B≤g) (c:Array Value):Below B a (w.setRow g c):=
 ⟨h.os,h.tape,h.output,by simpa [World.setRow] using h.size,fun i hi=>(setRow_other _ _ _ _ (by omega)).trans (h.block i hi)⟩
structure jG where
 area:Nat
 pos:Nat
 bytes:List UInt8
 cuts:Bool
/-- An area, long enough for a change. -/
def rJ (l:List UInt8) (n:Nat):List UInt8:=l++List.replicate (n-l.length) 0
/-- An area behind a change. -/
def Pg (l:List UInt8) (c:jG):List UInt8:=
 if c.cuts then l.take c.pos else (rJ l (c.pos+c.bytes.length)).take c.pos++c.bytes++(rJ l (c.pos+c.bytes.length)).drop (c.pos+c.bytes.length)
theorem Dz (l:List UInt8) (n:Nat):(rJ l n).length=max l.length n:=by simp[rJ];omega
theorem Je (l:List UInt8) (c:jG):(Pg l c).length≤max l.length (c.pos+c.bytes.length):=by
 unfold Pg
 split
 ·rw [eu];omega
 ·rw [bP,bP,eu,lu,Dz];omega
theorem Qu (l:List UInt8) (n:Nat) (h:n≤l.length):rJ l n=l:=by simp[rJ,show n-l.length=0 by omega]
/-- Areas 0 to 2 are sure, 3 to 5 are seen. -/
structure DK where
 room:Int
 b:Nat→List UInt8
 waits:List jG
def updB (f:Nat→List UInt8) (i:Nat) (x:List UInt8):Nat→List UInt8:=fun j=>if j=i then x else f j
theorem BL (f:Nat→List UInt8) (i:Nat) (x:List UInt8):updB f i x i=x:=aF rfl
theorem yF (f:Nat→List UInt8) (i j:Nat) (x:List UInt8) (h:j≠i):updB f i x j=f j:=aG h
/-- What a disk holds is small. -/
structure DK.Ok (m:DK):Prop where
 Ld:0≤m.room
 yE:m.room≤1048576
 len:∀i,i<6→(m.b i).length≤1048576
 wait:∀c∈m.waits,c.area<3∧c.pos+c.bytes.length≤1048576
def DK.free (m:DK):Int:=m.room-((m.b 3).length:Int)-((m.b 4).length:Int)-((m.b 5).length:Int)
def DK.wait (m:DK) (c:jG):DK:={m with waits:=m.waits++[c],b:=updB m.b (3+c.area) (Pg (m.b (3+c.area)) c)}
/-- All that is seen is sure. -/
def DK.flush (m:DK):DK:={m with b:=fun i=>if i<3 then m.b (3+i) else m.b i,waits:=[]}
theorem DK.Ok.Qv {m:DK} (h:m.Ok) {c:jG} (ha:c.area<3) (hc:c.pos+c.bytes.length≤1048576):(m.wait c).Ok:=by
 refine⟨h.Ld,h.yE,fun i hi=> ?_,fun c' hc'=> ?_⟩
 ·show (updB m.b (3+c.area) _ i).length≤_
  by_cases e:i=3+c.area
  ·subst e
   rw[BL]
   have:=Je (m.b (3+c.area)) c
   have:=h.len (3+c.area) hi
   omega
  ·rw [yF _ _ _ _ e]
   exact h.len i hi
 ·rcases iO.1 hc' with hc' | hc'
  ·exact h.wait c' hc'
  ·rw [iq.1 hc']
   exact⟨ha,hc⟩
theorem DK.Ok.flush {m:DK} (h:m.Ok):m.flush.Ok:=
 ⟨h.Ld,h.yE,fun i hi=>by
  show (if i<3 then m.b (3+i) else m.b i).length≤_
  split
  ·exact h.len _ (by omega)
  ·exact h.len _ hi,fun c hc=>(by cases hc)⟩
/-- The blocks that an area's change may turn: the disk's own and the area's. -/
def UY (g:Nat) (v:Value) (k:Nat):Prop:=k=g∨v.ownBlock=some k
theorem OB.Lh {w:World} {B n c:Nat} {A:Option Addr} {l:List UInt8} (h:OB w B (.slice A n c) l) (k:Nat) (hk:k≤l.length):OB w B (.slice A k c) (l.take k):=by
 obtain⟨h1,h2⟩:=h
 have hl:(l.take k).length=k:=by rw[eu];omega
 refine⟨by rw[aV,Nat.mul_one],?_⟩
 rw[hl]
 rcases h2 with ⟨h2,h3⟩ | ⟨g,o,cap,cur,h2,h3,h4,h5,h6,h7,h8⟩
 ·injection h2 with e1 e2 e3
  subst e1;subst e2;subst e3
  have:k=0:=by omega
  subst this
  exact .inl ⟨rfl,rfl⟩
 ·injection h2 with e1 e2 e3
  subst e1;subst e2;subst e3
  refine .inr ⟨g,o,c,cur,rfl,h3,h4,by omega,h6,h7,?_⟩
  have:(List.drop o cur.toList).take (k*1)=(ay l).take k:=by
   rw[←h8,List.take_take,Nat.mul_one,Nat.mul_one,Nat.min_eq_left hk]
  rw[this]
  simp[ay,List.map_take]
theorem YA (g off a pos:Nat) (cs:Array Value) (A:Option Addr) (n c:Nat) (l:List UInt8) (cb:Value) (w:World) (hg:w.heap[g]?=some (.cells cs 125 (0,0))) (ha:a<3)
  (hc:cs[off+a]?=some (.slice A n c)) (hown:OB w 0 (.slice A n c) l) (hn:l.length=n) (hncap:n≤c) (hl:l.length≤1048576) (hp:pos≤1048576):
  Cl 211 #[.pointer (some ⟨g,off,none⟩),.agg #[.int .i64 (a:Int),.int .i64 (pos:Int),cb,.bool true]] w fun e w'=>e=.returned (.tuple #[])∧
   w'.heap[g]?=some (.cells (cs.setIfInBounds (off+a) (.slice A (min pos n) c)) 125 (0,0))∧OB w' 0 (.slice A (min pos n) c) (l.take pos)∧Fr (fun k=>k=g) w w':=by
 have Hg:=Hj hg
 have dS:=Hj hown
 have c0:w.cell? ⟨g,off+a,none⟩=some (.slice A n c):=by rw[bT _ _ _ _ _ _ hg];exact hc
 have f0:w.frozen? ⟨g,off+a,none⟩=false:=Kj hg
 have D0:=(aj w.heap.size w).alloc Kv (.cells #[.int .i64 (a:Int),.int .i64 (pos:Int),cb,.bool true] 239)
 have c0a:=Kz D0 _ _ c0
 have f0a:(w.alloc (.cells #[.int .i64 (a:Int),.int .i64 (pos:Int),cb,.bool true] 239)).frozen? ⟨g,off+a,none⟩=false:=by
  rw[D0.frozen (iP w _ c0)];exact f0
 have a0:(0:Int)≤(a:Int):=by omega
 have a1:(a:Int)<3:=by omega
 clear hg hown
 go_enter Tryz.func211,Tryz.ntmps211
 go_wp2
 go_quiet (fail)
 go_wp2
 obtain⟨w1,hw1⟩:∃W,W=(w.alloc (.cells #[.int .i64 (a:Int),.int .i64 (pos:Int),cb,.bool true] 239)).drewN nq:=⟨_,rfl⟩
 have D1:Bw w w1:=by rw[hw1];exact below_drewN D0 nq
 have b0:w1.cell? ⟨w.heap.size,0,none⟩=some (.int .i64 (a:Int)):=by rw[hw1];exact Kq 0 (aA w _)
 have b1:w1.cell? ⟨w.heap.size,1,none⟩=some (.int .i64 (pos:Int)):=by rw[hw1];exact Kq 1 (aA w _)
 have b2:w1.cell? ⟨g,off+a,none⟩=some (.slice A n c):=by rw[hw1];exact c0a
 have b3:w1.frozen? ⟨g,off+a,none⟩=false:=by rw[hw1];exact f0a
 rw[←hw1]
 have HD1:=Hj D1
 clear hw1 c0 f0 c0a f0a D0 D1
 have hrow:∀(x:Value),(w1.setCell ⟨g,off+a,none⟩ x).heap[g]?=some (.cells (cs.setIfInBounds (off+a) x) 125 (0,0)):=fun x=>aI _ _ _ _ _ _ ((HD1.out.block g (Cq Hg.out)).trans Hg.out)
 have Hrow:=Hj hrow
 have hne:∀q,(Value.slice A n c).ownBlock=some q→q≠g:=fun q hq e=>by
  subst e
  rcases dS.out.2 with ⟨h1,_⟩ | ⟨g',o',cap',cur,h1,_,h3,_⟩
  ·rw [h1] at hq;cases hq
  ·rw [h1] at hq
   injection hq with hq
   subst hq
   rw[Hg.out] at h3
   injection h3 with h3
   injection h3 with _ h3 _
   exact absurd h3 (by decide)
 have Lj:=Hj hne
 clear hrow hne
 by_cases hpn:pos≤n
 ·have hm:(n<pos)=False:=eq_false (by omega)
  have hpc:(pos:Int)≤(c:Int):=by omega
  have hp0:(0:Int)≤(pos:Int):=by omega
  have HM:Hid (min pos n=pos):=Hj (by omega)
  go_still_tail 12,(by kernel_rfl)
  change wpList _ _ _ _ _ w1.drew
  go_wp2
  refine bg (fM rfl _ _ _) rfl ⟨rfl,?_,?_,((Fr.of_below (S:=fun k=>k=g) HD1.out).setCell (p:=⟨g,off+a,none⟩) (fun _=>rfl) _).drew⟩
  ·rw [HM.out];exact Hrow.out _
  ·rw [HM.out]
   exact OB.Lh (OB.eY (OB.below dS.out HD1.out) fun k hk=>Below.heap_setCell w1 ⟨g,off+a,none⟩ _ k (Lj.out k hk)) pos (by omega)
 ·have hm:(n<pos)=True:=eq_true (by omega)
  have hpc:(n:Int)≤(c:Int):=by omega
  have hp0:(0:Int)≤(n:Int):=by omega
  have HM:Hid (min pos n=n):=Hj (by omega)
  have HT:Hid (l.take pos=l.take n):=Hj (by rw[fO (by omega),fO (by omega)])
  go_still_tail 12,(by kernel_rfl)
  change wpList _ _ _ _ _ w1.drew
  go_wp2
  refine bg (fM rfl _ _ _) rfl ⟨rfl,?_,?_,((Fr.of_below (S:=fun k=>k=g) HD1.out).setCell (p:=⟨g,off+a,none⟩) (fun _=>rfl) _).drew⟩
  ·rw [HM.out];exact Hrow.out _
  ·rw [HM.out,HT.out]
   exact OB.Lh (OB.eY (OB.below dS.out HD1.out) fun k hk=>Below.heap_setCell w1 ⟨g,off+a,none⟩ _ k (Lj.out k hk)) n (by omega)
theorem wE {B:Nat} {a w:World} (h:Below B a w):Below B a w.drew:=⟨h.os,h.tape,h.output,h.size,h.block⟩
theorem jH {S:Nat→Prop} {w w':World} {b o:Nat} {v:Value} (hf:Fr S w w') (hne:¬S b) (h:w.cell? ⟨b,o,none⟩=some v):w'.cell? ⟨b,o,none⟩=some v:=
 (hf.cell (iP w _ h) hne).trans h
theorem Ll {w:World} {B n c:Nat} {A:Option Addr} {l:List UInt8} (h:OB w B (.slice A n c) l) (hl:l.length=n) (hn:0<n):∃g o,A=some ⟨g,o,none⟩:=by
 rcases h.2 with ⟨_,h0⟩ | ⟨g,o,cap,cur,h1,_⟩
 ·omega
 ·injection h1 with h1 _ _
  exact⟨g,o,h1⟩
theorem BM (l bs:List UInt8) (a pos:Nat):Pg l ⟨a,pos,bs,false⟩=(rJ l (pos+bs.length)).take pos++bs++(rJ l (pos+bs.length)).drop (pos+bs.length):=rfl
theorem Qn (g off a pos nb cb:Nat) (cs:Array Value) (A Ab:Option Addr) (n c:Nat) (l bs:List UInt8) (w:World) (hg:w.heap[g]?=some (.cells cs 125 (0,0))) (ha:a<3)
  (hc:cs[off+a]?=some (.slice A n c)) (hown:OB w 0 (.slice A n c) l) (hn:l.length=n) (hncap:n≤c) (hl:l.length≤1048576) (hp:pos+nb≤1048576) (hb:RB w Ab nb bs)
  (hap:0<nb→∀b' o',Ab=some ⟨b',o',none⟩→(Value.slice A n c).ownBlock≠some b'):
  Cl 211 #[.pointer (some ⟨g,off,none⟩),.agg #[.int .i64 (a:Int),.int .i64 (pos:Int),.slice Ab nb cb,.bool false]] w fun e w'=>e=.returned (.tuple #[])∧
   ∃v',w'.heap[g]?=some (.cells (cs.setIfInBounds (off+a) v') 125 (0,0))∧OB w' 0 v' (Pg l ⟨a,pos,bs,false⟩)∧(v'.ownBlock=(Value.slice A n c).ownBlock∨∃k,v'.ownBlock=some k∧w.heap.size≤k)∧Fr (UY g (.slice A n c)) w w':=by
 have Hg:=Hj hg
 have dS:=Hj hown
 have Hb:=Hj hb
 have hbl:=Hj hb.1
 have c0:w.cell? ⟨g,off+a,none⟩=some (.slice A n c):=by rw[bT _ _ _ _ _ _ hg];exact hc
 have D0:=(aj w.heap.size w).alloc Kv (.cells #[.int .i64 (a:Int),.int .i64 (pos:Int),.slice Ab nb cb,.bool false] 239)
 have c0a:=Kz D0 _ _ c0
 have a0:(0:Int)≤(a:Int):=by omega
 have a1:(a:Int)<3:=by omega
 have hne:∀q,(Value.slice A n c).ownBlock=some q→q≠g∧q<w.heap.size:=fun q hq=>⟨fun e=>by
  subst e
  rcases dS.out.2 with ⟨h1,_⟩ | ⟨g',o',cap',cur,h1,_,h3,_⟩
  ·rw [h1] at hq;cases hq
  ·rw [h1] at hq
   injection hq with hq
   subst hq
   rw[Hg.out] at h3
   injection h3 with h3
   injection h3 with _ h3 _
   exact absurd h3 (by decide),(OB.lt hown q hq).2⟩
 have Lj:=Hj hne
 have Hap:=Hj hap
 have hgl:=Hj ((Cq hg))
 clear hg hown hb hne hap
 go_enter Tryz.func211,Tryz.ntmps211
 go_wp2
 go_quiet (fail)
 obtain⟨w1,hw1⟩:∃W,W=(w.alloc (.cells #[.int .i64 (a:Int),.int .i64 (pos:Int),.slice Ab nb cb,.bool false] 239)).drewN nq:=⟨_,rfl⟩
 have D1:Bw w w1:=by rw[hw1];exact below_drewN D0 nq
 have hbx:w1.heap[w.heap.size]?=some (.cells #[.int .i64 (a:Int),.int .i64 (pos:Int),.slice Ab nb cb,.bool false] 239):=by rw[hw1];exact aA w _
 have xO:Hid (w1.heap.size=w.heap.size+1):=Hj (by rw[hw1];exact(show (w.alloc (.cells #[.int .i64 (a:Int),.int .i64 (pos:Int),.slice Ab nb cb,.bool false] 239)).heap.size=w.heap.size+1 by simp))
 have b0:w1.cell? ⟨w.heap.size,0,none⟩=some (.int .i64 (a:Int)):=Kq 0 hbx
 have b1:w1.cell? ⟨w.heap.size,1,none⟩=some (.int .i64 (pos:Int)):=Kq 1 hbx
 have b2:w1.cell? ⟨w.heap.size,2,none⟩=some (.slice Ab nb cb):=Kq 2 hbx
 have b3:w1.cell? ⟨w.heap.size,3,none⟩=some (.bool false):=Kq 3 hbx
 rw[←hw1]
 have HD1:=Hj D1
 have Hbx:=Hj hbx
 clear hw1 c0 c0a D0 D1 hbx
 by_cases hgr:n<pos+nb
 ·have q1:decide ((n:Int)<(pos:Int)+(nb:Int))=true:=aZ (by omega)
  have HOW1:Hid (OB w1 0 (.slice A n c) l):=Hj (OB.below dS.out HD1.out)
  have HG1:=Hj ((HD1.out.block g hgl.out).trans Hg.out)
  obtain⟨N,hN⟩:∃N,N=pos+nb:=⟨_,rfl⟩
  have hN1:N≤pos+nb:=by omega
  have hN2:pos+nb≤N:=by omega
  have hLN:(l++List.replicate (pos+nb-n) 0).length=N:=by rw[bP,List.length_replicate,hn];omega
  have Pj:=Hj hLN
  have HNe:=Hj hN
  clear hN hLN
  go_wp2_with (at_builtin;refine lF rfl (.tmp 36) (.tmp 40) rfl HOW1.out rfl (m:=pos+nb-n) (bJ (Value.int .i64) (show (pos:Int)+(nb:Int)-(n:Int)=((pos+nb-n:Nat):Int) by omega)) (by omega) (by omega) (bU _) ?_;intro v2 w2 hown2 dQ jZ;obtain⟨A2,c2,hv2,hc2,hm2,-⟩:=hown2.form;rw[Pj.out] at hv2 hc2;subst hv2;have H2:=Hj hown2;have G2:=Hj dQ;have T2:=Hj jZ;clear hown2 dQ jZ)
  have hs1:Hid (w1.heap.size=w.heap.size+1):=Hj xO.out
  have F2:=Hj (Fr.bF G2.out)
  have FI:=Hj ((F2.out.block w.heap.size (by have:=hs1.out;omega) (fun h=>by have:=(Lj.out _ h.symm).2;omega)).trans Hbx.out)
  have HOW:Hid (OB w2.drew 0 (.slice A2 N c2) (l++List.replicate (pos+nb-n) 0)):=H2
  have YC:=Hj ((F2.out.block g (by have:=hs1.out;have:=hgl.out;omega) (fun h=>(Lj.out _ h.symm).1 rfl)).trans HG1.out)
  have EX:Hid (RB w2.drew Ab nb bs):=Hj ⟨hbl.out,fun h0=>by
   obtain⟨b',o',rfl,hcc⟩:=Hb.out.2 h0
   refine⟨b',o',rfl,fun k hk=> ?_⟩
   have h1:=Kz HD1.out _ _ (hcc k hk)
   exact jH F2.out.drew (fun h=>Hap.out h0 b' o' rfl (Eq.symm h)) h1⟩
  have HT2:Hid (∀k,(Value.slice A2 N c2).ownBlock=some k→(Value.slice A n c).ownBlock=some k∨k=w.heap.size+1):=Hj (fun k hk=>by
   rcases T2.out with h | h
   ·exact .inl (h.symm.trans hk)
   ·rw [h] at hk
    injection hk with hk
    exact .inr (by rw[←hk];exact hs1.out))
  have Pm:Hid (¬(Value.slice A2 N c2).ownBlock=some w.heap.size):=Hj (fun h=>by
   rcases HT2.out _ h with h | h
   ·have:=(Lj.out _ h).2;omega
   ·omega)
  have YD:Hid (¬(Value.slice A2 N c2).ownBlock=some g):=Hj (fun h=>by
   rcases HT2.out _ h with h | h
   ·exact (Lj.out _ h).1 rfl
   ·have:=hgl.out;omega)
  have HAL:Hid ((Value.slice A2 N c2).ownBlock=(Value.slice A n c).ownBlock∨∃k,(Value.slice A2 N c2).ownBlock=some k∧w.heap.size≤k):=Hj (by
   rcases T2.out with h | h
   ·exact .inl h
   ·exact .inr ⟨_,h,by have:=hs1.out;omega⟩)
  have HDO:Hid (Pg l ⟨a,pos,bs,false⟩=(l++List.replicate (pos+nb-n) 0).take pos++bs++(l++List.replicate (pos+nb-n) 0).drop (pos+nb)):=Hj (by rw[BM,hbl.out];unfold rJ;rw[hn])
  have HFW:Hid (Fr (UY g (.slice A n c)) w w2.drew):=Hj ((((Fr.of_below HD1.out).trans F2.out (fun k _ h=>.inr h.symm)).drew))
  have HSub:Hid (∀k,k<w.heap.size→(Value.slice A2 N c2).ownBlock=some k→UY g (.slice A n c) k):=Hj (fun k hk h=>by
   rcases HT2.out _ h with h | h
   ·exact .inr h
   ·omega)
  rcases pF nb with hz | hz
  focus
   have Hz:=Hj hz
   clear hz
   by_cases hcq:c2=pos
   focus
    have hcp:(c2=pos)=True:=eq_true hcq
   rotate_right
   focus
    have hcp:(c2=pos)=False:=eq_false hcq
   all_goals
    clear hcq
    have e1:w2.drew.cell? ⟨w.heap.size,1,none⟩=some (.int .i64 (pos:Int)):=Kq 1 FI.out
    have e2:w2.drew.cell? ⟨w.heap.size,2,none⟩=some (.slice Ab nb cb):=Kq 2 FI.out
    have hpN:(pos:Int)≤((N:Nat):Int):=by omega
    have hp0:(0:Int)≤(pos:Int):=by omega
    have hNc:((N:Nat):Int)≤((c2:Nat):Int):=by omega
    skip
    go_region_held3 (fun w'=>w'.cell? ⟨w.heap.size,1,none⟩=some (.int .i64 (pos:Int))∧w'.cell? ⟨w.heap.size,2,none⟩=some (.slice Ab nb cb)) (first | assumption | go_keep)
     (first | ((refine lI (w:=w2.drew) rfl (.tmp 45) (.tmp 47) (by rfl) (B:=0) (n:=N) (c:=c2) (pos:=pos) (nb:=nb) (A:=A2) (l:=(l++List.replicate (pos+nb-n) 0)) HOW.out Pj.out (by omega) (by rfl) (fun h=>absurd h (by have:=Hz.out;omega)) (by rfl) EX.out ?_;intro w3 hown3 hf3;have s1:=jH hf3 Pm.out e1;have s2:=jH hf3 Pm.out e2;have H3:=Hj hown3;have F3:=Hj hf3;clear hown3 hf3)))
  rotate_right
  focus
   obtain⟨gb,ob,hAv⟩:∃gb ob,A2=some ⟨gb,ob,none⟩:=Ll HOW.out Pj.out (by omega)
   subst hAv
   have e1:w2.drew.cell? ⟨w.heap.size,1,none⟩=some (.int .i64 (pos:Int)):=Kq 1 FI.out
   have e2:w2.drew.cell? ⟨w.heap.size,2,none⟩=some (.slice Ab nb cb):=Kq 2 FI.out
   have hpN:(pos:Int)≤((N:Nat):Int):=by omega
   have hp0:(0:Int)≤(pos:Int):=by omega
   have hNc:((N:Nat):Int)≤((c2:Nat):Int):=by omega
   have hcp:(c2=pos)=False:=eq_false (by omega)
   go_region_held3 (fun w'=>w'.cell? ⟨w.heap.size,1,none⟩=some (.int .i64 (pos:Int))∧w'.cell? ⟨w.heap.size,2,none⟩=some (.slice Ab nb cb)) (first | assumption | go_keep)
    (first | ((refine lI (w:=w2.drew) rfl (.tmp 45) (.tmp 47) (by rfl) (B:=0) (n:=N) (c:=c2) (pos:=pos) (nb:=nb) (A:=(some ⟨gb,ob,none⟩)) (l:=(l++List.replicate (pos+nb-n) 0)) HOW.out Pj.out (by omega) (by rfl) (fun _ g1 o1 e=>by injection e with e;injection e with e1 e2;subst e1 e2;rfl) (by rfl) EX.out ?_;intro w3 hown3 hf3;have s1:=jH hf3 Pm.out e1;have s2:=jH hf3 Pm.out e2;have H3:=Hj hown3;have F3:=Hj hf3;clear hown3 hf3)))
  all_goals
   go_wp2
   have FN:=Hj ((F3.out.block g (Cq YC.out) YD.out).trans YC.out)
   have HB3:=Hj ((F3.out.block w.heap.size (Cq FI.out) Pm.out).trans FI.out)
   have k0:w3.cell? ⟨w.heap.size,0,none⟩=some (.int .i64 (a:Int)):=Kq 0 HB3.out
   have k1:w3.frozen? ⟨g,off+a,none⟩=false:=Kj FN.out
   have k2:w3.cell? ⟨g,off+a,none⟩=some (.slice A n c):=by rw[bT _ _ _ _ _ _ FN.out];exact hc
   go_still_tail 6,(by kernel_rfl)
   change wpList _ _ _ _ _ w3.drew
   go_wp2
   refine bodyPost_end (fM rfl _ _ _) rfl ⟨rfl,_,aI _ _ _ _ _ _ FN.out,?_,HAL.out,?_⟩
   ·rw [HDO.out]
    exact OB.eY H3.out fun k hk=>Below.heap_setCell w3 ⟨g,off+a,none⟩ _ k (fun e=>YD.out (by rw[←show k=g from e];exact hk))
   ·exact ((HFW.out.trans F3.out (fun k hk h=>HSub.out k hk h)).setCell (p:=⟨g,off+a,none⟩) (fun _=>.inl rfl) _).drew
 ·have q1:decide ((n:Int)<(pos:Int)+(nb:Int))=false:=aQ (by omega)
  go_wp2
  have FI:=Hbx
  have HOW:Hid (OB w1.drew 0 (.slice A n c) l):=Hj (OB.below dS.out (wE HD1.out))
  have Pj:=Hj hn
  have EX:Hid (RB w1.drew Ab nb bs):=Hj ((Hb.out.keep (Kz HD1.out)).keep (Keeps.drew _))
  have YC:=Hj ((HD1.out.block g hgl.out).trans Hg.out)
  have Pm:Hid (¬(Value.slice A n c).ownBlock=some w.heap.size):=Hj (fun h=>by have:=(Lj.out _ h).2;omega)
  have YD:Hid (¬(Value.slice A n c).ownBlock=some g):=Hj (fun h=>(Lj.out _ h).1 rfl)
  have HAL:Hid ((Value.slice A n c).ownBlock=(Value.slice A n c).ownBlock∨∃k,(Value.slice A n c).ownBlock=some k∧w.heap.size≤k):=Hj (.inl rfl)
  have HDO:Hid (Pg l ⟨a,pos,bs,false⟩=l.take pos++bs++l.drop (pos+nb)):=Hj (by rw[BM,hbl.out,Qu _ _ (by omega)])
  have HFW:Hid (Fr (UY g (.slice A n c)) w w1.drew):=Hj (Fr.of_below (wE HD1.out))
  have HSub:Hid (∀k,k<w.heap.size→(Value.slice A n c).ownBlock=some k→UY g (.slice A n c) k):=Hj (fun k _ h=>.inr h)
  rcases pF nb with hz | hz
  focus
   have Hz:=Hj hz
   clear hz
   by_cases hcq:c=pos
   focus
    have hcp:(c=pos)=True:=eq_true hcq
   rotate_right
   focus
    have hcp:(c=pos)=False:=eq_false hcq
   all_goals
    clear hcq
    have e1:w1.drew.cell? ⟨w.heap.size,1,none⟩=some (.int .i64 (pos:Int)):=Kq 1 FI.out
    have e2:w1.drew.cell? ⟨w.heap.size,2,none⟩=some (.slice Ab nb cb):=Kq 2 FI.out
    have hpN:(pos:Int)≤((n:Nat):Int):=by omega
    have hp0:(0:Int)≤(pos:Int):=by omega
    have hNc:((n:Nat):Int)≤((c:Nat):Int):=by omega
    skip
    go_region_held3 (fun w'=>w'.cell? ⟨w.heap.size,1,none⟩=some (.int .i64 (pos:Int))∧w'.cell? ⟨w.heap.size,2,none⟩=some (.slice Ab nb cb)) (first | assumption | go_keep)
     (first | ((refine lI (w:=w1.drew) rfl (.tmp 45) (.tmp 47) (by rfl) (B:=0) (n:=n) (c:=c) (pos:=pos) (nb:=nb) (A:=A) (l:=l) HOW.out Pj.out (by omega) (by rfl) (fun h=>absurd h (by have:=Hz.out;omega)) (by rfl) EX.out ?_;intro w3 hown3 hf3;have s1:=jH hf3 Pm.out e1;have s2:=jH hf3 Pm.out e2;have H3:=Hj hown3;have F3:=Hj hf3;clear hown3 hf3)))
    go_wp2
    have FN:=Hj ((F3.out.block g (Cq YC.out) YD.out).trans YC.out)
    have HB3:=Hj ((F3.out.block w.heap.size (Cq FI.out) Pm.out).trans FI.out)
    have k0:w3.cell? ⟨w.heap.size,0,none⟩=some (.int .i64 (a:Int)):=Kq 0 HB3.out
    have k1:w3.frozen? ⟨g,off+a,none⟩=false:=Kj FN.out
    have k2:w3.cell? ⟨g,off+a,none⟩=some (.slice A n c):=by rw[bT _ _ _ _ _ _ FN.out];exact hc
  rotate_right
  focus
   obtain⟨gb,ob,hAv⟩:∃gb ob,A=some ⟨gb,ob,none⟩:=Ll HOW.out Pj.out (by omega)
   subst hAv
   have e1:w1.drew.cell? ⟨w.heap.size,1,none⟩=some (.int .i64 (pos:Int)):=Kq 1 FI.out
   have e2:w1.drew.cell? ⟨w.heap.size,2,none⟩=some (.slice Ab nb cb):=Kq 2 FI.out
   have hpN:(pos:Int)≤((n:Nat):Int):=by omega
   have hp0:(0:Int)≤(pos:Int):=by omega
   have hNc:((n:Nat):Int)≤((c:Nat):Int):=by omega
   have hcp:(c=pos)=False:=eq_false (by omega)
   go_region_held3 (fun w'=>w'.cell? ⟨w.heap.size,1,none⟩=some (.int .i64 (pos:Int))∧w'.cell? ⟨w.heap.size,2,none⟩=some (.slice Ab nb cb)) (first | assumption | go_keep)
    (first | ((refine lI (w:=w1.drew) rfl (.tmp 45) (.tmp 47) (by rfl) (B:=0) (n:=n) (c:=c) (pos:=pos) (nb:=nb) (A:=(some ⟨gb,ob,none⟩)) (l:=l) HOW.out Pj.out (by omega) (by rfl) (fun _ g1 o1 e=>by injection e with e;injection e with e1 e2;subst e1 e2;rfl) (by rfl) EX.out ?_;intro w3 hown3 hf3;have s1:=jH hf3 Pm.out e1;have s2:=jH hf3 Pm.out e2;have H3:=Hj hown3;have F3:=Hj hf3;clear hown3 hf3)))
   go_wp2
   have FN:=Hj ((F3.out.block g (Cq YC.out) YD.out).trans YC.out)
   have HB3:=Hj ((F3.out.block w.heap.size (Cq FI.out) Pm.out).trans FI.out)
   have k0:w3.cell? ⟨w.heap.size,0,none⟩=some (.int .i64 (a:Int)):=Kq 0 HB3.out
   have k1:w3.frozen? ⟨g,off+a,none⟩=false:=Kj FN.out
   have k2:w3.cell? ⟨g,off+a,none⟩=some (.slice (some ⟨gb,ob,none⟩) n c):=by rw[bT _ _ _ _ _ _ FN.out];exact hc
  all_goals
   go_still_tail 6,(by kernel_rfl)
   change wpList _ _ _ _ _ w3.drew
   go_wp2
   refine bodyPost_end (fM rfl _ _ _) rfl ⟨rfl,_,aI _ _ _ _ _ _ FN.out,?_,.inl rfl,?_⟩
   ·rw [HDO.out]
    exact OB.eY H3.out fun k hk=>Below.heap_setCell w3 ⟨g,off+a,none⟩ _ k (fun e=>YD.out (by rw[←show k=g from e];exact hk))
   ·exact ((HFW.out.trans F3.out (fun k hk h=>HSub.out k hk h)).setCell (p:=⟨g,off+a,none⟩) (fun _=>.inl rfl) _).drew
end Go.Proofs.YtdhbpajamlfacaaGreatDoor
