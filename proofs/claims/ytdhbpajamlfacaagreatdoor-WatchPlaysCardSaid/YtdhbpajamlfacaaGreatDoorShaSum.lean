/- Layer 3 (tlv): tags, elements' bytes. -/
import Derived.Test.YtdhbpajamlfacaaGreatDoorWho
import Derived.Test.YtdhbpajamlfacaaGreatDoorSha
set_option maxHeartbeats 1000000
set_option maxRecDepth 100000
namespace Go.Proofs.YtdhbpajamlfacaaGreatDoor
open Go.RowKit
theorem Tn (g n c:Nat) (L:List Int) (x:Int) (w:World) (hn:L.length=n) (hn2:n≤100) (hx:x∈L) (hc:∀i,i<n→w.cell? ⟨g,i,none⟩=some (.int .i64 (L.getD i 0))):
  Cl 251 #[.slice (some ⟨g,0,none⟩) n c,.int .i64 x] w fun e w'=>∃i:Nat,e=.returned (.int .i64 (i:Int))∧w=w':=by
 have HC:=Hj hc
 have HX:Hid (∃j,j<n∧L.getD j 0=x):=Hj (by
  obtain⟨j,hj,e⟩:=List.mem_iff_getElem.1 hx
  exact⟨j,by omega,by rw[nG,fJ hj];exact e⟩)
 have Pz:=Hj hn2
 clear hc hx hn
 go_enter Tryz.func251,Tryz.ntmps251
 go_wp2
 go_loopg [8] n (fun gk s8 wr=>∃i:Nat,i+gk=n∧s8=.int .i64 (i:Int)∧(∀j,j<i→L.getD j 0≠x)∧wr=w)
 case atStart=>exact⟨0,by omega,rfl,fun j hj=>absurd hj (by omega),rfl⟩
 case round=>
  obtain⟨i,hi,rfl,hall,rfl⟩:=hrel
  have HI:=Hj hi
  have pK:=Hj hall
  by_cases hlt:i<n
  ·have ci:=HC.out i hlt
   obtain⟨y,hy⟩:∃y,y=L.getD i 0:=⟨_,rfl⟩
   rw[←hy] at ci
   have HY:=Hj hy
   have i0:(0:Int)≤(i:Int):=by omega
   have i1:(i:Int)<(n:Int):=by omega
   have i2:(n:Int)≤100:=by omega
   clear hi hall hlt hy
   by_cases he:x=y
   ·have q1:(x==y)=true:=by rw[he];simp
    clear he
    go_wp2
    go_ret
    exact⟨i,rfl,rfl⟩
   ·have q1:(x==y)=false:=gQ.2 he
    have HE:=Hj he
    clear he
    go_wp2
    go_roundg (gk-1)
    case measure=>have:=HI.out;omega
    case rel=>exact⟨i+1,by have:=HI.out;omega,by go_num,fun j hj=>by
     by_cases e:j=i
     ·subst e;rw[←HY.out];exact fun h=>HE.out h.symm
     ·exact pK.out j (by omega),rfl⟩
  ·obtain ⟨j,hj,e⟩:=HX.out
   exact absurd e (hall j (by omega))
theorem Hy (g n c:Nat) (L:List Int) (x:Int) (w:World) (hn:L.length=n) (hn2:n≤100) (hx:x∈L) (hc:∀i,i<n→w.cell? ⟨g,i,none⟩=some (.int .i64 (L.getD i 0))):
  Cl 213 #[.slice (some ⟨g,0,none⟩) n c,.int .i64 x] w fun e w'=>e=.returned (.bool true)∧w=w':=by
 have HI:=Hj (Tn g n c L x w hn hn2 hx hc)
 clear hn hn2 hx hc
 go_enter Tryz.func213,Tryz.ntmps213
 go_wp2_with (go_at_call 251;((with_reducible refine HI.out.mono ?_);rintro e w1 ⟨i,rfl,rfl⟩;have i0:(0:Int)≤(i:Int):=(by omega)))
 go_ret
 exact⟨rfl,rfl⟩
def oK:List Int:=[1,2,3,4,5,6,10,12,24]
theorem Ox (w:World):Cl 214 #[] w fun e w'=>e=.returned (.slice (some ⟨w.heap.size,0,none⟩) 9 9)∧(∀i,i<9→w'.cell? ⟨w.heap.size,i,none⟩=some (.int .i64 (oK.getD i 0)))∧Bw w w':=by
 go_enter Tryz.func214,Tryz.ntmps214
 go_wp2
 go_ret
 refine⟨rfl,fun i hi=> ?_,(aj _ w).alloc Kv _⟩
 rw[bT _ _ _ _ _ _ (aA w _)]
 have:i=0∨i=1∨i=2∨i=3∨i=4∨i=5∨i=6∨i=7∨i=8:=by omega
 rcases this with rfl | rfl | rfl | rfl | rfl | rfl | rfl | rfl | rfl<;>rfl
theorem BH (w:World):Cl 173 #[.int .i64 48] w fun e w'=>e=.returned (.bool true)∧w=w':=by
 go_enter Tryz.func173,Tryz.ntmps173
 go_wp2
 go_ret
 exact⟨rfl,rfl⟩
theorem JL (x:Int) (w:World) (h:x∈oK):Cl 173 #[.int .i64 x] w fun e w'=>e=.returned (.bool false)∧w=w':=by
 have hx:x<48∧0<x:=by simp[oK] at h;omega
 have q1:(x==48)=false:=gQ.2 (by omega)
 have q2:(x==49)=false:=gQ.2 (by omega)
 have q3:decide (x≥160)=false:=aQ (by omega)
 have q3':decide (160≤x)=false:=aQ (by omega)
 clear h hx
 go_enter Tryz.func173,Tryz.ntmps173
 go_wp2
 go_ret
 exact⟨rfl,rfl⟩
/-- A list's tag, or one of the plain ones. -/
def Tag (x:Int):Prop:=x=48∨x∈oK
theorem Oy (x:Int) (w:World) (h:Tag x):Cl 168 #[.int .i64 x] w fun e w'=>e=.returned (.bool true)∧Bw w w':=by
 rcases h with rfl | h
 ·go_enter Tryz.func168,Tryz.ntmps168
  go_wp2_with (go_at_call 173;((with_reducible refine(BH w).mono ?_);rintro e w1 ⟨rfl,rfl⟩))
  go_ret
  exact⟨rfl,aj _ _⟩
 ·have HM:=Hj (JL x w h)
  have HC:=Hj (fun(W:World) (g:Nat) (hc:∀i,i<9→W.cell? ⟨g,i,none⟩=some (.int .i64 (oK.getD i 0)))=>Hy g 9 9 oK x W rfl (by decide) h hc)
  clear h
  go_enter Tryz.func168,Tryz.ntmps168
  go_wp2_with (first
   | (go_at_call 173;((refine HM.out.mono ?_);rintro e w1 ⟨rfl,rfl⟩))
   | (go_at_call 214;((refine(Ox w).mono ?_);rintro e w2 ⟨rfl,hc2,hb2⟩;have C2:=Hj hc2;have B2:=Hj hb2;clear hc2 hb2))
   | (go_at_call 213;((refine(HC.out w2 w.heap.size C2.out).mono ?_);rintro e w3 ⟨rfl,rfl⟩))
   | fail)
  go_ret
  exact⟨rfl,B2.out⟩
def pR (r:Nat):Nat:=(64-(r+9) % 64) % 64
def cZ (n:Nat):List UInt8:=(List.range 8).map fun i=>UInt8.ofNat (n / 2 ^ (8*(7-i)))
def wL (r cnt:Nat):List UInt8:=(128::List.replicate (pR r) 0)++cZ (cnt*8)
def b4 (x:UInt32):List UInt8:=[(x>>>24).toUInt8,(x>>>16).toUInt8,(x>>>8).toUInt8,x.toUInt8]
def digest (s:W8):List UInt8:=s.list.flatMap b4
theorem AQ (s:W8):(digest s).length=32:=by simp[digest,W8.list,b4]
theorem gG.below {w w':World} {B g:Nat} {ro:Option Nat} {s:W8} {rest:List UInt8} {n:Nat} (h:gG w B g ro s rest n) (hf:Bw w w'):gG w' B g ro s rest n:=
 h.kept (Fr.of_below (S:=fun _=>False) hf) (fun x=>x) fun _ _ x=>x
/-- The bytes of the first k words, and noughts. -/
def sV (x:Nat→UInt32) (k:Nat):List UInt8:=(List.range 8).flatMap fun i=>if i<k then b4 (x i) else [0,0,0,0]
theorem xH {w:World} (cs:Array Value) (i:Int) (v:Value) (h0:0≤i) (hn:i<8) (hv:cs[i.toNat]?=some v):
  (Instr.index 348 (.agg cs) (.int .i64 i)).run Tryz.prog w=.ok v w:=by
 have h1:∀W,(sizeOf 318).run Tryz.prog W=.ok 1 W:=fun W=>by kernel_rfl
 have h2:∀W,(isAgg 318).run Tryz.prog W=.ok false W:=fun W=>by kernel_rfl
 simp[Instr.index,run_underlying (Tryz.underlying348),asIntOf,h0,hn,hv,h1,h2,go_sem]
theorem wM (x:Nat→UInt32) (k:Nat):(sV x k).length=32:=by
 simp only[sV,List.length_flatMap]
 have:∀i,(if i<k then b4 (x i) else [0,0,0,0]).length=4:=fun i=>by split<;>rfl
 simp only[this]
 rfl
theorem Oq {w:World} {g:Nat} {x:Nat→UInt32} {k:Nat} {T:TypeId} (h:w.heap[g]?=some (.cells (ay (sV x k)).toArray T (0,0))) (j:Nat) (hj:j<32):w.cell? ⟨g,j,none⟩=some (.int .u8 (((sV x k).getD j 0).toNat:Int)):=by
 rw[bT _ _ _ _ _ _ h]
 have:=wM x k
 simp[ay,this,hj]
theorem Tf (x:UInt32):ay (b4 x)=[Value.int .u8 ((x.toNat:Int) / 16777216 % 256),Value.int .u8 ((x.toNat:Int) / 65536 % 256),Value.int .u8 ((x.toNat:Int) / 256 % 256),Value.int .u8 ((x.toNat:Int) % 256)]:=by
 simp[ay,b4,Nat.shiftRight_eq_div_pow]
theorem Ot (x:Nat→UInt32) (i:Nat) (hi:i<8) (v0 v1 v2 v3:Value) (hb:ay (b4 (x i))=[v0,v1,v2,v3]):
  ((((ay (sV x i)).set (4*i) v0).set (4*i+1) v1).set (4*i+2) v2).set (4*i+3) v3=ay (sV x (i+1)):=by
 simp only[b4,ay,List.map_cons,List.map_nil] at hb
 injection hb with e0 hb
 injection hb with e1 hb
 injection hb with e2 hb
 injection hb with e3 hb
 subst e0;subst e1;subst e2;subst e3
 have hcases:i=0∨i=1∨i=2∨i=3∨i=4∨i=5∨i=6∨i=7:=by omega
 rcases hcases with rfl | rfl | rfl | rfl | rfl | rfl | rfl | rfl<;>rfl
theorem Ou {w:World} {g:Nat} {x:Nat→UInt32} {i:Nat} {T:TypeId} (h:w.heap[g]?=some (.cells (ay (sV x i)).toArray T (0,0))) (hi:i<8):
  ((((w.setCell ⟨g,4*i,none⟩ (.int .u8 (((x i).toNat:Int) / 16777216 % 256))).setCell ⟨g,4*i+1,none⟩ (.int .u8 (((x i).toNat:Int) / 65536 % 256))).setCell ⟨g,4*i+2,none⟩ (.int .u8 (((x i).toNat:Int) / 256 % 256))).setCell ⟨g,4*i+3,none⟩ (.int .u8 (((x i).toNat:Int) % 256))).heap[g]?=
   some (.cells (ay (sV x (i+1))).toArray T (0,0)):=by
 have hb:=Tf (x i)
 generalize Value.int .u8 (((x i).toNat:Int) / 16777216 % 256)=v0 at*
 generalize Value.int .u8 (((x i).toNat:Int) / 65536 % 256)=v1 at*
 generalize Value.int .u8 (((x i).toNat:Int) / 256 % 256)=v2 at*
 generalize Value.int .u8 (((x i).toNat:Int) % 256)=v3 at*
 rw[aI _ _ _ _ _ _ (aI _ _ _ _ _ _ (aI _ _ _ _ _ _ (aI _ _ _ _ _ _ h)))]
 refine bJ (fun a=>some (Obj.cells a T (0,0))) ?_
 simp only[List.setIfInBounds_toArray]
 exact bJ List.toArray (Ot x i hi v0 v1 v2 v3 hb)
theorem Ti (S:W8):sV (fun i=>S.list[i]?.getD 0) 8=digest S:=by rfl
theorem jK:(Tryz.prog.info? 297).map (·.size)=some 32:=by kernel_rfl
theorem qC (n i:Nat) (h:i<8):(cZ n).getD i 0=UInt8.ofNat (n / 2 ^ (8*(7-i))):=by simp[cZ,h]
theorem rP (n i:Nat) (h:i<8):(cZ n).take (i+1)=(cZ n).take i++[UInt8.ofNat (n / 2 ^ (8*(7-i)))]:=by
 have hl:(cZ n).length=8:=by simp[cZ]
 rw[←qC n i h,mO (by omega),nG,fJ (by omega)]
 rfl
theorem oW (n i:Nat):ay [UInt8.ofNat (n / 2 ^ (8*(7-i)))]=[Value.int .u8 ((n:Int) / 2 ^ (8*(7-i)) % 256)]:=by
 simp[ay]
theorem G9 (r j:Nat) (hr:r≤549755813888) (hj:j≤pR r):((wrap64 (wrap64 ((r:Int)+((j:Int)+1))+8)).tmod 64 !=0)=decide (j<pR r):=by
 unfold pR at*
 have e1:wrap64 ((r:Int)+((j:Int)+1))=(r:Int)+((j:Int)+1):=IntWalk.wrap64_in _ (by omega)
 have e2:wrap64 ((r:Int)+((j:Int)+1)+8)=(r:Int)+((j:Int)+1)+8:=IntWalk.wrap64_in _ (by omega)
 rw[e1,e2,Int.tmod_eq_emod_of_nonneg (by omega)]
 by_cases h:j<(64-(r+9) % 64) % 64
 ·rw [aZ h]
  simp
  omega
 ·rw [aQ h]
  simp
  omega
theorem Hf (g B cnt:Nat) (ro:Option Nat) (K:Nat→UInt32) (s:W8) (rest:List UInt8) (w:World) (hh:gG w B g ro s rest cnt) (hK:jM w K) (XR:30<w.heap.size)
  (hlen:rest.length≤549755813888) (hcnt:cnt≤549755813888):
  Cl 268 #[pt g] w fun e w'=>e=.returned (.agg (ay (digest (blocks K s (rest++wL rest.length cnt)).1)).toArray)∧Bw w w':=by
 have Hh:=Hj hh
 have HK:=Hj hK
 clear hh hK
 obtain⟨r,hr⟩:∃r,rest.length=r:=⟨_,rfl⟩
 have Hr:=Hj hr
 rw[hr] at hlen
 clear hr
 go_enter Tryz.func268,Tryz.ntmps268
 go_wp2_with (first
  | (go_at_call 284;refine(Td g B cnt ro s rest _ (Hh.out.below ((aj _ w).alloc Kv _)) (by rw[Hr.out];omega)).mono ?_;rintro e w1 ⟨g1,ro1,rfl,hh1,eP⟩)
  | fail)
 obtain⟨hlow1,rv1,hc1,hown1,hro1⟩:=hh1
 obtain⟨A1,cap1,hv1,_,_,hrb1⟩:=hown1.form
 subst hv1
 rw[Hr.out] at hc1
 have hg1:=(Cq hc1)
 have Hh1:=Hj (show gG w1 (w.alloc (.cells (Array.replicate 32 (.int .u8 0)) 297)).heap.size g1 ro1 s rest cnt from ⟨hlow1,_,by rw[Hr.out];exact hc1,hown1,hro1⟩)
 have Hc1:=Hj hc1
 have qB:=Hj eP
 clear hc1 hown1 hrb1 eP
 have XU:Hid (jM w1 K):=HK.out.keep (Keeps.trans (Kz ((aj _ w).alloc Kv _)) (Kz qB.out))
 go_loopg [4] (pR r) (fun k s4 wr=>∃A cap j,s4=.slice A (j+1) cap∧OB wr w1.heap.size (.slice A (j+1) cap) (128::List.replicate j 0)∧j+k=pR r∧Bw w1 wr)
 case atStart=>
  refine⟨_,_,0,rfl,?_,by omega,(aj _ w1).alloc Kv _⟩
  exact OB.lit w1 w1.heap.size Kv [128] 1 rfl (by decide)
 case round=>
  obtain⟨A,cap,j,rfl,hown,hjk,hbel⟩:=hrel
  have c8:=(oZ ((hbel.block g1 hg1).trans Hc1.out)).1
  have c9:=(oZ ((hbel.block g1 hg1).trans Hc1.out)).2.1
  have dS:=Hj hown
  have dN:=Hj hbel
  clear hown hbel
  by_cases hj:j<pR r
  ·have ht:((wrap64 (wrap64 ((r:Int)+((j:Int)+1))+8)).tmod 64 !=0)=true:=by rw[G9 r j hlen (Nat.le_of_lt hj)];exact aZ hj
   go_wp2_with (first
    | (at_builtin;refine aN rfl (.tmp 24) (.tmp 25) 35 rfl (OB.alloc dS.out _) rfl (Src.lit wr _ [0] rfl 1 1 rfl) rfl ?_ ?_ ?_;rotate_right;intro v2 w2 hown2 dQ jZ;obtain⟨A2,cap2,hv2,hc2,hm2,hr2⟩:=hown2.form;subst hv2)
    | fail)
   case refine_1=>unfold pR at hj;simp;omega
   case refine_2=>have:=dN.out.size;simp;omega
   go_roundg (gk-1)
   case measure=>omega
   case rel=>
    have hl:(128::List.replicate j (0:UInt8))++[0]=128::List.replicate (j+1) 0:=by rw[List.replicate_succ',KD]
    rw[hl] at hown2
    rw[show (128::List.replicate (j+1) (0:UInt8)).length=j+1+1 by simp] at hown2
    exact⟨A2,cap2,j+1,rfl,hown2,by omega,bD (dN.out.alloc dN.out.size _) dQ (dS.out.alloc _) Kv (by have:=dN.out.size;simp;omega)⟩
  ·have ht:((wrap64 (wrap64 ((r:Int)+((j:Int)+1))+8)).tmod 64 !=0)=false:=by rw[G9 r j hlen (by omega)];exact aQ hj
   obtain rfl:j=pR r:=by omega
   have h8:IntKind.u64.wrap ((cnt:Int)*8)=(cnt:Int)*8:=by rw[IntWalk.u64_in _ (by omega)]
   go_wp2
   clear ht
   obtain⟨L,hL⟩:∃L:Nat→List UInt8,L=fun i=>(128::List.replicate (pR r) 0)++(cZ (cnt*8)).take i:=⟨_,rfl⟩
   have HL:=Hj hL
   have HLen:Hid (∀i,i≤8→(L i).length=pR r+1+i):=by intro i hi;rw[HL.out];simp[cZ];omega
   clear hL
   go_loopg [4,33] 8 (fun k s4 s33 wr=>∃A cap i,s4=.slice A (pR r+1+i) cap∧s33=.int .i64 (i:Int)∧OB wr w1.heap.size (.slice A (pR r+1+i) cap) (L i)∧i+k=8∧Bw w1 wr)
   case atStart=>exact⟨A,cap,0,rfl,rfl,by rw[HL.out];simpa using dS.out,by omega,dN.out⟩
   case round=>
    obtain⟨A',cap',i,rfl,rfl,hown,hik,hbel⟩:=hrel
    have Cm:=Hj hown
    have qF:=Hj hbel
    clear hown hbel c8 c9
    by_cases hi:i<8
    ·have m1:IntKind.i64.wrap (7-(i:Int))=7-(i:Int):=cO _ (by omega)
     have m2:IntKind.i64.wrap (8*(7-(i:Int)))=8*(7-(i:Int)):=cO _ (by omega)
     have n0:(0:Int)≤8*(7-(i:Int)):=by omega
     have n1:8*(7-(i:Int))<64:=by omega
     have hlb:=Hj (oW (cnt*8) i)
     go_wp2_with (first
      | (at_builtin;refine aN rfl (.tmp 36) (.tmp 43) 35 rfl (OB.alloc Cm.out _) rfl (Src.lit wr _ [UInt8.ofNat (cnt*8 / 2 ^ (8*(7-i)))] ?_ 1 1 rfl) rfl ?_ ?_ ?_;rotate_right;intro v2 w2 hown2 dQ jZ;rw[show L i++[UInt8.ofNat (cnt*8 / 2 ^ (8*(7-i)))]=L (i+1) by rw[HL.out];simp only[];rw[rP _ _ hi,mQ]] at hown2;obtain⟨A2,cap2,hv2,hc2,hm2,hr2⟩:=hown2.form;rw[HLen.out _ (by omega)] at hv2;subst hv2)
      | fail)
     case refine_1=>rw[oW];simp
     case refine_2=>rw[HLen.out i (by omega)];unfold pR;simp;omega
     case refine_3=>have:=qF.out.size;simp;omega
     go_roundg (gk-1)
     case measure=>omega
     case rel=>exact⟨A2,cap2,i+1,rfl,by go_num,hown2,by omega,bD (qF.out.alloc qF.out.size _) dQ (Cm.out.alloc _) Kv (by have:=qF.out.size;simp;omega)⟩
    ·obtain rfl:i=8:=by omega
     have hrb:RB wr A' (pR r+1+8) (L 8):=by
      obtain⟨A3,cap3,hv3,_,_,hrb3⟩:=Cm.out.form
      injection hv3 with e1 e2 e3
      subst e1
      rw[HLen.out 8 (by omega)] at hrb3
      exact hrb3
     have Wh:=Hj hrb
     have Hh3:=Hj (Hh1.out.below qF.out)
     have Yt:Hid (jM wr K):=XU.out.keep (Kz qF.out)
     have hLl:=HLen.out 8 (by omega)
     have hz9:pR r≤64:=by unfold pR;omega
     clear hrb
     go_wp2_with (first
      | (go_at_call 267;refine(CJ g1 _ cap' _ A' ro1 K s rest (L 8) cnt wr Hh3.out Wh.out Yt.out (by simp;omega) (by rw[Hr.out,hLl];omega) (by rw[hLl];omega)).mono ?_;rintro e w2 ⟨rfl,hfr2,ro2,hh2,Tj⟩;generalize hS:(blocks K s (rest++L 8)).1=S at*;have HS:=Hj hS;clear hS;have Wi:=Hj hfr2;have Hh2:=Hj hh2;have Hro2:=Hj Tj;obtain⟨hlow2,rv2,hc2,hown2,hrv2⟩:=hh2;clear hfr2 Tj hown2 hrv2 hlow2;have hc3:∀o,(w2.alloc o).heap[g1]?=_:=fun o=>(Below.heap_alloc w2 o g1 (Cq hc2)).trans hc2;have c0:=fun o=>iM (hc3 o) 0 (by omega);have c1:=fun o=>iM (hc3 o) 1 (by omega);have c2:=fun o=>iM (hc3 o) 2 (by omega);have c3:=fun o=>iM (hc3 o) 3 (by omega);have c4:=fun o=>iM (hc3 o) 4 (by omega);have c5:=fun o=>iM (hc3 o) 5 (by omega);have c6:=fun o=>iM (hc3 o) 6 (by omega);have c7:=fun o=>iM (hc3 o) 7 (by omega);clear hc2 hc3)
      | fail)
     obtain⟨x,hx⟩:∃x:Nat→UInt32,x=fun i=>S.list[i]?.getD 0:=⟨_,rfl⟩
     have Hx:=Hj hx
     rw[show S.list[0]?.getD 0=x 0 by rw[hx],show S.list[1]?.getD 0=x 1 by rw[hx],show S.list[2]?.getD 0=x 2 by rw[hx],show S.list[3]?.getD 0=x 3 by rw[hx],show S.list[4]?.getD 0=x 4 by rw[hx],show S.list[5]?.getD 0=x 5 by rw[hx],show S.list[6]?.getD 0=x 6 by rw[hx],show S.list[7]?.getD 0=x 7 by rw[hx]]
     obtain⟨arr,harr⟩:∃arr:Array Value,arr=#[Value.int .u32 ((x 0).toNat:Int),Value.int .u32 ((x 1).toNat:Int),Value.int .u32 ((x 2).toNat:Int),Value.int .u32 ((x 3).toNat:Int),Value.int .u32 ((x 4).toNat:Int),Value.int .u32 ((x 5).toNat:Int),Value.int .u32 ((x 6).toNat:Int),Value.int .u32 ((x 7).toNat:Int)]:=⟨_,rfl⟩
     rw[←harr]
     have Zr:Hid (∀i:Nat,i<8→arr[i]?=some (Value.int .u32 ((x i).toNat:Int))):=by
      intro i hi
      have hcases:i=0∨i=1∨i=2∨i=3∨i=4∨i=5∨i=6∨i=7:=by omega
      rcases hcases with rfl | rfl | rfl | rfl | rfl | rfl | rfl | rfl<;>rw[harr]<;>rfl
     clear harr hx c0 c1 c2 c3 c4 c5 c6 c7
     go_loopg [53] 8 (fun k s53 wr=>∃i:Nat,s53=.int .i64 (i:Int)∧i+k=8∧Bw w2 wr∧wr.heap[w2.heap.size]?=some (.cells (ay (sV x i)).toArray 297 (0,0)))
     case atStart=>exact⟨0,rfl,by omega,(aj _ w2).alloc Kv _,aA w2 _⟩
     case round=>
      obtain⟨i,rfl,hik,hbel,hcur⟩:=hrel
      have Mc:=Hj hbel
      have sQ:=Hj hcur
      clear hbel hcur
      by_cases hi:i<8
      ·have hcell:∀j,(hj:j<32)→wr.cell? ⟨w2.heap.size,j,none⟩=some (.int .u8 (((sV x i).getD j 0).toNat:Int)):=fun j hj=>Oq sQ.out j hj
       have k0:=hcell (4*i) (by omega)
       have k1:=hcell (4*i+1) (by omega)
       have k2:=hcell (4*i+2) (by omega)
       have k3:=hcell (4*i+3) (by omega)
       have hfz:∀j,wr.frozen? ⟨w2.heap.size,j,none⟩=false:=fun j=>Kj sQ.out
       clear hcell
       have hix:∀W,(Instr.index 348 (.agg arr) (.int .i64 (i:Int))).run Tryz.prog W=.ok (.int .u32 ((x i).toNat:Int)) W:=fun W=>xH arr _ _ (by omega) (by omega) (Zr.out i hi)
       go_wp2_with fail
       go_roundg (gk-1)
       case measure=>omega
       case rel=>
        refine⟨i+1,by go_num,by omega,(((Mc.out.setCell (by simp) _).setCell (by simp) _).setCell (by simp) _).setCell (by simp) _,?_⟩
        exact Ou sQ.out hi
      ·obtain rfl:i=8:=by omega
       have hcs:(ay (sV x 8)).toArray.size=32:=by simp[ay,wM]
       have hz1:w1.heap[w.heap.size]?=some (.cells (Array.replicate 32 (.int .u8 0)) 297 (0,0)):=(qB.out.block _ (by simp)).trans (aA w _)
       have hw1:=(Cq hz1)
       have hz2:=(qF.out.block _ hw1).trans hz1
       have hw2:=(Cq hz2)
       have hgB:w.heap.size<g1:=by have:=Hh1.out.low;simp at this;omega
       have Gz:∀k,ro1=some k→w.heap.size<k:=fun k hk=>by have:=(Hh1.out.rlt k hk).1;simp at this;omega
       have hz3:=(Wi.out.block _ hw2 (by rintro(h | h);omega;have:=Gz _ h.symm;omega)).trans hz2
       have hw3:=(Cq hz3)
       have Hz:=Hj ((Mc.out.block _ hw3).trans hz3)
       have uM:=Hj hcs
       have HB:=Hj (aB hgB Gz)
       have HW:=Hj (aB hw1 (aB hw2 hw3))
       clear hcs hz1 hw1 hz2 hw2 hgB Gz hz3 hw3
       have HB1:Hid ((ay (sV x 8)).toArray.all (·.oneCell')=true):=by
        show _=true
        rw[yg]
        intro y hy
        exact fQ _ y (by simpa using hy)
       have HX:Hid (sV x 8=digest S):=by rw[Hx.out];exact Ti S
       obtain⟨cur,hcur⟩:∃cur,cur=(ay (sV x 8)).toArray:=⟨_,rfl⟩
       rw[←hcur] at sQ uM HB1
       have mF:=Hj hcur
       clear hcur
       go_wp2_with (first
        | (refine wpList_load_row rfl 297 (.tmp 7) rfl w2.heap.size rfl 297 cur (0,0) _ sQ.out Tryz.underlying297 rfl (by rw[uM.out];exact jK) ?_)
        | (refine wpList_store_row rfl 297 (.tmp 2) (.tmp 84) rfl w.heap.size cur rfl rfl 297 _ Hz.out (by rw[uM.out];exact jK) (by rw[uM.out];simp) HB1.out ?_)
        | fail)
       have hSum:S=(blocks K s (rest++wL rest.length cnt)).1:=by
        rw[←HS.out,HL.out,Hr.out]
        simp only[wL]
        rw[fO (by simp[cZ])]
       have hsz:w.heap.size≤wr.heap.size:=by have:=HW.out.2.2;have:=Mc.out.size;omega
       refine bg (results_cell_row rfl _ _ w.heap.size 297 cur (0,0) _ rfl (setRow_heap _ _ _ _ _ _ Hz.out) Tryz.underlying297 rfl (by rw[uM.out];exact jK)) rfl ⟨by rw[mF.out,HX.out,hSum],?_⟩
       have hb1:Bw w w1:=((aj _ w).alloc Kv _).trans (qB.out.mono (by simp))
       have hb2:Bw w wr:=((hb1.trans (qF.out.mono hb1.size)).trans (Wi.out.below (Cz hb1.size qF.out.size) fun i hi hs=>by
        rcases hs with h | h
        ·have:=HB.out.1;omega
        ·have:=HB.out.2 _ h.symm;omega)).trans (Mc.out.mono (by have:=HW.out.2.2;omega))
       exact⟨hb2.os,hb2.tape,hb2.output,by simpa [World.setRow] using hb2.size,fun i hi=>(setRow_other _ _ _ _ (by omega)).trans (hb2.block i hi)⟩
/-- The hash of these bytes. -/
def zn (K:Nat→UInt32) (s0:W8) (l:List UInt8):List UInt8:=digest (blocks K s0 (l++wL l.length l.length)).1
theorem qG (K:Nat→UInt32) (s0:W8) (l:List UInt8):(zn K s0 l).length=32:=AQ _
theorem JH (K:Nat→UInt32) (s0:W8) (l:List UInt8) (n:Nat):wL (blocks K s0 l).2.length n=wL l.length n:=by
 have h:=(mY K l.length s0 l Kv).2
 unfold wL pR
 rw[h]
 have e:(l.length % 64+9) % 64=(l.length+9) % 64:=by omega
 rw[e]
theorem JI {K:Nat→UInt32} {s0:W8} (l:List UInt8):digest (blocks K (blocks K s0 l).1 ((blocks K s0 l).2++wL (blocks K s0 l).2.length l.length)).1=zn K s0 l:=by
 rw[nN K l.length s0 l _ Kv,JH]
 rfl
/-- A sum of a hash of all these bytes. -/
theorem JJ (g B:Nat) (ro:Option Nat) (K:Nat→UInt32) (s0:W8) (all:List UInt8) (w:World) (hh:vJ w B g ro K s0 all) (hK:jM w K) (XR:30<w.heap.size) (hlen:all.length≤549755813888):
  Cl 268 #[pt g] w fun e w'=>e=.returned (.agg (ay (zn K s0 all)).toArray)∧Bw w w':=by
 have hr:=mY K all.length s0 all Kv
 refine(Hf g B all.length ro K _ _ w hh hK XR (by omega) hlen).mono ?_
 rintro e w' ⟨rfl,h⟩
 exact⟨by rw[JI],h⟩
/-- A write into it. -/
theorem Tm (g n c B:Nat) (A:Option Addr) (ro:Option Nat) (K:Nat→UInt32) (s0:W8) (all b:List UInt8) (w:World) (hh:vJ w B g ro K s0 all) (hb:RB w A n b) (hK:jM w K)
  (XR:30<B) (hlen:all.length+b.length≤1099511627776):
  Cl 267 #[pt g,.slice A n c] w fun e w'=>e=.returned (.tuple #[])∧Fr (fun k=>k=g∨some k=ro) w w'∧
   ∃ro',vJ w' B g ro' K s0 (all++b)∧(ro'=ro∨∃k,ro'=some k∧w.heap.size≤k):=by
 have hr:=mY K all.length s0 all Kv
 refine(CJ g n c B A ro K _ _ b all.length w hh hb hK XR (by omega) hlen).mono ?_
 rintro e w' ⟨rfl,h,ro',h2,h3⟩
 refine⟨rfl,h,ro',?_,h3⟩
 unfold vJ
 rw[←nN K all.length s0 all b Kv,bP]
 exact h2
theorem qQ (ls:List (List UInt8)) (k:Nat) (h:k<ls.length):(ls.take (k+1)).flatten=(ls.take k).flatten++ls.getD k []:=by
 rw[mO h,List.flatten_append,nG,fJ h]
 simp
theorem uG (ls:List (List UInt8)) (k:Nat):(ls.take k).flatten.length≤ls.flatten.length:=by
 have h:=bJ List.length (bJ List.flatten (rE k ls))
 rw[List.flatten_append,bP] at h
 omega
theorem Wj (A:Option Addr) (n c:Nat) (ls:List (List UInt8)) (K:Nat→UInt32) (s0:W8) (w:World) (hl:EO w A n ls) (hK:jM w K) (hF:ji w s0) (XR:30<w.heap.size)
  (hn:n≤maxLen) (hlen:ls.flatten.length≤549755813888):
  Cl 232 #[.slice A n c] w fun e w'=>e=.returned (.agg (ay (zn K s0 ls.flatten)).toArray)∧Bw w w':=by
 have Hl:=Hj hl
 have HK:=Hj hK
 have HF:=Hj hF
 clear hl hK hF
 unfold maxLen at hn
 have Hlen:Hid (∀k,(ls.take k).flatten.length≤549755813888):=fun k=>Cz (uG ls k) hlen
 go_enter Tryz.func232,Tryz.ntmps232
 have ka:∀o,Keeps w (w.alloc o):=fun o=>Kz ((aj _ w).alloc Kv o)
 go_wp2_with (first
  | (go_at_call 266;refine(V9 _ s0 K (HF.out.keep (ka _))).mono ?_;rintro e w1 ⟨rfl,hh1,eP⟩;rw[show ∀o,(w.alloc o).heap.size=w.heap.size+1 from fun o=>by simp] at hh1;have Hh1:=Hj hh1;have qB:=Hj eP;clear hh1 eP)
  | fail)
 have Oo:Bw w w1:=((aj _ w).alloc Kv _).trans (qB.out.mono (by simp))
 have Hbw1:=Hj Oo
 have Hz1:=Hj ((qB.out.block w.heap.size (by simp)).trans (aA w _))
 have hs1:w.heap.size+1≤w1.heap.size:=by have:=qB.out.size;simpa using this
 have Hs1:=Hj hs1
 clear Oo hs1
 have AP:=Hj Hl.out.1
 go_loopg [9] n (fun k s9 wr=>∃(i:Nat) (ro:Option Nat),s9=.int .i64 (i:Int)∧i+k=n∧vJ wr (w.heap.size+1) (w.heap.size+1) ro K s0 (ls.take i).flatten∧Below (w.heap.size+1) w1 wr)
 case atStart=>
  refine⟨0,none,rfl,by omega,?_,aj _ _⟩
  exact Hh1.out
 case round=>
  obtain⟨i,ro,rfl,hik,hh,hbel⟩:=hrel
  have Hh:=Hj hh
  have dN:=Hj hbel
  have Hbw:=Hj (Hbw1.out.trans (hbel.mono (Nat.le_succ _)))
  clear hh hbel
  have Hkw:=Hj (Kz Hbw.out)
  by_cases hi:i<n
  ·obtain ⟨b,o,hA,hb⟩:=Hl.out.2 (by omega)
   obtain⟨v,c1,A',c',hv,hc1,hc2,hrb⟩:=hb i hi
   subst hv
   have c2:=Hkw.out _ _ c1
   have Wh:=Hj (hrb.keep Hkw.out)
   subst hA
   clear hb c1 hrb
   have i0:(0:Int)≤(i:Int):=by omega
   have i1:(i:Int)<(n:Int):=by omega
   generalize hx:ls.getD i []=x at*
   have Hx:=Hj hx
   clear hx
   go_wp2_with (first
    | (go_at_call 267;refine(Tm (w.heap.size+1) _ c' (w.heap.size+1) A' ro K s0 _ x wr Hh.out Wh.out (HK.out.keep Hkw.out) (Nat.lt_succ_of_lt XR) ?_).mono ?_;rotate_left;rintro e w2 ⟨rfl,hfr2,ro2,hh2,Tj⟩;have Wi:=Hj hfr2;have Hh2:=Hj hh2;have Hro2:=Hj Tj;clear hfr2 hh2 Tj)
    | fail)
   case refine_1=>
    have:=Hlen.out (i+1)
    rw[qQ ls i (by rw[AP.out];exact hi),Hx.out,bP] at this
    omega
   go_roundg (gk-1)
   case measure=>omega
   case rel=>
    refine⟨i+1,ro2,by go_num,by omega,?_,dN.out.trans (Wi.out.below (Cz Hs1.out dN.out.size) fun j _ hs=> ?_)⟩
    ·rw [qQ ls i (by rw[AP.out];exact hi),Hx.out]
     exact Hh2.out
    ·rcases hs with h | h
     ·omega
     ·exact (Hh.out.rlt _ h.symm).1
  ·obtain rfl:i=n:=by omega
   have hall:(ls.take i).flatten=ls.flatten:=by rw[fO (by rw[AP.out];exact bZ _)]
   rw[hall] at Hh
   have Hz:=Hj ((dN.out.block w.heap.size (Nat.lt_succ_self _)).trans Hz1.out)
   have HB1:Hid ((ay (zn K s0 ls.flatten)).toArray.all (·.oneCell')=true):=by
    show _=true
    rw[yg]
    intro y hy
    exact fQ _ y (by simpa using hy)
   have hcs:(ay (zn K s0 ls.flatten)).toArray.size=32:=by simp[ay,qG]
   obtain⟨cur,hcur⟩:∃cur,cur=(ay (zn K s0 ls.flatten)).toArray:=⟨_,rfl⟩
   rw[←hcur] at hcs HB1
   have mF:=Hj hcur
   have uM:=Hj hcs
   clear hcur hcs hall
   go_wp2_with (first
    | (go_at_call 268;refine(JJ (w.heap.size+1) (w.heap.size+1) ro K s0 ls.flatten wr Hh.out (HK.out.keep Hkw.out) (by have:=Hbw.out.size;omega) hlen).mono ?_;rintro e w3 ⟨rfl,pG⟩;rw[←mF.out];have qF:=Hj pG;have Hz3:=Hj ((pG.block w.heap.size (Cq Hz.out)).trans Hz.out);clear pG)
    | (refine wpList_store_row rfl 297 (.tmp 2) (.tmp 18) rfl w.heap.size cur rfl rfl 297 _ Hz3.out (by rw[uM.out];exact jK) (by rw[uM.out];simp) HB1.out ?_)
    | fail)
   refine bg (results_cell_row rfl _ _ w.heap.size 297 cur (0,0) _ rfl (setRow_heap _ _ _ _ _ _ Hz3.out) Tryz.underlying297 rfl (by rw[uM.out];exact jK)) rfl ⟨by rw[mF.out],?_⟩
   have hb2:Bw w w3:=Hbw.out.trans (qF.out.mono Hbw.out.size)
   exact⟨hb2.os,hb2.tape,hb2.output,by simpa [World.setRow] using hb2.size,fun i hi=>(setRow_other _ _ _ _ (by omega)).trans (hb2.block i hi)⟩
end Go.Proofs.YtdhbpajamlfacaaGreatDoor
