/- Layer 3 (tlv): tags, elements' bytes. -/
import Derived.Test.YtdhbpajamlfacaaGreatDoorWho
import Derived.Test.YtdhbpajamlfacaaGreatDoorSha
import Derived.Test.YtdhbpajamlfacaaGreatDoorRows
import Derived.Lib.LaidTab
import Derived.LaidMore
import Derived.Lib.SlBytesConst
set_option maxRecDepth 100000
namespace Go.Proofs.YtdhbpajamlfacaaGreatDoor
open Go.RowKit
set_option maxHeartbeats 1000000 in
theorem QC (g n c:Nat) (L:List Int) (x:Int) (w:World) (hn:L.length=n) (hn2:n≤100) (hx:x∈L) (hc:∀i,i<n→w.cell? ⟨g,i,none⟩=some (.int .i64 (L.getD i 0))):
  Calls Tryz.prog 251 #[.slice (some ⟨g,0,none⟩) n c,.int .i64 x] w fun e w'=>∃i:Nat,e=.returned (.int .i64 (i:Int))∧w=w':=by
 have HC:=Hj hc
 have HX:Hid (∃j,j<n∧L.getD j 0=x):=Hj (by
  obtain⟨j,hj,e⟩:=List.mem_iff_getElem.1 hx
  exact⟨j,by omega,by rw[List.getD_eq_getElem?_getD,List.getElem?_eq_getElem hj];exact e⟩)
 have HN2:=Hj hn2
 clear hc hx hn
 go_enter Tryz.func251,Tryz.ntmps251
 go_wp2
 go_loopg [8] n (fun gk s8 wr=>∃i:Nat,i+gk=n∧s8=.int .i64 (i:Int)∧(∀j,j<i→L.getD j 0≠x)∧wr=w)
 case atStart=>exact⟨0,by omega,rfl,fun j hj=>absurd hj (by omega),rfl⟩
 case round=>
  obtain⟨i,hi,rfl,hall,rfl⟩:=hrel
  have HI:=Hj hi
  have mW:=Hj hall
  by_cases hlt:i<n
  ·have ci:=HC.out i hlt
   obtain⟨y,hy⟩:∃y,y=L.getD i 0:=⟨_,rfl⟩
   rw[←hy] at ci
   have HY:=Hj hy
   have i0:(0:Int)≤(i:Int):=by omega
   have i1:(i:Int)<(n:Int):=by omega
   have i2:(n:Int)≤100:=by omega
   clear hi hall hlt hy
   by_cases he:x=y
   ·have q1:(x==y)=true:=by rw[he];simp
    clear he
    go_wp2
    go_ret
    exact⟨i,rfl,rfl⟩
   ·have q1:(x==y)=false:=beq_eq_false_iff_ne.2 he
    have HE:=Hj he
    clear he
    go_wp2
    go_roundg (gk-1)
    case measure=>have:=HI.out;omega
    case rel=>exact⟨i+1,by have:=HI.out;omega,by go_num,fun j hj=>by
     by_cases e:j=i
     ·subst e;rw[←HY.out];exact fun h=>HE.out h.symm
     ·exact mW.out j (by omega),rfl⟩
  ·obtain ⟨j,hj,e⟩:=HX.out
   exact absurd e (hall j (by omega))
theorem ET (g n c:Nat) (L:List Int) (x:Int) (w:World) (hn:L.length=n) (hn2:n≤100) (hx:x∈L) (hc:∀i,i<n→w.cell? ⟨g,i,none⟩=some (.int .i64 (L.getD i 0))):
  Calls Tryz.prog 213 #[.slice (some ⟨g,0,none⟩) n c,.int .i64 x] w fun e w'=>e=.returned (.bool true)∧w=w':=by
 have HI:=Hj (QC g n c L x w hn hn2 hx hc)
 clear hn hn2 hx hc
 go_enter Tryz.func213,Tryz.ntmps213
 go_wp2_with (go_at_call 251;((with_reducible refine HI.out.mono ?_);rintro e w1 ⟨i,rfl,rfl⟩;have i0:(0:Int)≤(i:Int):=(by omega)))
 go_ret
 exact⟨rfl,rfl⟩
def lS:List Int:=[1,2,3,4,5,6,10,12,24]
theorem LU (w:World):Calls Tryz.prog 214 #[] w fun e w'=>e=.returned (.slice (some ⟨w.heap.size,0,none⟩) 9 9)∧(∀i,i<9→w'.cell? ⟨w.heap.size,i,none⟩=some (.int .i64 (lS.getD i 0)))∧Below w.heap.size w w':=by
 go_enter Tryz.func214,Tryz.ntmps214
 go_wp2
 go_ret
 refine⟨rfl,fun i hi=> ?_,(Below.refl _ w).alloc Kv _⟩
 rw[cell_of_row _ _ _ _ _ _ (heap_alloc_new w _)]
 have:i=0∨i=1∨i=2∨i=3∨i=4∨i=5∨i=6∨i=7∨i=8:=by omega
 rcases this with rfl | rfl | rfl | rfl | rfl | rfl | rfl | rfl | rfl<;>rfl
theorem yT (w:World):Calls Tryz.prog 173 #[.int .i64 48] w fun e w'=>e=.returned (.bool true)∧w=w':=by
 go_enter Tryz.func173,Tryz.ntmps173
 go_wp2
 go_ret
 exact⟨rfl,rfl⟩
theorem Hy (x:Int) (w:World) (h:x∈lS):Calls Tryz.prog 173 #[.int .i64 x] w fun e w'=>e=.returned (.bool false)∧w=w':=by
 have hx:x<48∧0<x:=by simp[lS] at h;omega
 have q1:(x==48)=false:=beq_eq_false_iff_ne.2 (by omega)
 have q2:(x==49)=false:=beq_eq_false_iff_ne.2 (by omega)
 have q3:decide (x≥160)=false:=decide_eq_false (by omega)
 have q3':decide (160≤x)=false:=decide_eq_false (by omega)
 clear h hx
 go_enter Tryz.func173,Tryz.ntmps173
 go_wp2
 go_ret
 exact⟨rfl,rfl⟩
/-- A list's tag, or one of the plain ones. -/
def Tag (x:Int):Prop:=x=48∨x∈lS
theorem LV (x:Int) (w:World) (h:Tag x):Calls Tryz.prog 168 #[.int .i64 x] w fun e w'=>e=.returned (.bool true)∧Below w.heap.size w w':=by
 rcases h with rfl | h
 ·go_enter Tryz.func168,Tryz.ntmps168
  go_wp2_with (go_at_call 173;((with_reducible refine(yT w).mono ?_);rintro e w1 ⟨rfl,rfl⟩))
  go_ret
  exact⟨rfl,Below.refl _ _⟩
 ·have HM:=Hj (Hy x w h)
  have HC:=Hj (fun(W:World) (g:Nat) (hc:∀i,i<9→W.cell? ⟨g,i,none⟩=some (.int .i64 (lS.getD i 0)))=>ET g 9 9 lS x W rfl (by decide) h hc)
  clear h
  go_enter Tryz.func168,Tryz.ntmps168
  go_wp2_with (first
   | (go_at_call 173;((with_reducible refine HM.out.mono ?_);rintro e w1 ⟨rfl,rfl⟩))
   | (go_at_call 214;((with_reducible refine(LU w).mono ?_);rintro e w2 ⟨rfl,hc2,hb2⟩;have C2:=Hj hc2;have B2:=Hj hb2;clear hc2 hb2))
   | (go_at_call 213;((with_reducible refine(HC.out w2 w.heap.size C2.out).mono ?_);rintro e w3 ⟨rfl,rfl⟩))
   | fail)
  go_ret
  exact⟨rfl,B2.out⟩
def mY (r:Nat):Nat:=(64-(r+9) % 64) % 64
def bD (n:Nat):List UInt8:=(List.range 8).map fun i=>UInt8.ofNat (n / 2 ^ (8*(7-i)))
def uo (r cnt:Nat):List UInt8:=(128::List.replicate (mY r) 0)++bD (cnt*8)
def b4 (x:UInt32):List UInt8:=[(x>>>24).toUInt8,(x>>>16).toUInt8,(x>>>8).toUInt8,x.toUInt8]
def digest (s:W8):List UInt8:=s.list.flatMap b4
theorem yE (s:W8):(digest s).length=32:=by simp[digest,W8.list,b4]
theorem eH.below {w w':World} {B g:Nat} {ro:Option Nat} {s:W8} {rest:List UInt8} {n:Nat} (h:eH w B g ro s rest n) (hf:Below w.heap.size w w'):eH w' B g ro s rest n:=
 h.kept (Fr.of_below (S:=fun _=>False) hf) (fun x=>x) fun _ _ x=>x
/-- The bytes of the first k words, and noughts. -/
def qg (x:Nat→UInt32) (k:Nat):List UInt8:=(List.range 8).flatMap fun i=>if i<k then b4 (x i) else [0,0,0,0]
theorem uY {w:World} (cs:Array Value) (i:Int) (v:Value) (h0:0≤i) (hn:i<8) (hv:cs[i.toNat]?=some v):
  (Instr.index 348 (.agg cs) (.int .i64 i)).run Tryz.prog w=.ok v w:=by
 have h1:∀W,(sizeOf 318).run Tryz.prog W=.ok 1 W:=fun W=>by kernel_rfl
 have h2:∀W,(isAgg 318).run Tryz.prog W=.ok false W:=fun W=>by kernel_rfl
 simp[Instr.index,run_underlying (Tryz.underlying348),asIntOf,h0,hn,hv,h1,h2,go_sem]
theorem uq (x:Nat→UInt32) (k:Nat):(qg x k).length=32:=by
 simp only[qg,List.length_flatMap]
 have:∀i,(if i<k then b4 (x i) else [0,0,0,0]).length=4:=fun i=>by split<;>rfl
 simp only[this]
 rfl
theorem LC {w:World} {g:Nat} {x:Nat→UInt32} {k:Nat} {T:TypeId} (h:w.heap[g]?=some (.cells (au (qg x k)).toArray T (0,0))) (j:Nat) (hj:j<32):w.cell? ⟨g,j,none⟩=some (.int .u8 (((qg x k).getD j 0).toNat:Int)):=by
 rw[cell_of_row _ _ _ _ _ _ h]
 have:=uq x k
 simp[au,this,hj]
theorem Qx (x:UInt32):au (b4 x)=[Value.int .u8 ((x.toNat:Int) / 16777216 % 256),Value.int .u8 ((x.toNat:Int) / 65536 % 256),Value.int .u8 ((x.toNat:Int) / 256 % 256),Value.int .u8 ((x.toNat:Int) % 256)]:=by
 simp[au,b4,Nat.shiftRight_eq_div_pow]
theorem LH (x:Nat→UInt32) (i:Nat) (hi:i<8) (v0 v1 v2 v3:Value) (hb:au (b4 (x i))=[v0,v1,v2,v3]):
  ((((au (qg x i)).set (4*i) v0).set (4*i+1) v1).set (4*i+2) v2).set (4*i+3) v3=au (qg x (i+1)):=by
 simp only[b4,au,List.map_cons,List.map_nil] at hb
 injection hb with e0 hb
 injection hb with e1 hb
 injection hb with e2 hb
 injection hb with e3 hb
 subst e0;subst e1;subst e2;subst e3
 have hcases:i=0∨i=1∨i=2∨i=3∨i=4∨i=5∨i=6∨i=7:=by omega
 rcases hcases with rfl | rfl | rfl | rfl | rfl | rfl | rfl | rfl<;>rfl
theorem LJ {w:World} {g:Nat} {x:Nat→UInt32} {i:Nat} {T:TypeId} (h:w.heap[g]?=some (.cells (au (qg x i)).toArray T (0,0))) (hi:i<8):
  ((((w.setCell ⟨g,4*i,none⟩ (.int .u8 (((x i).toNat:Int) / 16777216 % 256))).setCell ⟨g,4*i+1,none⟩ (.int .u8 (((x i).toNat:Int) / 65536 % 256))).setCell ⟨g,4*i+2,none⟩ (.int .u8 (((x i).toNat:Int) / 256 % 256))).setCell ⟨g,4*i+3,none⟩ (.int .u8 (((x i).toNat:Int) % 256))).heap[g]?=
   some (.cells (au (qg x (i+1))).toArray T (0,0)):=by
 have hb:=Qx (x i)
 generalize Value.int .u8 (((x i).toNat:Int) / 16777216 % 256)=v0 at*
 generalize Value.int .u8 (((x i).toNat:Int) / 65536 % 256)=v1 at*
 generalize Value.int .u8 (((x i).toNat:Int) / 256 % 256)=v2 at*
 generalize Value.int .u8 (((x i).toNat:Int) % 256)=v3 at*
 rw[heap_setCell_same _ _ _ _ _ _ (heap_setCell_same _ _ _ _ _ _ (heap_setCell_same _ _ _ _ _ _ (heap_setCell_same _ _ _ _ _ _ h)))]
 refine congrArg (fun a=>some (Obj.cells a T (0,0))) ?_
 simp only[List.setIfInBounds_toArray]
 exact congrArg List.toArray (LH x i hi v0 v1 v2 v3 hb)
theorem Qy (S:W8):qg (fun i=>S.list[i]?.getD 0) 8=digest S:=by rfl
theorem iL:(Tryz.prog.info? 297).map (·.size)=some 32:=by kernel_rfl
theorem nP (n i:Nat) (h:i<8):(bD n).getD i 0=UInt8.ofNat (n / 2 ^ (8*(7-i))):=by simp[bD,h]
theorem oQ (n i:Nat) (h:i<8):(bD n).take (i+1)=(bD n).take i++[UInt8.ofNat (n / 2 ^ (8*(7-i)))]:=by
 have hl:(bD n).length=8:=by simp[bD]
 rw[←nP n i h,List.take_succ_eq_append_getElem (by omega),List.getD_eq_getElem?_getD,List.getElem?_eq_getElem (by omega)]
 rfl
theorem lY (n i:Nat):au [UInt8.ofNat (n / 2 ^ (8*(7-i)))]=[Value.int .u8 ((n:Int) / 2 ^ (8*(7-i)) % 256)]:=by
 simp[au]
theorem EO (r j:Nat) (hr:r≤549755813888) (hj:j≤mY r):((wrap64 (wrap64 ((r:Int)+((j:Int)+1))+8)).tmod 64 !=0)=decide (j<mY r):=by
 unfold mY at*
 have e1:wrap64 ((r:Int)+((j:Int)+1))=(r:Int)+((j:Int)+1):=IntWalk.wrap64_in _ (by omega)
 have e2:wrap64 ((r:Int)+((j:Int)+1)+8)=(r:Int)+((j:Int)+1)+8:=IntWalk.wrap64_in _ (by omega)
 rw[e1,e2,Int.tmod_eq_emod_of_nonneg (by omega)]
 by_cases h:j<(64-(r+9) % 64) % 64
 ·rw [decide_eq_true h]
  simp
  omega
 ·rw [decide_eq_false h]
  simp
  omega
set_option maxHeartbeats 1000000 in
theorem EP (g B cnt:Nat) (ro:Option Nat) (K:Nat→UInt32) (s:W8) (rest:List UInt8) (w:World) (hh:eH w B g ro s rest cnt) (hK:iO w K) (Vx:30<w.heap.size)
  (hlen:rest.length≤549755813888) (hcnt:cnt≤549755813888):
  Calls Tryz.prog 268 #[.pointer (some ⟨g,0,none⟩)] w fun e w'=>e=.returned (.agg (au (digest (blocks K s (rest++uo rest.length cnt)).1)).toArray)∧Below w.heap.size w w':=by
 have Hh:=Hj hh
 have HK:=Hj hK
 clear hh hK
 obtain⟨r,hr⟩:∃r,rest.length=r:=⟨_,rfl⟩
 have Hr:=Hj hr
 rw[hr] at hlen
 clear hr
 go_enter Tryz.func268,Tryz.ntmps268
 go_wp2_with (first
  | (go_at_call 284;refine(Qw g B cnt ro s rest _ (Hh.out.below ((Below.refl _ w).alloc Kv _)) (by rw[Hr.out];omega)).mono ?_;rintro e w1 ⟨g1,ro1,rfl,hh1,dL⟩)
  | fail)
 obtain⟨hlow1,rv1,hc1,hown1,hro1⟩:=hh1
 obtain⟨A1,cap1,hv1,_,_,hrb1⟩:=hown1.form
 subst hv1
 rw[Hr.out] at hc1
 have hg1:=(Cq hc1)
 have ZW:=Hj (show eH w1 (w.alloc (.cells (Array.replicate 32 (.int .u8 0)) 297)).heap.size g1 ro1 s rest cnt from ⟨hlow1,_,by rw[Hr.out];exact hc1,hown1,hro1⟩)
 have Hc1:=Hj hc1
 have nO:=Hj dL
 clear hc1 hown1 hrb1 dL
 have Vz:Hid (iO w1 K):=HK.out.keep (Keeps.trans (Kz ((Below.refl _ w).alloc Kv _)) (Kz nO.out))
 go_loopg [4] (mY r) (fun k s4 wr=>∃A cap j,s4=.slice A (j+1) cap∧OB wr w1.heap.size (.slice A (j+1) cap) (128::List.replicate j 0)∧j+k=mY r∧Below w1.heap.size w1 wr)
 case atStart=>
  refine⟨_,_,0,rfl,?_,by omega,(Below.refl _ w1).alloc Kv _⟩
  exact OB.lit w1 w1.heap.size Kv [128] 1 rfl (by decide)
 case round=>
  obtain⟨A,cap,j,rfl,hown,hjk,hbel⟩:=hrel
  have c8:=(lZ ((hbel.block g1 hg1).trans Hc1.out)).1
  have c9:=(lZ ((hbel.block g1 hg1).trans Hc1.out)).2.1
  have cZ:=Hj hown
  have bV:=Hj hbel
  clear hown hbel
  by_cases hj:j<mY r
  ·have ht:((wrap64 (wrap64 ((r:Int)+((j:Int)+1))+8)).tmod 64 !=0)=true:=by rw[EO r j hlen (Nat.le_of_lt hj)];exact decide_eq_true hj
   go_wp2_with (first
    | (at_builtin;refine aA rfl (.tmp 24) (.tmp 25) 35 rfl (OB.alloc cZ.out _) rfl (Src.lit wr _ [0] rfl 1 1 rfl) rfl ?_ ?_ ?_;rotate_right;intro v2 w2 hown2 bZ jc;obtain⟨A2,cap2,hv2,hc2,hm2,hr2⟩:=hown2.form;subst hv2)
    | fail)
   case refine_1=>unfold mY at hj;simp;omega
   case refine_2=>have:=bV.out.size;simp;omega
   go_roundg (gk-1)
   case measure=>omega
   case rel=>
    have hl:(128::List.replicate j (0:UInt8))++[0]=128::List.replicate (j+1) 0:=by rw[List.replicate_succ',List.cons_append]
    rw[hl] at hown2
    rw[show (128::List.replicate (j+1) (0:UInt8)).length=j+1+1 by simp] at hown2
    exact⟨A2,cap2,j+1,rfl,hown2,by omega,aS (bV.out.alloc bV.out.size _) bZ (cZ.out.alloc _) Kv (by have:=bV.out.size;simp;omega)⟩
  ·have ht:((wrap64 (wrap64 ((r:Int)+((j:Int)+1))+8)).tmod 64 !=0)=false:=by rw[EO r j hlen (by omega)];exact decide_eq_false hj
   obtain rfl:j=mY r:=by omega
   have h8:IntKind.u64.wrap ((cnt:Int)*8)=(cnt:Int)*8:=by rw[IntWalk.u64_in _ (by omega)]
   go_wp2
   clear ht
   obtain⟨L,hL⟩:∃L:Nat→List UInt8,L=fun i=>(128::List.replicate (mY r) 0)++(bD (cnt*8)).take i:=⟨_,rfl⟩
   have HL:=Hj hL
   have HLen:Hid (∀i,i≤8→(L i).length=mY r+1+i):=by intro i hi;rw[HL.out];simp[bD];omega
   clear hL
   go_loopg [4,33] 8 (fun k s4 s33 wr=>∃A cap i,s4=.slice A (mY r+1+i) cap∧s33=.int .i64 (i:Int)∧OB wr w1.heap.size (.slice A (mY r+1+i) cap) (L i)∧i+k=8∧Below w1.heap.size w1 wr)
   case atStart=>exact⟨A,cap,0,rfl,rfl,by rw[HL.out];simpa using cZ.out,by omega,bV.out⟩
   case round=>
    obtain⟨A',cap',i,rfl,rfl,hown,hik,hbel⟩:=hrel
    have zD:=Hj hown
    have nS:=Hj hbel
    clear hown hbel c8 c9
    by_cases hi:i<8
    ·have m1:IntKind.i64.wrap (7-(i:Int))=7-(i:Int):=IntWalk.i64_in _ (by omega)
     have m2:IntKind.i64.wrap (8*(7-(i:Int)))=8*(7-(i:Int)):=IntWalk.i64_in _ (by omega)
     have n0:(0:Int)≤8*(7-(i:Int)):=by omega
     have n1:8*(7-(i:Int))<64:=by omega
     have hlb:=Hj (lY (cnt*8) i)
     go_wp2_with (first
      | (at_builtin;refine aA rfl (.tmp 36) (.tmp 43) 35 rfl (OB.alloc zD.out _) rfl (Src.lit wr _ [UInt8.ofNat (cnt*8 / 2 ^ (8*(7-i)))] ?_ 1 1 rfl) rfl ?_ ?_ ?_;rotate_right;intro v2 w2 hown2 bZ jc;rw[show L i++[UInt8.ofNat (cnt*8 / 2 ^ (8*(7-i)))]=L (i+1) by rw[HL.out];simp only[];rw[oQ _ _ hi,List.append_assoc]] at hown2;obtain⟨A2,cap2,hv2,hc2,hm2,hr2⟩:=hown2.form;rw[HLen.out _ (by omega)] at hv2;subst hv2)
      | fail)
     case refine_1=>rw[lY];simp
     case refine_2=>rw[HLen.out i (by omega)];unfold mY;simp;omega
     case refine_3=>have:=nS.out.size;simp;omega
     go_roundg (gk-1)
     case measure=>omega
     case rel=>exact⟨A2,cap2,i+1,rfl,by go_num,hown2,by omega,aS (nS.out.alloc nS.out.size _) bZ (zD.out.alloc _) Kv (by have:=nS.out.size;simp;omega)⟩
    ·obtain rfl:i=8:=by omega
     have hrb:RB wr A' (mY r+1+8) (L 8):=by
      obtain⟨A3,cap3,hv3,_,_,ZX⟩:=zD.out.form
      injection hv3 with e1 e2 e3
      subst e1
      rw[HLen.out 8 (by omega)] at ZX
      exact ZX
     have Ug:=Hj hrb
     have Hh3:=Hj (ZW.out.below nS.out)
     have V3:Hid (iO wr K):=Vz.out.keep (Kz nS.out)
     have hLl:=HLen.out 8 (by omega)
     have hz9:mY r≤64:=by unfold mY;omega
     clear hrb
     go_wp2_with (first
      | (go_at_call 267;refine(zH g1 _ cap' _ A' ro1 K s rest (L 8) cnt wr Hh3.out Ug.out V3.out (by simp;omega) (by rw[Hr.out,hLl];omega) (by rw[hLl];omega)).mono ?_;rintro e w2 ⟨rfl,hfr2,ro2,hh2,Qz⟩;generalize hS:(blocks K s (rest++L 8)).1=S at*;have HS:=Hj hS;clear hS;have Uh:=Hj hfr2;have Hh2:=Hj hh2;have Hro2:=Hj Qz;obtain⟨hlow2,rv2,hc2,hown2,hrv2⟩:=hh2;clear hfr2 Qz hown2 hrv2 hlow2;have hc3:∀o,(w2.alloc o).heap[g1]?=_:=fun o=>(Below.heap_alloc w2 o g1 (Cq hc2)).trans hc2;have c0:=fun o=>gJ (hc3 o) 0 (by omega);have c1:=fun o=>gJ (hc3 o) 1 (by omega);have c2:=fun o=>gJ (hc3 o) 2 (by omega);have c3:=fun o=>gJ (hc3 o) 3 (by omega);have c4:=fun o=>gJ (hc3 o) 4 (by omega);have c5:=fun o=>gJ (hc3 o) 5 (by omega);have c6:=fun o=>gJ (hc3 o) 6 (by omega);have c7:=fun o=>gJ (hc3 o) 7 (by omega);clear hc2 hc3)
      | fail)
     obtain⟨x,hx⟩:∃x:Nat→UInt32,x=fun i=>S.list[i]?.getD 0:=⟨_,rfl⟩
     have Hx:=Hj hx
     rw[show S.list[0]?.getD 0=x 0 by rw[hx],show S.list[1]?.getD 0=x 1 by rw[hx],show S.list[2]?.getD 0=x 2 by rw[hx],show S.list[3]?.getD 0=x 3 by rw[hx],show S.list[4]?.getD 0=x 4 by rw[hx],show S.list[5]?.getD 0=x 5 by rw[hx],show S.list[6]?.getD 0=x 6 by rw[hx],show S.list[7]?.getD 0=x 7 by rw[hx]]
     obtain⟨arr,harr⟩:∃arr:Array Value,arr=#[Value.int .u32 ((x 0).toNat:Int),Value.int .u32 ((x 1).toNat:Int),Value.int .u32 ((x 2).toNat:Int),Value.int .u32 ((x 3).toNat:Int),Value.int .u32 ((x 4).toNat:Int),Value.int .u32 ((x 5).toNat:Int),Value.int .u32 ((x 6).toNat:Int),Value.int .u32 ((x 7).toNat:Int)]:=⟨_,rfl⟩
     rw[←harr]
     have Xr:Hid (∀i:Nat,i<8→arr[i]?=some (Value.int .u32 ((x i).toNat:Int))):=by
      intro i hi
      have hcases:i=0∨i=1∨i=2∨i=3∨i=4∨i=5∨i=6∨i=7:=by omega
      rcases hcases with rfl | rfl | rfl | rfl | rfl | rfl | rfl | rfl<;>rw[harr]<;>rfl
     clear harr hx c0 c1 c2 c3 c4 c5 c6 c7
     go_loopg [53] 8 (fun k s53 wr=>∃i:Nat,s53=.int .i64 (i:Int)∧i+k=8∧Below w2.heap.size w2 wr∧wr.heap[w2.heap.size]?=some (.cells (au (qg x i)).toArray 297 (0,0)))
     case atStart=>exact⟨0,rfl,by omega,(Below.refl _ w2).alloc Kv _,heap_alloc_new w2 _⟩
     case round=>
      obtain⟨i,rfl,hik,hbel,hcur⟩:=hrel
      have Jk:=Hj hbel
      have pW:=Hj hcur
      clear hbel hcur
      by_cases hi:i<8
      ·have hcell:∀j,(hj:j<32)→wr.cell? ⟨w2.heap.size,j,none⟩=some (.int .u8 (((qg x i).getD j 0).toNat:Int)):=fun j hj=>LC pW.out j hj
       have k0:=hcell (4*i) (by omega)
       have k1:=hcell (4*i+1) (by omega)
       have k2:=hcell (4*i+2) (by omega)
       have k3:=hcell (4*i+3) (by omega)
       have hfz:∀j,wr.frozen? ⟨w2.heap.size,j,none⟩=false:=fun j=>Kj pW.out
       clear hcell
       have hix:∀W,(Instr.index 348 (.agg arr) (.int .i64 (i:Int))).run Tryz.prog W=.ok (.int .u32 ((x i).toNat:Int)) W:=fun W=>uY arr _ _ (by omega) (by omega) (Xr.out i hi)
       go_wp2_with fail
       go_roundg (gk-1)
       case measure=>omega
       case rel=>
        refine⟨i+1,by go_num,by omega,(((Jk.out.setCell (by simp) _).setCell (by simp) _).setCell (by simp) _).setCell (by simp) _,?_⟩
        exact LJ pW.out hi
      ·obtain rfl:i=8:=by omega
       have hcs:(au (qg x 8)).toArray.size=32:=by simp[au,uq]
       have hz1:w1.heap[w.heap.size]?=some (.cells (Array.replicate 32 (.int .u8 0)) 297 (0,0)):=(nO.out.block _ (by simp)).trans (heap_alloc_new w _)
       have hw1:=(Cq hz1)
       have hz2:=(nS.out.block _ hw1).trans hz1
       have hw2:=(Cq hz2)
       have hgB:w.heap.size<g1:=by have:=ZW.out.low;simp at this;omega
       have PS:∀k,ro1=some k→w.heap.size<k:=fun k hk=>by have:=(ZW.out.rlt k hk).1;simp at this;omega
       have hz3:=(Uh.out.block _ hw2 (by rintro(h | h);omega;have:=PS _ h.symm;omega)).trans hz2
       have hw3:=(Cq hz3)
       have Hz:=Hj ((Jk.out.block _ hw3).trans hz3)
       have rJ:=Hj hcs
       have HB:=Hj (And.intro hgB PS)
       have HW:=Hj (And.intro hw1 (And.intro hw2 hw3))
       clear hcs hz1 hw1 hz2 hw2 hgB PS hz3 hw3
       have HB1:Hid ((au (qg x 8)).toArray.all (·.oneCell')=true):=by
        show _=true
        rw[Array.all_eq_true_iff_forall_mem]
        intro y hy
        exact dY _ y (by simpa using hy)
       have HX:Hid (qg x 8=digest S):=by rw[Hx.out];exact Qy S
       obtain⟨cur,hcur⟩:∃cur,cur=(au (qg x 8)).toArray:=⟨_,rfl⟩
       rw[←hcur] at pW rJ HB1
       have jY:=Hj hcur
       clear hcur
       go_wp2_with (first
        | (refine wpList_load_row rfl 297 (.tmp 7) rfl w2.heap.size rfl 297 cur (0,0) _ pW.out Tryz.underlying297 rfl (by rw[rJ.out];exact iL) ?_)
        | (refine wpList_store_row rfl 297 (.tmp 2) (.tmp 84) rfl w.heap.size cur rfl rfl 297 _ Hz.out (by rw[rJ.out];exact iL) (by rw[rJ.out];simp) HB1.out ?_)
        | fail)
       have hSum:S=(blocks K s (rest++uo rest.length cnt)).1:=by
        rw[←HS.out,HL.out,Hr.out]
        simp only[uo]
        rw[List.take_of_length_le (by simp[bD])]
       have hsz:w.heap.size≤wr.heap.size:=by have:=HW.out.2.2;have:=Jk.out.size;omega
       refine bodyPost_ret (results_cell_row rfl _ _ w.heap.size 297 cur (0,0) _ rfl (setRow_heap _ _ _ _ _ _ Hz.out) Tryz.underlying297 rfl (by rw[rJ.out];exact iL)) rfl ⟨by rw[jY.out,HX.out,hSum],?_⟩
       have hb1:Below w.heap.size w w1:=((Below.refl _ w).alloc Kv _).trans (nO.out.mono (by simp))
       have hb2:Below w.heap.size w wr:=((hb1.trans (nS.out.mono hb1.size)).trans (Uh.out.below (Cz hb1.size nS.out.size) fun i hi hs=>by
        rcases hs with h | h
        ·have:=HB.out.1;omega
        ·have:=HB.out.2 _ h.symm;omega)).trans (Jk.out.mono (by have:=HW.out.2.2;omega))
       exact⟨hb2.os,hb2.tape,hb2.output,by simpa [World.setRow] using hb2.size,fun i hi=>(setRow_other _ _ _ _ (by omega)).trans (hb2.block i hi)⟩
/-- The hash of these bytes. -/
def wZ (K:Nat→UInt32) (s0:W8) (l:List UInt8):List UInt8:=digest (blocks K s0 (l++uo l.length l.length)).1
theorem nT (K:Nat→UInt32) (s0:W8) (l:List UInt8):(wZ K s0 l).length=32:=yE _
theorem G8 (K:Nat→UInt32) (s0:W8) (l:List UInt8) (n:Nat):uo (blocks K s0 l).2.length n=uo l.length n:=by
 have h:=(kF K l.length s0 l Kv).2
 unfold uo mY
 rw[h]
 have e:(l.length % 64+9) % 64=(l.length+9) % 64:=by omega
 rw[e]
theorem G9 {K:Nat→UInt32} {s0:W8} (l:List UInt8):digest (blocks K (blocks K s0 l).1 ((blocks K s0 l).2++uo (blocks K s0 l).2.length l.length)).1=wZ K s0 l:=by
 rw[kS K l.length s0 l _ Kv,G8]
 rfl
/-- A sum of a hash of all these bytes. -/
theorem Hf (g B:Nat) (ro:Option Nat) (K:Nat→UInt32) (s0:W8) (all:List UInt8) (w:World) (hh:sU w B g ro K s0 all) (hK:iO w K) (Vx:30<w.heap.size) (hlen:all.length≤549755813888):
  Calls Tryz.prog 268 #[.pointer (some ⟨g,0,none⟩)] w fun e w'=>e=.returned (.agg (au (wZ K s0 all)).toArray)∧Below w.heap.size w w':=by
 have hr:=kF K all.length s0 all Kv
 refine(EP g B all.length ro K _ _ w hh hK Vx (by omega) hlen).mono ?_
 rintro e w' ⟨rfl,h⟩
 exact⟨by rw[G9],h⟩
/-- A write into it. -/
theorem QA (g n c B:Nat) (A:Option Addr) (ro:Option Nat) (K:Nat→UInt32) (s0:W8) (all b:List UInt8) (w:World) (hh:sU w B g ro K s0 all) (hb:RB w A n b) (hK:iO w K)
  (Vx:30<B) (hlen:all.length+b.length≤1099511627776):
  Calls Tryz.prog 267 #[.pointer (some ⟨g,0,none⟩),.slice A n c] w fun e w'=>e=.returned (.tuple #[])∧Fr (fun k=>k=g∨some k=ro) w w'∧
   ∃ro',sU w' B g ro' K s0 (all++b)∧(ro'=ro∨∃k,ro'=some k∧w.heap.size≤k):=by
 have hr:=kF K all.length s0 all Kv
 refine(zH g n c B A ro K _ _ b all.length w hh hb hK Vx (by omega) hlen).mono ?_
 rintro e w' ⟨rfl,h,ro',h2,h3⟩
 refine⟨rfl,h,ro',?_,h3⟩
 unfold sU
 rw[←kS K all.length s0 all b Kv,List.length_append]
 exact h2
theorem oz (ls:List (List UInt8)) (k:Nat) (h:k<ls.length):(ls.take (k+1)).flatten=(ls.take k).flatten++ls.getD k []:=by
 rw[List.take_succ_eq_append_getElem h,List.flatten_append,List.getD_eq_getElem?_getD,List.getElem?_eq_getElem h]
 simp
theorem qZ (ls:List (List UInt8)) (k:Nat):(ls.take k).flatten.length≤ls.flatten.length:=by
 have h:=congrArg List.length (congrArg List.flatten (List.take_append_drop k ls))
 rw[List.flatten_append,List.length_append] at h
 omega
set_option maxHeartbeats 1000000 in
theorem Ui (A:Option Addr) (n c:Nat) (ls:List (List UInt8)) (K:Nat→UInt32) (s0:W8) (w:World) (hl:CJ w A n ls) (hK:iO w K) (hF:ig w s0) (Vx:30<w.heap.size)
  (hn:n≤maxLen) (hlen:ls.flatten.length≤549755813888):
  Calls Tryz.prog 232 #[.slice A n c] w fun e w'=>e=.returned (.agg (au (wZ K s0 ls.flatten)).toArray)∧Below w.heap.size w w':=by
 have Hl:=Hj hl
 have HK:=Hj hK
 have HF:=Hj hF
 clear hl hK hF
 unfold maxLen at hn
 have Hlen:Hid (∀k,(ls.take k).flatten.length≤549755813888):=fun k=>Cz (qZ ls k) hlen
 go_enter Tryz.func232,Tryz.ntmps232
 have ka:∀o,Keeps w (w.alloc o):=fun o=>Kz ((Below.refl _ w).alloc Kv o)
 go_wp2_with (first
  | (go_at_call 266;refine(Uf _ s0 K (HF.out.keep (ka _))).mono ?_;rintro e w1 ⟨rfl,hh1,dL⟩;rw[show ∀o,(w.alloc o).heap.size=w.heap.size+1 from fun o=>by simp] at hh1;have ZW:=Hj hh1;have nO:=Hj dL;clear hh1 dL)
  | fail)
 have Lu:Below w.heap.size w w1:=((Below.refl _ w).alloc Kv _).trans (nO.out.mono (by simp))
 have Hbw1:=Hj Lu
 have Hz1:=Hj ((nO.out.block w.heap.size (by simp)).trans (heap_alloc_new w _))
 have hs1:w.heap.size+1≤w1.heap.size:=by have:=nO.out.size;simpa using this
 have Hs1:=Hj hs1
 clear Lu hs1
 have xM:=Hj Hl.out.1
 go_loopg [9] n (fun k s9 wr=>∃(i:Nat) (ro:Option Nat),s9=.int .i64 (i:Int)∧i+k=n∧sU wr (w.heap.size+1) (w.heap.size+1) ro K s0 (ls.take i).flatten∧Below (w.heap.size+1) w1 wr)
 case atStart=>
  refine⟨0,none,rfl,by omega,?_,Below.refl _ _⟩
  exact ZW.out
 case round=>
  obtain⟨i,ro,rfl,hik,hh,hbel⟩:=hrel
  have Hh:=Hj hh
  have bV:=Hj hbel
  have Hbw:=Hj (Hbw1.out.trans (hbel.mono (Nat.le_succ _)))
  clear hh hbel
  have Hkw:=Hj (Kz Hbw.out)
  by_cases hi:i<n
  ·obtain ⟨b,o,hA,hb⟩:=Hl.out.2 (by omega)
   obtain⟨v,c1,A',c',hv,hc1,hc2,hrb⟩:=hb i hi
   subst hv
   have c2:=Hkw.out _ _ c1
   have Ug:=Hj (hrb.keep Hkw.out)
   subst hA
   clear hb c1 hrb
   have i0:(0:Int)≤(i:Int):=by omega
   have i1:(i:Int)<(n:Int):=by omega
   generalize hx:ls.getD i []=x at*
   have Hx:=Hj hx
   clear hx
   go_wp2_with (first
    | (go_at_call 267;refine(QA (w.heap.size+1) _ c' (w.heap.size+1) A' ro K s0 _ x wr Hh.out Ug.out (HK.out.keep Hkw.out) (Nat.lt_succ_of_lt Vx) ?_).mono ?_;rotate_left;rintro e w2 ⟨rfl,hfr2,ro2,hh2,Qz⟩;have Uh:=Hj hfr2;have Hh2:=Hj hh2;have Hro2:=Hj Qz;clear hfr2 hh2 Qz)
    | fail)
   case refine_1=>
    have:=Hlen.out (i+1)
    rw[oz ls i (by rw[xM.out];exact hi),Hx.out,List.length_append] at this
    omega
   go_roundg (gk-1)
   case measure=>omega
   case rel=>
    refine⟨i+1,ro2,by go_num,by omega,?_,bV.out.trans (Uh.out.below (Cz Hs1.out bV.out.size) fun j _ hs=> ?_)⟩
    ·rw [oz ls i (by rw[xM.out];exact hi),Hx.out]
     exact Hh2.out
    ·rcases hs with h | h
     ·omega
     ·exact (Hh.out.rlt _ h.symm).1
  ·obtain rfl:i=n:=by omega
   have hall:(ls.take i).flatten=ls.flatten:=by rw[List.take_of_length_le (by rw[xM.out];exact Nat.le_refl _)]
   rw[hall] at Hh
   have Hz:=Hj ((bV.out.block w.heap.size (Nat.lt_succ_self _)).trans Hz1.out)
   have HB1:Hid ((au (wZ K s0 ls.flatten)).toArray.all (·.oneCell')=true):=by
    show _=true
    rw[Array.all_eq_true_iff_forall_mem]
    intro y hy
    exact dY _ y (by simpa using hy)
   have hcs:(au (wZ K s0 ls.flatten)).toArray.size=32:=by simp[au,nT]
   obtain⟨cur,hcur⟩:∃cur,cur=(au (wZ K s0 ls.flatten)).toArray:=⟨_,rfl⟩
   rw[←hcur] at hcs HB1
   have jY:=Hj hcur
   have rJ:=Hj hcs
   clear hcur hcs hall
   go_wp2_with (first
    | (go_at_call 268;refine(Hf (w.heap.size+1) (w.heap.size+1) ro K s0 ls.flatten wr Hh.out (HK.out.keep Hkw.out) (by have:=Hbw.out.size;omega) hlen).mono ?_;rintro e w3 ⟨rfl,mP⟩;rw[←jY.out];have nS:=Hj mP;have Hz3:=Hj ((mP.block w.heap.size (Cq Hz.out)).trans Hz.out);clear mP)
    | (refine wpList_store_row rfl 297 (.tmp 2) (.tmp 18) rfl w.heap.size cur rfl rfl 297 _ Hz3.out (by rw[rJ.out];exact iL) (by rw[rJ.out];simp) HB1.out ?_)
    | fail)
   refine bodyPost_ret (results_cell_row rfl _ _ w.heap.size 297 cur (0,0) _ rfl (setRow_heap _ _ _ _ _ _ Hz3.out) Tryz.underlying297 rfl (by rw[rJ.out];exact iL)) rfl ⟨by rw[jY.out],?_⟩
   have hb2:Below w.heap.size w w3:=Hbw.out.trans (nS.out.mono Hbw.out.size)
   exact⟨hb2.os,hb2.tape,hb2.output,by simpa [World.setRow] using hb2.size,fun i hi=>(setRow_other _ _ _ _ (by omega)).trans (hb2.block i hi)⟩
/-- The standard's constants and first words. -/
def aad:List UInt32:=[1116352408,1899447441,3049323471,3921009573,961987163,1508970993,2453635748,2870763221,3624381080,310598401,607225278,1426881987,1925078388,2162078206,2614888103,3248222580,3835390401,4022224774,264347078,604807628,770255983,1249150122,1555081692,1996064986,2554220882,2821834349,2952996808,3210313671,3336571891,3584528711,113926993,338241895,666307205,773529912,1294757372,1396182291,1695183700,1986661051,2177026350,2456956037,2730485921,2820302411,3259730800,3345764771,3516065817,3600352804,4094571909,275423344,430227734,506948616,659060556,883997877,958139571,1322822218,1537002063,1747873779,1955562222,2024104815,2227730452,2361852424,2428436474,2756734187,3204031479,3329325298]
def htab:W8:=⟨1779033703,3144134277,1013904242,2773480762,1359893119,2600822924,528734635,1541459225⟩
def Hw (k:Nat):UInt32:=aad.getD k 0
section
variable {L:List (String×DataW Unit)} {W:World}
end
/-- Both tables stand. -/
structure dS (w:World):Prop where
 k:iO w Hw
 f:ig w htab
theorem dS.keep {w w':World} (h:dS w) (k:Keeps w w'):dS w':=⟨h.k.keep k,h.f.keep k⟩
theorem dS.lt {w:World} (h:dS w):30<w.heap.size:=World.block_lt_of_cell? w _ (h.k 0 (by decide))
theorem CJ.lits {w:World} {g:Nat} {vs:List Value} {ls:List (List UInt8)} {n:Nat} {T:TypeId} {fr:Nat×Nat} (h:w.heap[g]?=some (.cells vs.toArray T fr)) (hn:ls.length=n) (hs:∀k,k<n→∃v,vs[k]?=some v∧SB w v (ls.getD k [])):CJ w (some ⟨g,0,none⟩) n ls:=by
 refine⟨hn,fun _=>⟨g,0,rfl,fun k hk=> ?_⟩⟩
 obtain⟨v,h1,h2⟩:=hs k hk
 exact⟨v,by rw[cell_of_row _ _ _ _ _ _ h,Nat.zero_add,List.getElem?_toArray];exact h1,h2⟩
theorem below_setRow {B:Nat} {a w:World} (h:Below B a w) {g:Nat} (hg:B≤g) (c:Array Value):Below B a (w.setRow g c):=
 ⟨h.os,h.tape,h.output,by simpa [World.setRow] using h.size,fun i hi=>(setRow_other _ _ _ _ (by omega)).trans (h.block i hi)⟩
end Go.Proofs.YtdhbpajamlfacaaGreatDoor
