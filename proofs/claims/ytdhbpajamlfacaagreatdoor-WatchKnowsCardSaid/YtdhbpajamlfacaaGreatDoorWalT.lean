/- Layers 4 and 20: serial numbers' figures, keys' beginnings, kinds. -/
import Derived.Test.YtdhbpajamlfacaaGreatDoorStP
import Derived.Test.YtdhbpajamlfacaaGreatDoorWho
import Derived.Test.YtdhbpajamlfacaaGreatDoorShelf
import Derived.Deep.LoopGhost
import Derived.Deep.RegionHeld3
import Derived.Test.YtdhbpajamlfacaaGreatDoorTabSO
import Derived.Test.YtdhbpajamlfacaaGreatDoorErrs
import Derived.Test.YtdhbpajamlfacaaGreatDoorSha
import Derived.Test.YtdhbpajamlfacaaGreatDoorDiskOps
import Derived.Test.YtdhbpajamlfacaaGreatDoorWalG
import Derived.Test.YtdhbpajamlfacaaGreatDoorDiskS
import Derived.Test.YtdhbpajamlfacaaGreatDoorWalK
set_option maxRecDepth 100000
namespace Go.Proofs.YtdhbpajamlfacaaGreatDoor
open Go.RowKit SO
def tX (n:Nat):List UInt8:=if n=0 then [] else pJ n
theorem Gm:tX 0=[]:=rfl
theorem Ak (n:Nat):pJ n=UInt8.ofNat (48+n % 10)::tX (n / 10):=by
 by_cases h:n<10
 ·rw [jS h,tX,if_pos (by omega),Nat.mod_eq_of_lt h]
 ·rw [y7 h,tX,if_neg (by omega)]
theorem JR {n:Nat} (h:0<n):tX n=UInt8.ofNat (48+n % 10)::tX (n / 10):=by
 rw[←Ak,tX,if_neg (by omega)]
theorem qM:∀(k n:Nat),n<10 ^ (k+1)→(pJ n).length≤k+1
 | 0,n,h=>by rw[jS (by simpa using h)];simp
 | k+1,n,h=>by
  by_cases h10:n<10
  ·rw [jS h10];simp
  ·have hp:n / 10<10 ^ (k+1):=by
    rw[Nat.div_lt_iff_lt_mul (by omega)]
    rw[Nat.pow_succ] at h
    exact h
   have:=qM k (n / 10) hp
   rw[y7 h10,List.length_cons]
   omega
/-- A number of the machine. -/
def Sm (n:Nat):Prop:=n<9223372036854775808
theorem Sm.le {n m:Nat} (h:Sm n) (k:m≤n):Sm m:=Nat.lt_of_le_of_lt k h
theorem Sm.len {n:Nat} (h:Sm n):(pJ n).length≤19:=qM 18 n (by unfold Sm at h;omega)
theorem IW (n:Nat) (hn:Sm n):∃(c:UInt8) (m:Nat),c=UInt8.ofNat (48+n % 10)∧m=n / 10∧48+(n:Int).tmod 10=(c.toNat:Int)∧48+(n:Int) % 10=(c.toNat:Int)∧(n:Int).tdiv 10=(m:Int)∧(n:Int) / 10=(m:Int)∧
  wrap64 (m:Int)=(m:Int)∧wrap64 (c.toNat:Int)=(c.toNat:Int)∧(c.toNat:Int) % 256=(c.toNat:Int):=by
 unfold Sm at hn
 have h1:(n:Int).tmod 10=((n % 10:Nat):Int):=by rw[Int.tmod_eq_emod_of_nonneg (by omega)];omega
 have h2:(UInt8.ofNat (48+n % 10)).toNat=48+n % 10:=by rw[UInt8.toNat_ofNat'];omega
 refine⟨_,_,rfl,rfl,?_,?_,?_,?_,?_,?_,?_⟩
 ·rw [h1,h2];omega
 ·rw [h2];omega
 ·rw [Int.tdiv_eq_ediv_of_nonneg (by omega)];omega
 ·omega
 ·unfold wrap64;omega
 ·rw [h2];unfold wrap64;omega
 ·rw [h2];omega
theorem iI (kind:Int) (w:World):Calls Tryz.prog 57 #[.int .i64 kind] w fun e w'=>e=.returned (.bool (iH kind))∧w=w':=by
 by_cases h5:kind=5
 ·have HI:Hid (iH kind=true):=Hj (by rw[h5];rfl)
  have q:(kind==5)=true:=by rw[h5];rfl
  clear h5
  go_enter Tryz.func57,Tryz.ntmps57
  go_wp2
  go_ret
  exact⟨aQ HI.out.symm,rfl⟩
 ·have HI:Hid (iH kind=(kind==6)):=Hj (by unfold iH;rw[decide_eq_false h5,Bool.false_or];rfl)
  have q:(kind==5)=false:=beq_eq_false_iff_ne.2 h5
  clear h5
  go_enter Tryz.func57,Tryz.ntmps57
  go_wp2
  go_ret
  exact⟨aQ HI.out.symm,rfl⟩
theorem JL (kind:Int) (w:World):Calls Tryz.prog 59 #[.int .i64 kind] w fun e w'=>e=.returned (.int .i64 (if kind=1 then 8 else 32))∧w=w':=by
 by_cases h5:kind=1
 ·rw [if_pos h5]
  have q:(kind==1)=true:=by rw[h5];rfl
  clear h5
  go_enter Tryz.func59,Tryz.ntmps59
  go_wp2
  go_ret
  exact⟨rfl,rfl⟩
 ·rw [if_neg h5]
  have q:(kind==1)=false:=beq_eq_false_iff_ne.2 h5
  clear h5
  go_enter Tryz.func59,Tryz.ntmps59
  go_wp2
  go_ret
  exact⟨rfl,rfl⟩
set_option maxHeartbeats 2000000 in
theorem Gn (k:Int) (w:World) (hk:k≤9223372036854775807):
  Calls Tryz.prog 89 #[.int .i64 k] w fun e w'=>e=.returned (.string (bF (iF k)))∧Below w.heap.size w w':=by
 by_cases hneg:k<0
 ·have HS:Hid (iF k=[]):=Hj (if_pos hneg)
  go_enter Tryz.func89,Tryz.ntmps89
  go_wp2
  go_ret
  exact⟨by rw[HS.out];rfl,Below.refl _ _⟩
 obtain⟨n,rfl⟩:∃n:Nat,k=(n:Int):=⟨k.toNat,by omega⟩
 have HS:Hid (iF (n:Int)=(pJ n).reverse):=Hj (by unfold iF;rw[if_neg hneg];rfl)
 have hn:Sm n:=by unfold Sm;omega
 have HN:=Hj hn
 have n0:¬(n:Int)<0:=by omega
 obtain⟨c0,m0,hc0,hm0,hd1,hd2,hd3,hd4,hd5,hd6,hd7⟩:=IW n hn
 have HM0:=Hj hm0
 have HC0:=Hj hc0
 have Ob:=Hj (OB.lit w w.heap.size Kv [c0] 1 rfl (by simp[maxLen]))
 clear hneg hk hn hm0 hc0
 go_enter Tryz.func89,Tryz.ntmps89
 go_wp2
 clear hd1 hd2 hd3 hd4 hd5 hd6 hd7 n0
 have YT:Hid ((pJ n).length≤19):=Hj HN.out.len
 go_loopg [0,3] n (fun gk s0 s3 wr=>∃(acc:List UInt8) (m:Nat),s0=.int .i64 (m:Int)∧OB wr w.heap.size s3 acc∧pJ n=acc++tX m∧m≤gk∧m≤n∧Below w.heap.size w wr)
 case atStart=>exact⟨[c0],m0,rfl,Ob.out,by rw[HC0.out,HM0.out];exact Ak n,by rw[HM0.out];omega,by rw[HM0.out];omega,(Below.refl _ w).alloc Kv _⟩
 case round=>
  obtain⟨acc,m,rfl,hob,hlow,Oc,hmn,hb⟩:=hrel
  have hlen:acc.length≤19:=by
   have h1:=congrArg List.length hlow
   have:=YT.out
   rw[List.length_append] at h1
   omega
  obtain⟨A,c,e,hc1,hc2,hrb⟩:=hob.form
  subst e
  have xX:=Hj hob
  have HB:=Hj hb
  have Wx:=Hj hlow
  have YU:=Hj Oc
  have HMN:=Hj hmn
  have HLen:=Hj hlen
  by_cases hm:m=0
  ·subst hm
   have hacc:pJ n=acc:=by rw[hlow,Gm,List.append_nil]
   have hpos:0<acc.length:=by rw[←hacc,Ak];simp
   obtain⟨b,o,rfl,-⟩:=hrb.2 hpos
   have Fp:=Hj (nI b o c w.heap.size acc wr hob (by omega))
   have hbl:=(OB.lt hob b rfl).1
   have Gp:=Hj hbl
   have HA:=Hj hacc
   obtain⟨k,hk⟩:∃k,k=acc.length:=⟨_,rfl⟩
   rw[←hk] at Fp ⊢
   have HK:Hid (acc.reverse.length=k):=Hj (by rw[List.length_reverse,hk])
   clear hob hb hlow Oc hmn hlen hc1 hc2 hrb hacc hpos hbl hk
   go_wp2_with (go_at_call 148;((with_reducible refine Fp.out.mono ?_);rintro e w2 ⟨rfl,ho2,hf2⟩;have F2:=Hj hf2;have hcv:∀d,Tryz.prog.underlying d=some .string→(convert 35 d (.slice (some ⟨b,o,none⟩) k c)).run Tryz.prog w2=.ok (.string (bF acc.reverse)) w2:=(fun d hd=>by
     obtain⟨A',c',e',-,-,h3⟩:=ho2.form
     injection e' with e1 e2 e3
     subst e1
     rw[HK.out] at h3
     exact fU Tryz.underlying35 Tryz.underlying5 hd h3);have hcv2:=hcv 9 Tryz.underlying9;clear hcv ho2 hf2))
   go_ret
   exact⟨by rw[HS.out,HA.out];rfl,HB.out.trans (F2.out.below HB.out.size fun q _ e=>by rw[e];exact Gp.out)⟩
  ·have m0:(0:Int)<(m:Int):=Int.natCast_pos.2 (Nat.pos_of_ne_zero hm)
   obtain⟨y,m1,hy,hm1,hd1,hd2,hd3,hd4,hd5,hd6,hd7⟩:=IW m (HN.out.le hmn)
   have HW5:=Hj hd5
   have Rq:=Hj hm1
   have HY:=Hj hy
   have HM:=Hj hm
   clear hob hb hlow Oc hmn hlen hc1 hc2 hrb hm1 hy hm
   go_wp2_with (at_builtin;(refine aA rfl (.tmp 17) (.tmp 22) 35 rfl (OB.alloc xX.out _) rfl (Src.lit wr _ [y] rfl 1 1 rfl) rfl (by clear hd1 hd2 hd3 hd4 hd5 hd6 hd7;have:=HLen.out;simp;omega) (by clear hd1 hd2 hd3 hd4 hd5 hd6 hd7;have:=HB.out.size;simp;omega) ?_;intro v2 w2 hown2 bZ jc;obtain⟨A2,c2,e2,-,-,-⟩:=hown2.form;subst e2;have O2:=Hj hown2;have B2:Hid (Below w.heap.size w w2):=Hj (aS ((HB.out).alloc HB.out.size _) bZ (OB.alloc xX.out _) Kv (by clear hd1 hd2 hd3 hd4 hd5 hd6 hd7;have:=HB.out.size;simp;omega));clear hown2 bZ jc))
   go_roundg m1
   case measure=>clear hd1 hd2 hd3 hd4 hd5 hd6 hd7;have:=YU.out;have:=HM.out;have:=Rq.out;omega
   case rel=>exact⟨acc++[y],m1,by first | rfl | rw[HW5.out],by have h:=O2.out;rw[show (acc++[y]).length=acc.length+1 by simp] at h;exact h,by rw[Wx.out,JR (Nat.pos_of_ne_zero HM.out),←HY.out,←Rq.out,List.append_assoc];rfl,Nat.le_refl _,by clear hd1 hd2 hd3 hd4 hd5 hd6 hd7;have:=Rq.out;have:=HMN.out;omega,B2.out⟩
abbrev jq:ByteArray:=⟨#[97,98,99,100,101,102,103,104,105,106,107,108,109,110,111,112,113,114,115,116,117,118,119,120,121,122,48,49,50,51,52,53,54,55,56,57]⟩
theorem RU:((List.range 256).all fun n=>decide (0≤Lib.indexByte jq.data.toList (UInt8.ofNat n))==oH (UInt8.ofNat n))=true:=by decide+kernel
theorem Wy (c:UInt8):decide (0≤Lib.indexByte jq.data.toList c)=oH c:=by
 have h:=List.all_eq_true.1 RU c.toNat (by simpa using c.toNat_lt)
 simpa using h
theorem vI {s:ByteArray} {i:Nat} (h:i<s.size):s.data.toList.getD i 0=s[i]:=by
 rw[List.getD_eq_getElem?_getD,List.getElem?_eq_getElem (by rw[size_data];exact h)]
 rfl
theorem IX {l:List UInt8} {p:UInt8→Bool} (h:∀j,j<l.length→p (l.getD j 0)=true):l.all p=true:=by
 rw[List.all_eq_true]
 intro x hx
 obtain⟨j,hj,e⟩:=List.mem_iff_getElem.1 hx
 have:=h j hj
 rwa [List.getD_eq_getElem?_getD,List.getElem?_eq_getElem hj,Option.getD_some,e] at this
theorem YV:((⟨#[45]⟩:ByteArray)[0].toNat:Int)=45:=rfl
theorem sH (w:World) (a b:Nat):(w.drewN a).drewN b=w.drewN (a+b):=by simp[World.drewN,Nat.add_assoc]
set_option maxHeartbeats 2000000 in
theorem Label_any (s:ByteArray) (w:World):
  Calls Tryz.prog 131 #[.string s] w fun e w'=>e=.returned (.bool (dK s.data.toList))∧∃k,w'=w.drewN k:=by
 have hsz:=size_data s
 by_cases h0:s.size=0
 ·have q:(s.toList==[])=true:=by rw[ByteArray.toList_eq,List.eq_nil_of_length_eq_zero (l:=s.data.toList) (by rw[hsz];exact h0)];rfl
  have HL:Hid (dK s.data.toList=false):=Hj (by unfold dK;rw[hsz,h0];rfl)
  clear h0 hsz
  go_enter Tryz.func131,Tryz.ntmps131
  go_wp2
  go_ret
  exact⟨aQ HL.out.symm,0,rfl⟩
 have q:(s.toList==[])=false:=by
  rw[ByteArray.toList_eq]
  cases hl:s.data.toList with
  | nil=>rw[hl] at hsz;exact absurd hsz.symm h0
  | cons a b=>rfl
 by_cases wG:24<s.size
 ·have HL:Hid (dK s.data.toList=false):=Hj (by unfold dK;rw[hsz,decide_eq_false (show ¬s.size≤24 by omega),Bool.false_and,Bool.and_false])
  have q2:(24:Int)<(s.size:Int):=by omega
  clear h0 hsz wG
  go_enter Tryz.func131,Tryz.ntmps131
  go_wp2
  go_ret
  exact⟨aQ HL.out.symm,0,rfl⟩
 have q2:¬(24:Int)<(s.size:Int):=by omega
 have HL:Hid (dK s.data.toList=(!(Lib.hasPrefix s.data.toList [45])&&(!(Lib.hasSuffix s.data.toList [45])&&s.data.toList.all fun c=>(c==45)||oH c))):=Hj (by
  unfold dK;rw[hsz,decide_eq_true (show 0<s.size by omega),decide_eq_true (show s.size≤24 by omega),Bool.true_and,Bool.true_and])
 have HP:Hid (Calls Tryz.prog 192 #[.string s,.string ⟨#[45]⟩] w fun e w'=>e=.returned (.bool (Lib.hasPrefix s.data.toList [45]))∧w'=w):=Hj (Tryz.strings_HasPrefix s ⟨#[45]⟩ w)
 have HS:Hid (Calls Tryz.prog 193 #[.string s,.string ⟨#[45]⟩] w fun e w'=>e=.returned (.bool (Lib.hasSuffix s.data.toList [45]))∧w'=w):=Hj (Tryz.strings_HasSuffix s ⟨#[45]⟩ w (by omega))
 have HZ:=Hj hsz
 have HZ24:Hid (s.size≤24):=Hj (by omega)
 clear hsz h0 wG
 cases hp:Lib.hasPrefix s.data.toList [45] with
 | true=>
  rw[hp] at HP HL
  clear hp
  go_enter Tryz.func131,Tryz.ntmps131
  go_wp2_with (go_at_call 192;refine HP.out.mono ?_;rintro e w' ⟨rfl,hw⟩;rw[hw];clear hw)
  go_ret
  exact⟨aQ (by rw[HL.out];rfl),0,rfl⟩
 | false=>
  rw[hp] at HP HL
  clear hp
  cases hp:Lib.hasSuffix s.data.toList [45] with
  | true=>
   rw[hp] at HS HL
   clear hp
   go_enter Tryz.func131,Tryz.ntmps131
   go_wp2_with (first
    | (go_at_call 192;refine HP.out.mono ?_;rintro e w' ⟨rfl,hw⟩;rw[hw];clear hw)
    | (go_at_call 193;refine HS.out.mono ?_;rintro e w' ⟨rfl,hw⟩;rw[hw];clear hw))
   go_ret
   exact⟨aQ (by rw[HL.out];rfl),0,rfl⟩
  | false=>
   rw[hp] at HS HL
   clear hp
   have HL2:Hid (dK s.data.toList=s.data.toList.all fun c=>(c==45)||oH c):=Hj (by rw[HL.out];rfl)
   clear HL
   go_enter Tryz.func131,Tryz.ntmps131
   go_wp2_with (first
    | (go_at_call 192;refine HP.out.mono ?_;rintro e w' ⟨rfl,hw⟩;rw[hw];clear hw)
    | (go_at_call 193;refine HS.out.mono ?_;rintro e w' ⟨rfl,hw⟩;rw[hw];clear hw))
   go_loopg [21] s.size (fun gk s21 wr=>∃i k:Nat,s21=.int .i64 (i:Int)∧i+gk=s.size∧(∀j,j<i→((s.data.toList.getD j 0==45)||oH (s.data.toList.getD j 0))=true)∧wr=w.drewN k)
   case atStart=>exact⟨0,0,rfl,by omega,fun j hj=>absurd hj (by omega),rfl⟩
   case round=>
    obtain⟨i,k,rfl,hik,hall,hwr⟩:=hrel
    have HI:=Hj hik
    have mW:=Hj hall
    have HW:=Hj hwr
    have CP:=Hj HZ24.out
    by_cases hlt:i<s.size
    ·have HG:=Hj (vI hlt)
     have hsi:(i:Int)<(s.size:Int):=by omega
     have hi0:(0:Int)≤(i:Int):=by omega
     by_cases hc:s[i].toNat=45
     ·have hcc:s[i]=45:=UInt8.toNat_inj.1 hc
      have HC:=Hj hcc
      have hq:(s[i].toNat:Int)=45:=by omega
      have h45:=YV
      clear hik hall hwr hc hcc
      go_wp2
      go_quiet (fail)
      go_wp2
      go_roundg (gk-1)
      case measure=>have:=HI.out;omega
      case rel=>
       refine⟨i+1,_,by go_num,by have:=HI.out;omega,fun j hj=> ?_,by rw[HW.out,sH]⟩
       by_cases e:j=i
       ·subst e;rw[HG.out,HC.out];rfl
       ·exact mW.out j (by omega)
     ·have hq:¬(s[i].toNat:Int)=45:=by omega
      have hqb:((s[i].toNat:Int) !=45)=true:=by simpa using hq
      have h45:=YV
      have HI2:=Wy s[i]
      cases hlc:oH s[i] with
      | true=>
       have HC:=Hj hlc
       rw[hlc] at HI2
       have h3:0≤Lib.indexByte jq.data.toList s[i]:=of_decide_eq_true HI2
       obtain⟨X,hX⟩:∃X,X=Lib.indexByte jq.data.toList s[i]:=⟨_,rfl⟩
       rw[←hX] at h3
       have HIx:Hid (∀W,Calls Tryz.prog 194 #[.string ⟨#[97,98,99,100,101,102,103,104,105,106,107,108,109,110,111,112,113,114,115,116,117,118,119,120,121,122,48,49,50,51,52,53,54,55,56,57]⟩,.int .u8 (s[i].toNat:Int)] W fun e w'=>e=.returned (.int .i64 X)∧w'=W):=Hj fun W=>by
        have h:=Tryz.strings_IndexByte jq (s[i].toNat:Int) W
        rw[show ((s[i].toNat:Int)).toNat.toUInt8=s[i] by simp,←hX] at h
        exact h
       clear hik hall hwr hc hlc HI2 hX
       go_wp2
       go_quiet ((go_at_call 194;with_reducible exact Calls.quiet_of_same (HIx.out _)))
       go_wp2
       go_roundg (gk-1)
       case measure=>have:=HI.out;omega
       case rel=>
        refine⟨i+1,_,by go_num,by have:=HI.out;omega,fun j hj=> ?_,by rw[HW.out,sH]⟩
        by_cases e:j=i
        ·subst e;rw[HG.out,HC.out,Bool.or_true]
        ·exact mW.out j (by omega)
      | false=>
       have HC:=Hj hlc
       rw[hlc] at HI2
       have h3:¬0≤Lib.indexByte jq.data.toList s[i]:=of_decide_eq_false HI2
       obtain⟨X,hX⟩:∃X,X=Lib.indexByte jq.data.toList s[i]:=⟨_,rfl⟩
       rw[←hX] at h3
       have h4:X<0:=by omega
       have HIx:Hid (∀W,Calls Tryz.prog 194 #[.string ⟨#[97,98,99,100,101,102,103,104,105,106,107,108,109,110,111,112,113,114,115,116,117,118,119,120,121,122,48,49,50,51,52,53,54,55,56,57]⟩,.int .u8 (s[i].toNat:Int)] W fun e w'=>e=.returned (.int .i64 X)∧w'=W):=Hj fun W=>by
        have h:=Tryz.strings_IndexByte jq (s[i].toNat:Int) W
        rw[show ((s[i].toNat:Int)).toNat.toUInt8=s[i] by simp,←hX] at h
        exact h
       have HN:Hid (¬s[i]=45):=Hj fun e=>hc (by rw[e];rfl)
       clear hik hall hwr hc hlc HI2 hX h3
       go_wp2
       go_quiet ((go_at_call 194;with_reducible exact Calls.quiet_of_same (HIx.out _)))
       go_wp2
       go_ret
       refine⟨aQ ?_,_,by rw[HW.out,sH]⟩
       rw[HL2.out]
       symm
       rw[Bool.eq_false_iff]
       intro h
       have:=List.all_eq_true.1 h s[i] (by rw[←HG.out,List.getD_eq_getElem?_getD,List.getElem?_eq_getElem (by rw[HZ.out];exact hlt)];exact List.getElem_mem _)
       rw[HC.out,Bool.or_false] at this
       exact HN.out (by simpa using this)
    ·have e:i=s.size:=by omega
     have q5:¬(i:Int)<(s.size:Int):=by omega
     have HLab:Hid (dK s.data.toList=true):=Hj (by rw[HL2.out];exact IX fun j hj=>mW.out j (by rw[HZ.out] at hj;omega))
     clear hik hall hwr e hlt
     go_wp2
     go_ret
     exact⟨aQ HLab.out.symm,_,HW.out⟩
set_option maxHeartbeats 1000000 in
theorem AO (v:OV) (w:World) (hI:iH v.kind=true) (ha:dK v.space.data.toList=false):
  Calls Tryz.prog 72 #[.agg #[.int .i64 v.kind,.string v.space,.string v.name,.int .i64 v.ver,.slice v.A v.n v.c]] w fun e w'=>e=.returned (.bool (false))∧Below w.heap.size w w':=by
 obtain⟨w1,hw1,B,hB,hb1,hr1⟩:=aX w v
 have HB1:=Hj hb1
 have dR:=Hj hr1
 have HW1:=Hj hw1
 have jB:=Hj hB
 have rH:Hid (VB w1 B v):=Hj (VB.aG hr1)
 obtain⟨vb0,vb1,xK,x9,yc⟩:=rH.out
 clear hb1 hr1 hw1 hB
 have rG:=Hj (iI v.kind w1)
 rw[hI] at rG
 clear hI
 have xM:=Hj (Label_any v.space w1)
 rw[ha] at xM
 clear ha
 go_enter Tryz.func72,Tryz.ntmps72
 go_wp2_with (first
  | (go_at_call 57;rw[←HW1.out,←jB.out];(with_reducible refine rG.out.mono ?_);rintro e w' ⟨rfl,rfl⟩)
  | (go_at_call 131;(with_reducible refine xM.out.mono ?_);rintro e w2 ⟨rfl,k2,hk2⟩;have OD:=Hj hk2;have WS:VB w2 B v:=(by rw[hk2];exact rH.out);obtain⟨v20,v21,v22,v23,v24⟩:=WS;clear hk2))
 go_ret
 exact⟨rfl,(by rw[OD.out];exact below_drewN HB1.out _)⟩
set_option maxHeartbeats 1000000 in
theorem Sv (v:OV) (w:World) (hI:iH v.kind=true) (ha:dK v.space.data.toList=true) (hb:¬1≤v.kind):
  Calls Tryz.prog 72 #[.agg #[.int .i64 v.kind,.string v.space,.string v.name,.int .i64 v.ver,.slice v.A v.n v.c]] w fun e w'=>e=.returned (.bool (false))∧Below w.heap.size w w':=by
 obtain⟨w1,hw1,B,hB,hb1,hr1⟩:=aX w v
 have HB1:=Hj hb1
 have dR:=Hj hr1
 have HW1:=Hj hw1
 have jB:=Hj hB
 have rH:Hid (VB w1 B v):=Hj (VB.aG hr1)
 obtain⟨vb0,vb1,xK,x9,yc⟩:=rH.out
 clear hb1 hr1 hw1 hB
 have rG:=Hj (iI v.kind w1)
 rw[hI] at rG
 clear hI
 have xM:=Hj (Label_any v.space w1)
 rw[ha] at xM
 clear ha
 go_enter Tryz.func72,Tryz.ntmps72
 go_wp2_with (first
  | (go_at_call 57;rw[←HW1.out,←jB.out];(with_reducible refine rG.out.mono ?_);rintro e w' ⟨rfl,rfl⟩)
  | (go_at_call 131;(with_reducible refine xM.out.mono ?_);rintro e w2 ⟨rfl,k2,hk2⟩;have OD:=Hj hk2;have WS:VB w2 B v:=(by rw[hk2];exact rH.out);obtain⟨v20,v21,v22,v23,v24⟩:=WS;clear hk2))
 go_ret
 exact⟨rfl,(by rw[OD.out];exact below_drewN HB1.out _)⟩
set_option maxHeartbeats 1000000 in
theorem SA (v:OV) (w:World) (hI:iH v.kind=true) (ha:dK v.space.data.toList=true) (hb:1≤v.kind) (hc:¬v.kind≤7):
  Calls Tryz.prog 72 #[.agg #[.int .i64 v.kind,.string v.space,.string v.name,.int .i64 v.ver,.slice v.A v.n v.c]] w fun e w'=>e=.returned (.bool (false))∧Below w.heap.size w w':=by
 obtain⟨w1,hw1,B,hB,hb1,hr1⟩:=aX w v
 have HB1:=Hj hb1
 have dR:=Hj hr1
 have HW1:=Hj hw1
 have jB:=Hj hB
 have rH:Hid (VB w1 B v):=Hj (VB.aG hr1)
 obtain⟨vb0,vb1,xK,x9,yc⟩:=rH.out
 clear hb1 hr1 hw1 hB
 have rG:=Hj (iI v.kind w1)
 rw[hI] at rG
 clear hI
 have xM:=Hj (Label_any v.space w1)
 rw[ha] at xM
 clear ha
 go_enter Tryz.func72,Tryz.ntmps72
 go_wp2_with (first
  | (go_at_call 57;rw[←HW1.out,←jB.out];(with_reducible refine rG.out.mono ?_);rintro e w' ⟨rfl,rfl⟩)
  | (go_at_call 131;(with_reducible refine xM.out.mono ?_);rintro e w2 ⟨rfl,k2,hk2⟩;have OD:=Hj hk2;have WS:VB w2 B v:=(by rw[hk2];exact rH.out);obtain⟨v20,v21,v22,v23,v24⟩:=WS;clear hk2))
 go_ret
 exact⟨rfl,(by rw[OD.out];exact below_drewN HB1.out _)⟩
set_option maxHeartbeats 1000000 in
theorem SC (v:OV) (w:World) (hI:iH v.kind=true) (ha:dK v.space.data.toList=true) (hb:1≤v.kind) (hc:v.kind≤7):
  Calls Tryz.prog 72 #[.agg #[.int .i64 v.kind,.string v.space,.string v.name,.int .i64 v.ver,.slice v.A v.n v.c]] w fun e w'=>e=.returned (.bool (dK v.name.data.toList))∧Below w.heap.size w w':=by
 obtain⟨w1,hw1,B,hB,hb1,hr1⟩:=aX w v
 have HB1:=Hj hb1
 have dR:=Hj hr1
 have HW1:=Hj hw1
 have jB:=Hj hB
 have rH:Hid (VB w1 B v):=Hj (VB.aG hr1)
 obtain⟨vb0,vb1,xK,x9,yc⟩:=rH.out
 clear hb1 hr1 hw1 hB
 have rG:=Hj (iI v.kind w1)
 rw[hI] at rG
 clear hI
 have xM:=Hj (Label_any v.space w1)
 rw[ha] at xM
 clear ha
 have HLn:Hid (∀W,Calls Tryz.prog 131 #[.string v.name] W fun e w'=>e=.returned (.bool (dK v.name.data.toList))∧∃k,w'=W.drewN k):=Hj fun W=>Label_any v.name W
 go_enter Tryz.func72,Tryz.ntmps72
 go_wp2_with (first
  | (go_at_call 57;rw[←HW1.out,←jB.out];(with_reducible refine rG.out.mono ?_);rintro e w' ⟨rfl,rfl⟩)
  | (go_at_call 131;(with_reducible refine xM.out.mono ?_);rintro e w2 ⟨rfl,k2,hk2⟩;have OD:=Hj hk2;have WS:VB w2 B v:=(by rw[hk2];exact rH.out);obtain⟨v20,v21,v22,v23,v24⟩:=WS;clear hk2)
  | (go_at_call 131;(with_reducible refine(HLn.out _).mono ?_);rintro e w3 ⟨rfl,k3,hk3⟩;have V3:=Hj hk3;clear hk3))
 go_ret
 exact⟨rfl,(by rw[V3.out,OD.out];exact below_drewN (below_drewN HB1.out _) _)⟩
set_option maxHeartbeats 1000000 in
theorem AP (v:OV) (w:World) (hI:iH v.kind=false) (ha:(v.space.toList==[])=false):
  Calls Tryz.prog 72 #[.agg #[.int .i64 v.kind,.string v.space,.string v.name,.int .i64 v.ver,.slice v.A v.n v.c]] w fun e w'=>e=.returned (.bool (false))∧Below w.heap.size w w':=by
 obtain⟨w1,hw1,B,hB,hb1,hr1⟩:=aX w v
 have HB1:=Hj hb1
 have dR:=Hj hr1
 have HW1:=Hj hw1
 have jB:=Hj hB
 have rH:Hid (VB w1 B v):=Hj (VB.aG hr1)
 obtain⟨vb0,vb1,xK,x9,yc⟩:=rH.out
 clear hb1 hr1 hw1 hB
 have rG:=Hj (iI v.kind w1)
 rw[hI] at rG
 clear hI
 go_enter Tryz.func72,Tryz.ntmps72
 go_wp2_with (first
  | (go_at_call 57;rw[←HW1.out,←jB.out];(with_reducible refine rG.out.mono ?_);rintro e w' ⟨rfl,rfl⟩))
 go_ret
 exact⟨rfl,HB1.out⟩
set_option maxHeartbeats 1000000 in
theorem SE (v:OV) (w:World) (hI:iH v.kind=false) (ha:(v.space.toList==[])=true) (hb:¬1≤v.kind):
  Calls Tryz.prog 72 #[.agg #[.int .i64 v.kind,.string v.space,.string v.name,.int .i64 v.ver,.slice v.A v.n v.c]] w fun e w'=>e=.returned (.bool (false))∧Below w.heap.size w w':=by
 obtain⟨w1,hw1,B,hB,hb1,hr1⟩:=aX w v
 have HB1:=Hj hb1
 have dR:=Hj hr1
 have HW1:=Hj hw1
 have jB:=Hj hB
 have rH:Hid (VB w1 B v):=Hj (VB.aG hr1)
 obtain⟨vb0,vb1,xK,x9,yc⟩:=rH.out
 clear hb1 hr1 hw1 hB
 have rG:=Hj (iI v.kind w1)
 rw[hI] at rG
 clear hI
 go_enter Tryz.func72,Tryz.ntmps72
 go_wp2_with (first
  | (go_at_call 57;rw[←HW1.out,←jB.out];(with_reducible refine rG.out.mono ?_);rintro e w' ⟨rfl,rfl⟩))
 go_ret
 exact⟨rfl,HB1.out⟩
set_option maxHeartbeats 1000000 in
theorem SG (v:OV) (w:World) (hI:iH v.kind=false) (ha:(v.space.toList==[])=true) (hb:1≤v.kind) (hc:¬v.kind≤7):
  Calls Tryz.prog 72 #[.agg #[.int .i64 v.kind,.string v.space,.string v.name,.int .i64 v.ver,.slice v.A v.n v.c]] w fun e w'=>e=.returned (.bool (false))∧Below w.heap.size w w':=by
 obtain⟨w1,hw1,B,hB,hb1,hr1⟩:=aX w v
 have HB1:=Hj hb1
 have dR:=Hj hr1
 have HW1:=Hj hw1
 have jB:=Hj hB
 have rH:Hid (VB w1 B v):=Hj (VB.aG hr1)
 obtain⟨vb0,vb1,xK,x9,yc⟩:=rH.out
 clear hb1 hr1 hw1 hB
 have rG:=Hj (iI v.kind w1)
 rw[hI] at rG
 clear hI
 go_enter Tryz.func72,Tryz.ntmps72
 go_wp2_with (first
  | (go_at_call 57;rw[←HW1.out,←jB.out];(with_reducible refine rG.out.mono ?_);rintro e w' ⟨rfl,rfl⟩))
 go_ret
 exact⟨rfl,HB1.out⟩
set_option maxHeartbeats 1000000 in
theorem SH (v:OV) (w:World) (hI:iH v.kind=false) (ha:(v.space.toList==[])=true) (hb:1≤v.kind) (hc:v.kind≤7):
  Calls Tryz.prog 72 #[.agg #[.int .i64 v.kind,.string v.space,.string v.name,.int .i64 v.ver,.slice v.A v.n v.c]] w fun e w'=>e=.returned (.bool (dK v.name.data.toList))∧Below w.heap.size w w':=by
 obtain⟨w1,hw1,B,hB,hb1,hr1⟩:=aX w v
 have HB1:=Hj hb1
 have dR:=Hj hr1
 have HW1:=Hj hw1
 have jB:=Hj hB
 have rH:Hid (VB w1 B v):=Hj (VB.aG hr1)
 obtain⟨vb0,vb1,xK,x9,yc⟩:=rH.out
 clear hb1 hr1 hw1 hB
 have rG:=Hj (iI v.kind w1)
 rw[hI] at rG
 clear hI
 have HLn:Hid (∀W,Calls Tryz.prog 131 #[.string v.name] W fun e w'=>e=.returned (.bool (dK v.name.data.toList))∧∃k,w'=W.drewN k):=Hj fun W=>Label_any v.name W
 go_enter Tryz.func72,Tryz.ntmps72
 go_wp2_with (first
  | (go_at_call 57;rw[←HW1.out,←jB.out];(with_reducible refine rG.out.mono ?_);rintro e w' ⟨rfl,rfl⟩)
  | (go_at_call 131;(with_reducible refine(HLn.out _).mono ?_);rintro e w3 ⟨rfl,k3,hk3⟩;have V3:=Hj hk3;clear hk3))
 go_ret
 exact⟨rfl,(by rw[V3.out];exact below_drewN HB1.out _)⟩
theorem zi (v:OV) (w:World):Calls Tryz.prog 72 #[.agg #[.int .i64 v.kind,.string v.space,.string v.name,.int .i64 v.ver,.slice v.A v.n v.c]] w fun e w'=>e=.returned (.bool (bU v.kind v.space v.name))∧Below w.heap.size w w':=by
 have hsp:decide (v.space.size=0)=(v.space.toList==[]):=by
  rw[ByteArray.toList_eq,←size_data]
  cases v.space.data.toList with
  | nil=>rfl
  | cons a b=>rfl
 by_cases hb:1≤v.kind
 ·by_cases hc:v.kind≤7
  ·skip
   cases hI:iH v.kind with
   | true=>
    cases ha:dK v.space.data.toList with
    | true=>
     have e:bU v.kind v.space v.name=(dK v.name.data.toList):=by unfold bU;rw[hsp,hI];simp[ha,hb,hc]
     rw[e];exact SC v w hI ha hb hc
    | false=>
     have e:bU v.kind v.space v.name=false:=by unfold bU;rw[hsp,hI];simp[ha]
     rw[e];exact AO v w hI ha
   | false=>
    cases ha:(v.space.toList==[]) with
    | true=>
     have e:bU v.kind v.space v.name=(dK v.name.data.toList):=by unfold bU;rw[hsp,hI];simp[ha,hb,hc]
     rw[e];exact SH v w hI ha hb hc
    | false=>
     have e:bU v.kind v.space v.name=false:=by unfold bU;rw[hsp,hI];simp[ha]
     rw[e];exact AP v w hI ha
  ·skip
   cases hI:iH v.kind with
   | true=>
    cases ha:dK v.space.data.toList with
    | true=>
     have e:bU v.kind v.space v.name=(false):=by unfold bU;rw[hsp,hI];simp[ha,hc]
     rw[e];exact SA v w hI ha hb hc
    | false=>
     have e:bU v.kind v.space v.name=false:=by unfold bU;rw[hsp,hI];simp[ha]
     rw[e];exact AO v w hI ha
   | false=>
    cases ha:(v.space.toList==[]) with
    | true=>
     have e:bU v.kind v.space v.name=(false):=by unfold bU;rw[hsp,hI];simp[ha,hc]
     rw[e];exact SG v w hI ha hb hc
    | false=>
     have e:bU v.kind v.space v.name=false:=by unfold bU;rw[hsp,hI];simp[ha]
     rw[e];exact AP v w hI ha
 ·skip
  cases hI:iH v.kind with
  | true=>
   cases ha:dK v.space.data.toList with
   | true=>
    have e:bU v.kind v.space v.name=(false):=by unfold bU;rw[hsp,hI];simp[ha,hb]
    rw[e];exact Sv v w hI ha hb
   | false=>
    have e:bU v.kind v.space v.name=false:=by unfold bU;rw[hsp,hI];simp[ha]
    rw[e];exact AO v w hI ha
  | false=>
   cases ha:(v.space.toList==[]) with
   | true=>
    have e:bU v.kind v.space v.name=(false):=by unfold bU;rw[hsp,hI];simp[ha,hb]
    rw[e];exact SE v w hI ha hb
   | false=>
    have e:bU v.kind v.space v.name=false:=by unfold bU;rw[hsp,hI];simp[ha]
    rw[e];exact AP v w hI ha
/-- What is asked of an object. -/
def bG (v:OV):Nat:=if bU v.kind v.space v.name=true then (if 8192<v.n then 3 else 0) else 9
set_option maxHeartbeats 1000000 in
theorem sD (v:OV) (w:World) (ea:Nat→Addr) (hE:Errs w ea):
  Calls Tryz.prog 55 #[.agg #[.int .i64 v.kind,.string v.space,.string v.name,.int .i64 v.ver,.slice v.A v.n v.c]] w fun e w'=>e=.returned (errOf ea (bG v))∧Below w.heap.size w w':=by
 obtain⟨w1,hw1,B,hB,hb1,hr1⟩:=aX w v
 have HB1:=Hj hb1
 have dR:=Hj hr1
 have HW1:=Hj hw1
 have jB:=Hj hB
 have rH:Hid (VB w1 B v):=Hj (VB.aG hr1)
 obtain⟨vb0,vb1,xK,x9,yc⟩:=rH.out
 clear hb1 hr1 hw1 hB
 have HE:=Hj hE
 have HN:=Hj (zi v w1)
 have iZ:Hid (bG v=if bU v.kind v.space v.name=true then (if 8192<v.n then 3 else 0) else 9):=Hj rfl
 clear hE
 have WT:Hid (∀w2,Below w1.heap.size w1 w2→VB w2 B v∧w2.cell? ⟨0,0,none⟩=some (kM (ea 9))∧w2.cell? ⟨3,0,none⟩=some (kM (ea 3))):=Hj fun w2 h2=>by
  have hE2:=HE.out.below (HB1.out.trans (h2.mono HB1.out.size))
  exact⟨VB.aG ((h2.block B (Cq dR.out)).trans dR.out),hE2.cell 9 (by omega) (by omega),hE2.cell 3 (by omega) (by omega)⟩
 cases hn:bU v.kind v.space v.name with
 | false=>
  rw[hn] at HN iZ
  clear hn
  go_enter Tryz.func55,Tryz.ntmps55
  go_wp2_with (go_at_call 72;rw[←HW1.out];(with_reducible refine HN.out.mono ?_);rintro e w2 ⟨rfl,hb2⟩;have HB2:=Hj hb2;obtain⟨⟨v20,v21,v22,v23,v24⟩,c9,c3⟩:=WT.out w2 hb2;unfold kM at c9 c3;try (rw[←jB.out]);clear hb2)
  go_ret
  exact⟨by rw[iZ.out];rfl,HB1.out.trans (HB2.out.mono HB1.out.size)⟩
 | true=>
  rw[hn] at HN iZ
  clear hn
  by_cases hl:8192<v.n
  ·have OE:Hid (bG v=3):=Hj (by rw[iZ.out,if_pos rfl,if_pos hl])
   have hl2:(8192:Int)<(v.n:Int):=by omega
   clear hl
   go_enter Tryz.func55,Tryz.ntmps55
   go_wp2_with (go_at_call 72;rw[←HW1.out];(with_reducible refine HN.out.mono ?_);rintro e w2 ⟨rfl,hb2⟩;have HB2:=Hj hb2;obtain⟨⟨v20,v21,v22,v23,v24⟩,c9,c3⟩:=WT.out w2 hb2;unfold kM at c9 c3;try (rw[←jB.out]);clear hb2)
   go_ret
   exact⟨by rw[OE.out];rfl,HB1.out.trans (HB2.out.mono HB1.out.size)⟩
  ·have OE:Hid (bG v=0):=Hj (by rw[iZ.out,if_pos rfl,if_neg hl])
   have hl2:¬(8192:Int)<(v.n:Int):=by omega
   clear hl
   go_enter Tryz.func55,Tryz.ntmps55
   go_wp2_with (go_at_call 72;rw[←HW1.out];(with_reducible refine HN.out.mono ?_);rintro e w2 ⟨rfl,hb2⟩;have HB2:=Hj hb2;obtain⟨⟨v20,v21,v22,v23,v24⟩,c9,c3⟩:=WT.out w2 hb2;unfold kM at c9 c3;try (rw[←jB.out]);clear hb2)
   go_ret
   exact⟨by rw[OE.out];rfl,HB1.out.trans (HB2.out.mono HB1.out.size)⟩
theorem Ei {k:Int} (h:k≤9223372036854775807):(iF k).length≤19:=by
 unfold iF
 split
 ·simp
 ·rw [List.length_reverse];exact qM 18 _ (by omega)
theorem iY (l:List UInt8):(bF l).size=l.length:=by rw[←size_data,J5]
theorem vV {k:Int} (h:k≤9223372036854775807) {space:ByteArray} (hs:space.size≤1000):(dZ k space).length≤1021:=by
 have:=Ei h
 unfold dZ
 simp[List.length_append]
 omega
theorem zV (kind:Int) (space:ByteArray) (w:World) (hk:kind≤9223372036854775807) (hs:space.size≤1000):
  Calls Tryz.prog 42 #[.int .i64 kind,.string space] w fun e w'=>e=.returned (.string (bF (dZ kind space)))∧Below w.heap.size w w':=by
 have HS:=Hj (Gn kind w hk)
 have hs1:(bF (iF kind)).size≤19:=by rw[iY];exact Ei hk
 obtain⟨s1,Gw⟩:∃s,s=bF (iF kind):=⟨_,rfl⟩
 rw[←Gw] at HS hs1
 have Dz:=Hj Gw
 clear hk Gw
 go_enter Tryz.func42,Tryz.ntmps42
 go_wp2_with (go_at_call 89;(with_reducible refine HS.out.mono ?_);rintro e w2 ⟨rfl,hb2⟩;have HB2:=Hj hb2;clear hb2)
 go_ret
 refine⟨congrArg (fun s=>Ending.returned (.string s)) ?_,HB2.out⟩
 rw[Dz.out]
 exact ByteArray.ext (by simp[bF,dZ])
set_option maxHeartbeats 1000000 in
theorem Ip (v:OV) (w:World) (hk:v.kind≤9223372036854775807) (hs:v.space.size≤1000) (hn:v.name.size≤1000):
  Calls Tryz.prog 98 #[.agg #[.int .i64 v.kind,.string v.space,.string v.name,.int .i64 v.ver,.slice v.A v.n v.c]] w fun e w'=>e=.returned (.string (ji v.kind v.space v.name))∧Below w.heap.size w w':=by
 obtain⟨w1,hw1,B,hB,hb1,hr1⟩:=aX w v
 have HB1:=Hj hb1
 have dR:=Hj hr1
 have HW1:=Hj hw1
 have jB:=Hj hB
 have rH:Hid (VB w1 B v):=Hj (VB.aG hr1)
 obtain⟨vb0,vb1,xK,x9,yc⟩:=rH.out
 clear hb1 hr1 hw1 hB
 have HR:Hid (∀W,Calls Tryz.prog 42 #[.int .i64 v.kind,.string v.space] W fun e w'=>e=.returned (.string (bF (dZ v.kind v.space)))∧Below W.heap.size W w'):=Hj fun W=>zV v.kind v.space W hk hs
 have hs1:(bF (dZ v.kind v.space)).size≤1021:=by rw[iY];exact vV hk hs
 obtain⟨s1,Gw⟩:∃s,s=bF (dZ v.kind v.space):=⟨_,rfl⟩
 rw[←Gw] at HR hs1
 have Dz:=Hj Gw
 have Yz:¬9223372036854775807<s1.size+v.name.size:=by omega
 clear hk Gw hs hn
 go_enter Tryz.func98,Tryz.ntmps98
 go_wp2
 rw[←HW1.out,←jB.out]
 refine wp_region_noPanic ?_
 refine wp_region_held_drew (S:=(fun w'=>w'.cell? ⟨B,0,none⟩=some (.int .i64 v.kind)∧w'.cell? ⟨B,1,none⟩=some (.string v.space)∧w'.cell? ⟨B,2,none⟩=some (.string v.name)∧w'.cell? ⟨B,3,none⟩=some (.int .i64 v.ver)∧w'.cell? ⟨B,4,none⟩=some (.slice v.A v.n v.c))) (by kernel_rfl) ?_ (fun hHeld=> ?_)
 ·exact rH.out
 refine tk 0 hHeld ?_
 try simp only[pa]
 refine tk 1 hHeld ?_
 try simp only[pa]
 refine tk 2 hHeld ?_
 try simp only[pa]
 refine tk 3 hHeld ?_
 try simp only[pa]
 refine tk 5 hHeld ?_
 try simp only[pa]
 refine tk 6 hHeld ?_
 try simp only[pa]
 refine mJ 4 rfl (fun K hK=> ?_)
 go_simp
 refine(HR.out w1.drew).mono ?_
 rintro e w5 ⟨rfl,hb5⟩
 have kT:Hid (Below w1.heap.size w1 w5):=Hj ⟨hb5.os,hb5.tape,hb5.output,hb5.size,hb5.block⟩
 have HV5:Hid (VB w5 B v):=Hj (VB.aG ((hb5.block B (Cq dR.out)).trans dR.out))
 clear hb5
 refine hK.out _ _ ?_ (fun hHeld=> ?_)
 ·exact HV5.out
 clear hK K
 try simp only[pa]
 refine tk 7 hHeld ?_
 try simp only[pa]
 refine tk 8 hHeld ?_
 try simp only[pa]
 refine wpAnyH_done (by kernel_rfl) ?_ _
 refine NoPanic.normal ?_
 go_wp2
 go_ret
 refine⟨congrArg (fun s=>Ending.returned (.string s)) ?_,HB1.out.trans (kT.out.mono HB1.out.size)⟩
 rw[Dz.out]
 exact ByteArray.ext (by simp[bF,ji])
theorem kP {fn:Func} {p:Tmp} {ty:TypeId} (tmps:Array Value) {w:World} {g:Nat} {t:TypeId} {cs:Array Value} {fr:Nat×Nat} {P:Program} {fields:Array Field} (h:fn.results=#[.cell p ty]) (hp:tmps.getD p undef=.pointer (some ⟨g,0,none⟩)) (hg:w.heap[g]?=some (.cells cs t fr))
  (hu:P.underlying ty=some (.struct fields)) (hi:(P.info? ty).map (·.size)=some cs.size):(results fn tmps).run P w=.ok (.agg cs) w:=by
 have hp':tmps[p]?.getD undef=.pointer (some ⟨g,0,none⟩):=by simpa using hp
 simp[results,h,hp',asAddr,run_loadVar_row (P:=P) w g t ty cs fr _ hg hu rfl hi]
set_option maxHeartbeats 1000000 in
theorem jM (v:OV) (w:World) (data:List UInt8) (hd:RB w v.A v.n data) (hn:v.n≤1000000):
  Calls Tryz.prog 46 #[.agg #[.int .i64 v.kind,.string v.space,.string v.name,.int .i64 v.ver,.slice v.A v.n v.c]] w fun e w'=>∃A1 c1,e=.returned (.agg #[.int .i64 v.kind,.string v.space,.string v.name,.int .i64 v.ver,.slice A1 v.n c1])∧OB w' w.heap.size (.slice A1 v.n c1) data∧Below w.heap.size w w':=by
 obtain⟨w1,hw1,B,hB,hb1,hr1⟩:=aX w v
 have HB1:=Hj hb1
 have dR:=Hj hr1
 have HW1:=Hj hw1
 have jB:=Hj hB
 have rH:Hid (VB w1 B v):=Hj (VB.aG hr1)
 obtain⟨vb0,vb1,xK,x9,yc⟩:=rH.out
 clear hb1 hr1 hw1 hB
 have hb2:=(Below.refl w1.heap.size w1).alloc Kv (.cells #[.int .i64 0,.string ⟨#[]⟩,.string ⟨#[]⟩,.int .i64 0,.slice none 0 0] 37)
 have hr2:=heap_alloc_new w1 (.cells #[.int .i64 0,.string ⟨#[]⟩,.string ⟨#[]⟩,.int .i64 0,.slice none 0 0] 37)
 obtain⟨w2,hw2⟩:∃W,W=w1.alloc (.cells #[.int .i64 0,.string ⟨#[]⟩,.string ⟨#[]⟩,.int .i64 0,.slice none 0 0] 37):=⟨_,rfl⟩
 rw[←hw2] at hb2 hr2
 have hs1:w1.heap.size=B+1:=by rw[HW1.out,jB.out];simp
 rw[hs1] at hr2
 have HB2:Hid (Below w.heap.size w w2):=Hj (HB1.out.trans (hb2.mono HB1.out.size))
 have hrow2:w2.heap[B]?=some (.cells #[.int .i64 v.kind,.string v.space,.string v.name,.int .i64 v.ver,.slice v.A v.n v.c] 37 (0,0)):=(hb2.block B (Cq dR.out)).trans dR.out
 have HC:=Hj (bT v.A v.n v.c data w2 (hd.keep (Kz (HB2.out))) (by omega))
 have HDL:Hid (data.length=v.n):=Hj hd.1
 have HR2:=Hj hr2
 have Ej:=Hj hrow2
 have HW2:Hid (w2=(w.alloc (.cells #[.int .i64 v.kind,.string v.space,.string v.name,.int .i64 v.ver,.slice v.A v.n v.c] 37)).alloc (.cells #[.int .i64 0,.string ⟨#[]⟩,.string ⟨#[]⟩,.int .i64 0,.slice none 0 0] 37)):=Hj (by rw[hw2,HW1.out])
 obtain⟨b20,b21,b22,b23,Gx⟩:=VB.aG hrow2
 rw[HDL.out] at HC
 have Dz:=Hj hs1
 clear hb2 hr2 hw2 hs1 hrow2 hd hn vb0 vb1 xK x9 yc
 go_enter Tryz.func46,Tryz.ntmps46
 go_wp2_with (go_at_call 94;rw[←HW2.out];(with_reducible refine HC.out.mono ?_);rintro e w3 ⟨A1,c1,rfl,ho3,hb3⟩;have Iy:=Hj ho3;have HB3:=Hj hb3;have hrow3:=(hb3.block B (Cq Ej.out)).trans Ej.out;have HR3:=Hj ((hb3.block (B+1) (Cq HR2.out)).trans HR2.out);have OG:=Hj hrow3;obtain⟨b30,b31,b32,b33,b34⟩:=VB.aG hrow3;obtain⟨d30,d31,d32,d33,d34⟩:=VB.aG (v:=⟨0,⟨#[]⟩,⟨#[]⟩,0,none,0,0⟩) HR3.out;have f3:∀k,w3.frozen? ⟨B,k,none⟩=false:=(fun k=>Kj hrow3);have g3:∀k,w3.frozen? ⟨B+1,k,none⟩=false:=(fun k=>Kj HR3.out);rw[←jB.out];clear ho3 hb3 hrow3)
 have hF:Fr (fun k=>k=B∨k=B+1) w3 ((((((w3.setCell ⟨B,4,none⟩ (.slice A1 v.n c1)).setCell ⟨B+1,0,none⟩ (.int .i64 v.kind)).setCell ⟨B+1,1,none⟩ (.string v.space)).setCell ⟨B+1,2,none⟩ (.string v.name)).setCell ⟨B+1,3,none⟩ (.int .i64 v.ver)).setCell ⟨B+1,4,none⟩ (.slice A1 v.n c1)):=
  ((((((Fr.refl _ w3).setCell (p:=⟨B,4,none⟩) (fun _=>.inl rfl) _).setCell (p:=⟨B+1,0,none⟩) (fun _=>.inr rfl) _).setCell (p:=⟨B+1,1,none⟩) (fun _=>.inr rfl) _).setCell (p:=⟨B+1,2,none⟩) (fun _=>.inr rfl) _).setCell (p:=⟨B+1,3,none⟩) (fun _=>.inr rfl) _).setCell (p:=⟨B+1,4,none⟩) (fun _=>.inr rfl) _
 have WU:=(Below.heap_setCell w3 ⟨B,4,none⟩ (.slice A1 v.n c1) (B+1) (fun e=>Nat.succ_ne_self B e)).trans HR3.out
 refine bodyPost_ret (kP _ rfl rfl (Rl WU) Tryz.underlying37 jk) rfl ⟨A1,c1,rfl,?_,?_⟩
 ·refine OB.mono (OB.dP Iy.out fun k hk=>hF.block k (Iy.out.lt k hk).2 fun e=> ?_) HB2.out.size
  obtain⟨cur,hcur⟩:=ak Iy.out hk
  rcases e with rfl | rfl
  ·exact absurd (aj hcur OG.out) (by decide)
  ·exact absurd (aj hcur HR3.out) (by decide)
 ·have hbw:=HB2.out.trans (HB3.out.mono HB2.out.size)
  exact hbw.trans (hF.below hbw.size fun i _ e=>by rw[←jB.out];omega)
section
variable {w w' w0:World} {S:Nat→Prop} {gl g:Nat} {m m':DM} {L:LM} {ea:Nat→Addr}
end
section
variable {w w1 w' w0:World} {S P:Nat→Prop} {gl g:Nat} {m m':DM} {L L':LM} {ea:Nat→Addr}
end
section
variable {w w1 w' w0:World} {S P:Nat→Prop} {gl g:Nat} {m:DM} {L L':LM} {ea:Nat→Addr} {tv rv:Value} {ws:List (List UInt8×Value)}
theorem nU.below (h:nU w P gl g L) (hb:Below w.heap.size w w'):nU w' P gl g L:=let ⟨tv,rv,ws,hV⟩:=h;⟨tv,rv,ws,hV.below hb⟩
theorem nU.fr (h:nU w P gl g L) (hf:Fr S w w') (hn:∀k,P k→¬S k):nU w' P gl g L:=let ⟨tv,rv,ws,hV⟩:=h;⟨tv,rv,ws,hV.fr hf hn⟩
end
end Go.Proofs.YtdhbpajamlfacaaGreatDoor
