/- Layers 4 and 20: serial numbers' figures, keys' beginnings, kinds. -/
import Derived.Test.YtdhbpajamlfacaaGreatDoorStP
import Derived.Test.YtdhbpajamlfacaaGreatDoorWho
import Derived.Test.YtdhbpajamlfacaaGreatDoorShelf
import Derived.Deep.LoopGhost
import Derived.Deep.RegionHeld3
import Derived.Test.YtdhbpajamlfacaaGreatDoorTabSO
import Derived.Test.YtdhbpajamlfacaaGreatDoorErrs
import Derived.Test.YtdhbpajamlfacaaGreatDoorSha
import Derived.Test.YtdhbpajamlfacaaGreatDoorDiskOps
set_option maxHeartbeats 2000000
set_option maxRecDepth 100000
namespace Go.Proofs.YtdhbpajamlfacaaGreatDoor
open Go.RowKit SO
def wF (n:Nat):List UInt8:=if n=0 then [] else sG n
theorem Ji:wF 0=[]:=rfl
theorem DJ (n:Nat):sG n=UInt8.ofNat (48+n % 10)::wF (n / 10):=by
 by_cases h:n<10
 ·rw [lW h,wF,aF (by omega),Nat.mod_eq_of_lt h]
 ·rw [BN h,wF,aG (by omega)]
theorem Nr {n:Nat} (h:0<n):wF n=UInt8.ofNat (48+n % 10)::wF (n / 10):=by
 rw[←DJ,wF,aG (by omega)]
theorem uo:∀(k n:Nat),n<10 ^ (k+1)→(sG n).length≤k+1
 | 0,n,h=>by rw[lW (by simpa using h)];simp
 | k+1,n,h=>by
  by_cases h10:n<10
  ·rw [lW h10];simp
  ·have hp:n / 10<10 ^ (k+1):=by
    rw[Nat.div_lt_iff_lt_mul (by omega)]
    rw[Nat.pow_succ] at h
    exact h
   have:=uo k (n / 10) hp
   rw[BN h10,qV]
   omega
/-- A number of the machine. -/
def Sm (n:Nat):Prop:=n<9223372036854775808
theorem Sm.le {n m:Nat} (h:Sm n) (k:m≤n):Sm m:=Nat.lt_of_le_of_lt k h
theorem Sm.len {n:Nat} (h:Sm n):(sG n).length≤19:=uo 18 n (by unfold Sm at h;omega)
theorem Lu (n:Nat) (hn:Sm n):∃(c:UInt8) (m:Nat),c=UInt8.ofNat (48+n % 10)∧m=n / 10∧48+(n:Int).tmod 10=(c.toNat:Int)∧48+(n:Int) % 10=(c.toNat:Int)∧(n:Int).tdiv 10=(m:Int)∧(n:Int) / 10=(m:Int)∧
  wrap64 (m:Int)=(m:Int)∧wrap64 (c.toNat:Int)=(c.toNat:Int)∧(c.toNat:Int) % 256=(c.toNat:Int):=by
 unfold Sm at hn
 have h1:(n:Int).tmod 10=((n % 10:Nat):Int):=by rw[Int.tmod_eq_emod_of_nonneg (by omega)];omega
 have h2:(UInt8.ofNat (48+n % 10)).toNat=48+n % 10:=by rw[UInt8.toNat_ofNat'];omega
 refine⟨_,_,rfl,rfl,?_,?_,?_,?_,?_,?_,?_⟩
 ·rw [h1,h2];omega
 ·rw [h2];omega
 ·rw [Int.tdiv_eq_ediv_of_nonneg (by omega)];omega
 ·omega
 ·unfold wrap64;omega
 ·rw [h2];unfold wrap64;omega
 ·rw [h2];omega
theorem jF (kind:Int) (w:World):Cl 57 #[.int .i64 kind] w fun e w'=>e=.returned (.bool (fV kind))∧w=w':=by
 by_cases h5:kind=5
 ·have HI:Hid (fV kind=true):=Hj (by rw[h5];rfl)
  have q:(kind==5)=true:=by rw[h5];rfl
  clear h5
  go_enter Tryz.func57,Tryz.ntmps57
  go_wp2
  go_ret
  exact⟨bC HI.out.symm,rfl⟩
 ·have HI:Hid (fV kind=(kind==6)):=Hj (by unfold fV;rw[aQ h5,Bool.false_or];rfl)
  have q:(kind==5)=false:=gQ.2 h5
  clear h5
  go_enter Tryz.func57,Tryz.ntmps57
  go_wp2
  go_ret
  exact⟨bC HI.out.symm,rfl⟩
theorem Nl (kind:Int) (w:World):Cl 59 #[.int .i64 kind] w fun e w'=>e=.returned (.int .i64 (if kind=1 then 8 else 32))∧w=w':=by
 by_cases h5:kind=1
 ·rw [aF h5]
  have q:(kind==1)=true:=by rw[h5];rfl
  clear h5
  go_enter Tryz.func59,Tryz.ntmps59
  go_wp2
  go_ret
  exact⟨rfl,rfl⟩
 ·rw [aG h5]
  have q:(kind==1)=false:=gQ.2 h5
  clear h5
  go_enter Tryz.func59,Tryz.ntmps59
  go_wp2
  go_ret
  exact⟨rfl,rfl⟩
theorem Jj (k:Int) (w:World) (hk:k≤9223372036854775807):
  Cl 89 #[.int .i64 k] w fun e w'=>e=.returned (.string (dG (jh k)))∧Bw w w':=by
 by_cases hneg:k<0
 ·have HS:Hid (jh k=[]):=Hj (aF hneg)
  go_enter Tryz.func89,Tryz.ntmps89
  go_wp2
  go_ret
  exact⟨by rw[HS.out];rfl,aj _ _⟩
 obtain⟨n,rfl⟩:∃n:Nat,k=(n:Int):=⟨k.toNat,by omega⟩
 have HS:Hid (jh (n:Int)=(sG n).reverse):=Hj (by unfold jh;rw[aG hneg];rfl)
 have hn:Sm n:=by unfold Sm;omega
 have HN:=Hj hn
 have n0:¬(n:Int)<0:=by omega
 obtain⟨c0,m0,hc0,hm0,hd1,hd2,hd3,hd4,hd5,hd6,hd7⟩:=Lu n hn
 have HM0:=Hj hm0
 have HC0:=Hj hc0
 have QA:=Hj (OB.lit w w.heap.size Kv [c0] 1 rfl (by simp[maxLen]))
 clear hneg hk hn hm0 hc0
 go_enter Tryz.func89,Tryz.ntmps89
 go_wp2
 clear hd1 hd2 hd3 hd4 hd5 hd6 hd7 n0
 have HLL:Hid ((sG n).length≤19):=Hj HN.out.len
 go_loopg [0,3] n (fun gk s0 s3 wr=>∃(acc:List UInt8) (m:Nat),s0=.int .i64 (m:Int)∧OB wr w.heap.size s3 acc∧sG n=acc++wF m∧m≤gk∧m≤n∧Bw w wr)
 case atStart=>exact⟨[c0],m0,rfl,QA.out,by rw[HC0.out,HM0.out];exact DJ n,by rw[HM0.out];omega,by rw[HM0.out];omega,(aj _ w).alloc Kv _⟩
 case round=>
  obtain⟨acc,m,rfl,hob,hlow,QB,hmn,hb⟩:=hrel
  have hlen:acc.length≤19:=by
   have h1:=bJ List.length hlow
   have:=HLL.out
   rw[bP] at h1
   omega
  obtain⟨A,c,e,hc1,hc2,hrb⟩:=hob.form
  subst e
  have Af:=Hj hob
  have HB:=Hj hb
  have YL:=Hj hlow
  have HMG:=Hj QB
  have HMN:=Hj hmn
  have HLen:=Hj hlen
  by_cases hm:m=0
  ·subst hm
   have hacc:sG n=acc:=by rw[hlow,Ji,List.append_nil]
   have hpos:0<acc.length:=by rw[←hacc,DJ];simp
   obtain⟨b,o,rfl,-⟩:=hrb.2 hpos
   have U3:=Hj (qo b o c w.heap.size acc wr hob (by omega))
   have hbl:=(OB.lt hob b rfl).1
   have Jk:=Hj hbl
   have HA:=Hj hacc
   obtain⟨k,hk⟩:∃k,k=acc.length:=⟨_,rfl⟩
   rw[←hk] at U3 ⊢
   have HK:Hid (acc.reverse.length=k):=Hj (by rw[List.length_reverse,hk])
   clear hob hb hlow QB hmn hlen hc1 hc2 hrb hacc hpos hbl hk
   go_wp2_with (go_at_call 148;((with_reducible refine U3.out.mono ?_);rintro e w2 ⟨rfl,ho2,hf2⟩;have F2:=Hj hf2;have hcv:∀d,Tryz.prog.underlying d=some .string→(convert 35 d (.slice (some ⟨b,o,none⟩) k c)).run Tryz.prog w2=.ok (.string (dG acc.reverse)) w2:=(fun d hd=>by
     obtain⟨A',c',e',-,-,h3⟩:=ho2.form
     injection e' with e1 e2 e3
     subst e1
     rw[HK.out] at h3
     exact iD Tryz.underlying35 Tryz.underlying5 hd h3);have hcv2:=hcv 9 Tryz.underlying9;clear hcv ho2 hf2))
   go_ret
   exact⟨by rw[HS.out,HA.out];rfl,HB.out.trans (F2.out.below HB.out.size fun q _ e=>by rw[e];exact Jk.out)⟩
  ·have m0:(0:Int)<(m:Int):=Int.natCast_pos.2 (Nat.pos_of_ne_zero hm)
   obtain⟨y,m1,hy,hm1,hd1,hd2,hd3,hd4,hd5,hd6,hd7⟩:=Lu m (HN.out.le hmn)
   have HW5:=Hj hd5
   have HM1:=Hj hm1
   have HY:=Hj hy
   have HM:=Hj hm
   clear hob hb hlow QB hmn hlen hc1 hc2 hrb hm1 hy hm
   go_wp2_with (at_builtin;(refine aN rfl (.tmp 17) (.tmp 22) 35 rfl (OB.alloc Af.out _) rfl (Src.lit wr _ [y] rfl 1 1 rfl) rfl (by clear hd1 hd2 hd3 hd4 hd5 hd6 hd7;have:=HLen.out;simp;omega) (by clear hd1 hd2 hd3 hd4 hd5 hd6 hd7;have:=HB.out.size;simp;omega) ?_;intro v2 w2 hown2 dQ jZ;obtain⟨A2,c2,e2,-,-,-⟩:=hown2.form;subst e2;have O2:=Hj hown2;have B2:Hid (Bw w w2):=Hj (bD ((HB.out).alloc HB.out.size _) dQ (OB.alloc Af.out _) Kv (by clear hd1 hd2 hd3 hd4 hd5 hd6 hd7;have:=HB.out.size;simp;omega));clear hown2 dQ jZ))
   go_roundg m1
   case measure=>clear hd1 hd2 hd3 hd4 hd5 hd6 hd7;have:=HMG.out;have:=HM.out;have:=HM1.out;omega
   case rel=>exact⟨acc++[y],m1,by first | rfl | rw[HW5.out],by have h:=O2.out;rw[show (acc++[y]).length=acc.length+1 by simp] at h;exact h,by rw[YL.out,Nr (Nat.pos_of_ne_zero HM.out),←HY.out,←HM1.out,mQ];rfl,bZ _,by clear hd1 hd2 hd3 hd4 hd5 hd6 hd7;have:=HM1.out;have:=HMN.out;omega,B2.out⟩
abbrev kN:ByteArray:=⟨#[97,98,99,100,101,102,103,104,105,106,107,108,109,110,111,112,113,114,115,116,117,118,119,120,121,122,48,49,50,51,52,53,54,55,56,57]⟩
theorem U4:((List.range 256).all fun n=>decide (0≤Lib.indexByte kN.data.toList (UInt8.ofNat n))==qZ (UInt8.ofNat n))=true:=by decide+kernel
theorem YM (c:UInt8):decide (0≤Lib.indexByte kN.data.toList c)=qZ c:=by
 have h:=List.all_eq_true.1 U4 c.toNat (by simpa using c.toNat_lt)
 simpa using h
theorem xQ {s:ByteArray} {i:Nat} (h:i<s.size):s.data.toList.getD i 0=s[i]:=by
 rw[nG,fJ (by rw[size_data];exact h)]
 rfl
theorem LC {l:List UInt8} {p:UInt8→Bool} (h:∀j,j<l.length→p (l.getD j 0)=true):l.all p=true:=by
 rw[List.all_eq_true]
 intro x hx
 obtain⟨j,hj,e⟩:=List.mem_iff_getElem.1 hx
 have:=h j hj
 rwa [nG,fJ hj,Option.getD_some,e] at this
theorem hyp0:((⟨#[45]⟩:ByteArray)[0].toNat:Int)=45:=rfl
theorem vg (w:World) (a b:Nat):(w.drewN a).drewN b=w.drewN (a+b):=by simp[World.drewN,Nat.add_assoc]
theorem Label_any (s:ByteArray) (w:World):
  Cl 131 #[.string s] w fun e w'=>e=.returned (.bool (eF s.data.toList))∧∃k,w'=w.drewN k:=by
 have hsz:=size_data s
 by_cases h0:s.size=0
 ·have q:(s.toList==[])=true:=by rw[qh,mP (l:=s.data.toList) (by rw[hsz];exact h0)];rfl
  have HL:Hid (eF s.data.toList=false):=Hj (by unfold eF;rw[hsz,h0];rfl)
  clear h0 hsz
  go_enter Tryz.func131,Tryz.ntmps131
  go_wp2
  go_ret
  exact⟨bC HL.out.symm,0,rfl⟩
 have q:(s.toList==[])=false:=by
  rw[qh]
  cases hl:s.data.toList with
  | nil=>rw[hl] at hsz;exact absurd hsz.symm h0
  | cons a b=>rfl
 by_cases yM:24<s.size
 ·have HL:Hid (eF s.data.toList=false):=Hj (by unfold eF;rw[hsz,aQ (show ¬s.size≤24 by omega),Bool.false_and,Bool.and_false])
  have q2:(24:Int)<(s.size:Int):=by omega
  clear h0 hsz yM
  go_enter Tryz.func131,Tryz.ntmps131
  go_wp2
  go_ret
  exact⟨bC HL.out.symm,0,rfl⟩
 have q2:¬(24:Int)<(s.size:Int):=by omega
 have HL:Hid (eF s.data.toList=(!(Lib.hasPrefix s.data.toList [45])&&(!(Lib.hasSuffix s.data.toList [45])&&s.data.toList.all fun c=>(c==45)||qZ c))):=Hj (by
  unfold eF;rw[hsz,aZ (show 0<s.size by omega),aZ (show s.size≤24 by omega),Bool.true_and,Bool.true_and])
 have HP:Hid (Cl 192 #[.string s,.string ⟨#[45]⟩] w fun e w'=>e=.returned (.bool (Lib.hasPrefix s.data.toList [45]))∧w'=w):=Hj (Tryz.strings_HasPrefix s ⟨#[45]⟩ w)
 have HS:Hid (Cl 193 #[.string s,.string ⟨#[45]⟩] w fun e w'=>e=.returned (.bool (Lib.hasSuffix s.data.toList [45]))∧w'=w):=Hj (Tryz.strings_HasSuffix s ⟨#[45]⟩ w (by omega))
 have HZ:=Hj hsz
 have HZ24:Hid (s.size≤24):=Hj (by omega)
 clear hsz h0 yM
 cases hp:Lib.hasPrefix s.data.toList [45] with
 | true=>
  rw[hp] at HP HL
  clear hp
  go_enter Tryz.func131,Tryz.ntmps131
  go_wp2_with (go_at_call 192;refine HP.out.mono ?_;rintro e w' ⟨rfl,hw⟩;rw[hw];clear hw)
  go_ret
  exact⟨bC (by rw[HL.out];rfl),0,rfl⟩
 | false=>
  rw[hp] at HP HL
  clear hp
  cases hp:Lib.hasSuffix s.data.toList [45] with
  | true=>
   rw[hp] at HS HL
   clear hp
   go_enter Tryz.func131,Tryz.ntmps131
   go_wp2_with (first
    | (go_at_call 192;refine HP.out.mono ?_;rintro e w' ⟨rfl,hw⟩;rw[hw];clear hw)
    | (go_at_call 193;refine HS.out.mono ?_;rintro e w' ⟨rfl,hw⟩;rw[hw];clear hw))
   go_ret
   exact⟨bC (by rw[HL.out];rfl),0,rfl⟩
  | false=>
   rw[hp] at HS HL
   clear hp
   have HL2:Hid (eF s.data.toList=s.data.toList.all fun c=>(c==45)||qZ c):=Hj (by rw[HL.out];rfl)
   clear HL
   go_enter Tryz.func131,Tryz.ntmps131
   go_wp2_with (first
    | (go_at_call 192;refine HP.out.mono ?_;rintro e w' ⟨rfl,hw⟩;rw[hw];clear hw)
    | (go_at_call 193;refine HS.out.mono ?_;rintro e w' ⟨rfl,hw⟩;rw[hw];clear hw))
   go_loopg [21] s.size (fun gk s21 wr=>∃i k:Nat,s21=.int .i64 (i:Int)∧i+gk=s.size∧(∀j,j<i→((s.data.toList.getD j 0==45)||qZ (s.data.toList.getD j 0))=true)∧wr=w.drewN k)
   case atStart=>exact⟨0,0,rfl,by omega,fun j hj=>absurd hj (by omega),rfl⟩
   case round=>
    obtain⟨i,k,rfl,hik,hall,hwr⟩:=hrel
    have HI:=Hj hik
    have pK:=Hj hall
    have HW:=Hj hwr
    have yN:=Hj HZ24.out
    by_cases hlt:i<s.size
    ·have HG:=Hj (xQ hlt)
     have hsi:(i:Int)<(s.size:Int):=by omega
     have hi0:(0:Int)≤(i:Int):=by omega
     by_cases hc:s[i].toNat=45
     ·have hcc:s[i]=45:=UInt8.toNat_inj.1 hc
      have HC:=Hj hcc
      have hq:(s[i].toNat:Int)=45:=by omega
      have h45:=hyp0
      clear hik hall hwr hc hcc
      go_wp2
      go_quiet (fail)
      go_wp2
      go_roundg (gk-1)
      case measure=>have:=HI.out;omega
      case rel=>
       refine⟨i+1,_,by go_num,by have:=HI.out;omega,fun j hj=> ?_,by rw[HW.out,vg]⟩
       by_cases e:j=i
       ·subst e;rw[HG.out,HC.out];rfl
       ·exact pK.out j (by omega)
     ·have hq:¬(s[i].toNat:Int)=45:=by omega
      have hqb:((s[i].toNat:Int) !=45)=true:=by simpa using hq
      have h45:=hyp0
      have HI2:=YM s[i]
      cases hlc:qZ s[i] with
      | true=>
       have HC:=Hj hlc
       rw[hlc] at HI2
       have h3:0≤Lib.indexByte kN.data.toList s[i]:=rG HI2
       obtain⟨X,hX⟩:∃X,X=Lib.indexByte kN.data.toList s[i]:=⟨_,rfl⟩
       rw[←hX] at h3
       have U5:Hid (∀W,Cl 194 #[.string ⟨#[97,98,99,100,101,102,103,104,105,106,107,108,109,110,111,112,113,114,115,116,117,118,119,120,121,122,48,49,50,51,52,53,54,55,56,57]⟩,.int .u8 (s[i].toNat:Int)] W fun e w'=>e=.returned (.int .i64 X)∧w'=W):=Hj fun W=>by
        have h:=Tryz.strings_IndexByte kN (s[i].toNat:Int) W
        rw[show ((s[i].toNat:Int)).toNat.toUInt8=s[i] by simp,←hX] at h
        exact h
       clear hik hall hwr hc hlc HI2 hX
       go_wp2
       go_quiet ((go_at_call 194;with_reducible exact Calls.quiet_of_same (U5.out _)))
       go_wp2
       go_roundg (gk-1)
       case measure=>have:=HI.out;omega
       case rel=>
        refine⟨i+1,_,by go_num,by have:=HI.out;omega,fun j hj=> ?_,by rw[HW.out,vg]⟩
        by_cases e:j=i
        ·subst e;rw[HG.out,HC.out,Bool.or_true]
        ·exact pK.out j (by omega)
      | false=>
       have HC:=Hj hlc
       rw[hlc] at HI2
       have h3:¬0≤Lib.indexByte kN.data.toList s[i]:=vX HI2
       obtain⟨X,hX⟩:∃X,X=Lib.indexByte kN.data.toList s[i]:=⟨_,rfl⟩
       rw[←hX] at h3
       have h4:X<0:=by omega
       have U5:Hid (∀W,Cl 194 #[.string ⟨#[97,98,99,100,101,102,103,104,105,106,107,108,109,110,111,112,113,114,115,116,117,118,119,120,121,122,48,49,50,51,52,53,54,55,56,57]⟩,.int .u8 (s[i].toNat:Int)] W fun e w'=>e=.returned (.int .i64 X)∧w'=W):=Hj fun W=>by
        have h:=Tryz.strings_IndexByte kN (s[i].toNat:Int) W
        rw[show ((s[i].toNat:Int)).toNat.toUInt8=s[i] by simp,←hX] at h
        exact h
       have HN:Hid (¬s[i]=45):=Hj fun e=>hc (by rw[e];rfl)
       clear hik hall hwr hc hlc HI2 hX h3
       go_wp2
       go_quiet ((go_at_call 194;with_reducible exact Calls.quiet_of_same (U5.out _)))
       go_wp2
       go_ret
       refine⟨bC ?_,_,by rw[HW.out,vg]⟩
       rw[HL2.out]
       symm
       rw[Bool.eq_false_iff]
       intro h
       have:=List.all_eq_true.1 h s[i] (by rw[←HG.out,nG,fJ (by rw[HZ.out];exact hlt)];exact List.getElem_mem _)
       rw[HC.out,Bool.or_false] at this
       exact HN.out (by simpa using this)
    ·have e:i=s.size:=by omega
     have q5:¬(i:Int)<(s.size:Int):=by omega
     have HLab:Hid (eF s.data.toList=true):=Hj (by rw[HL2.out];exact LC fun j hj=>pK.out j (by rw[HZ.out] at hj;omega))
     clear hik hall hwr e hlt
     go_wp2
     go_ret
     exact⟨bC HLab.out.symm,_,HW.out⟩
theorem Ea (v:OV) (w:World) (hI:fV v.kind=true) (ha:eF v.space.data.toList=false):
  Cl 72 #[.agg (ov v)] w fun e w'=>e=.returned (.bool (false))∧Bw w w':=by
 obtain⟨w1,hw1,B,hB,hb1,hr1⟩:=bI w v
 have HB1:=Hj hb1
 have dZ:=Hj hr1
 have HW1:=Hj hw1
 have kT:=Hj hB
 have uK:Hid (VB w1 B v):=Hj (VB.aK hr1)
 obtain⟨vb0,vb1,zX,Ah,Aj⟩:=uK.out
 clear hb1 hr1 hw1 hB
 have tq:=Hj (jF v.kind w1)
 rw[hI] at tq
 clear hI
 have AP:=Hj (Label_any v.space w1)
 rw[ha] at AP
 clear ha
 go_enter Tryz.func72,Tryz.ntmps72
 go_wp2_with (first
  | (go_at_call 57;rw[←HW1.out,←kT.out];(refine tq.out.mono ?_);rintro e w' ⟨rfl,rfl⟩)
  | (go_at_call 131;(refine AP.out.mono ?_);rintro e w2 ⟨rfl,k2,hk2⟩;have LJ:=Hj hk2;have Y1:VB w2 B v:=(by rw[hk2];exact uK.out);obtain⟨v20,v21,v22,v23,v24⟩:=Y1;clear hk2))
 go_ret
 exact⟨rfl,(by rw[LJ.out];exact below_drewN HB1.out _)⟩
theorem Va (v:OV) (w:World) (hI:fV v.kind=true) (ha:eF v.space.data.toList=true) (hb:¬1≤v.kind):
  Cl 72 #[.agg (ov v)] w fun e w'=>e=.returned (.bool (false))∧Bw w w':=by
 obtain⟨w1,hw1,B,hB,hb1,hr1⟩:=bI w v
 have HB1:=Hj hb1
 have dZ:=Hj hr1
 have HW1:=Hj hw1
 have kT:=Hj hB
 have uK:Hid (VB w1 B v):=Hj (VB.aK hr1)
 obtain⟨vb0,vb1,zX,Ah,Aj⟩:=uK.out
 clear hb1 hr1 hw1 hB
 have tq:=Hj (jF v.kind w1)
 rw[hI] at tq
 clear hI
 have AP:=Hj (Label_any v.space w1)
 rw[ha] at AP
 clear ha
 go_enter Tryz.func72,Tryz.ntmps72
 go_wp2_with (first
  | (go_at_call 57;rw[←HW1.out,←kT.out];(refine tq.out.mono ?_);rintro e w' ⟨rfl,rfl⟩)
  | (go_at_call 131;(refine AP.out.mono ?_);rintro e w2 ⟨rfl,k2,hk2⟩;have LJ:=Hj hk2;have Y1:VB w2 B v:=(by rw[hk2];exact uK.out);obtain⟨v20,v21,v22,v23,v24⟩:=Y1;clear hk2))
 go_ret
 exact⟨rfl,(by rw[LJ.out];exact below_drewN HB1.out _)⟩
theorem Vb (v:OV) (w:World) (hI:fV v.kind=true) (ha:eF v.space.data.toList=true) (hb:1≤v.kind) (hc:¬v.kind≤7):
  Cl 72 #[.agg (ov v)] w fun e w'=>e=.returned (.bool (false))∧Bw w w':=by
 obtain⟨w1,hw1,B,hB,hb1,hr1⟩:=bI w v
 have HB1:=Hj hb1
 have dZ:=Hj hr1
 have HW1:=Hj hw1
 have kT:=Hj hB
 have uK:Hid (VB w1 B v):=Hj (VB.aK hr1)
 obtain⟨vb0,vb1,zX,Ah,Aj⟩:=uK.out
 clear hb1 hr1 hw1 hB
 have tq:=Hj (jF v.kind w1)
 rw[hI] at tq
 clear hI
 have AP:=Hj (Label_any v.space w1)
 rw[ha] at AP
 clear ha
 go_enter Tryz.func72,Tryz.ntmps72
 go_wp2_with (first
  | (go_at_call 57;rw[←HW1.out,←kT.out];(refine tq.out.mono ?_);rintro e w' ⟨rfl,rfl⟩)
  | (go_at_call 131;(refine AP.out.mono ?_);rintro e w2 ⟨rfl,k2,hk2⟩;have LJ:=Hj hk2;have Y1:VB w2 B v:=(by rw[hk2];exact uK.out);obtain⟨v20,v21,v22,v23,v24⟩:=Y1;clear hk2))
 go_ret
 exact⟨rfl,(by rw[LJ.out];exact below_drewN HB1.out _)⟩
theorem Vd (v:OV) (w:World) (hI:fV v.kind=true) (ha:eF v.space.data.toList=true) (hb:1≤v.kind) (hc:v.kind≤7):
  Cl 72 #[.agg (ov v)] w fun e w'=>e=.returned (.bool (eF v.name.data.toList))∧Bw w w':=by
 obtain⟨w1,hw1,B,hB,hb1,hr1⟩:=bI w v
 have HB1:=Hj hb1
 have dZ:=Hj hr1
 have HW1:=Hj hw1
 have kT:=Hj hB
 have uK:Hid (VB w1 B v):=Hj (VB.aK hr1)
 obtain⟨vb0,vb1,zX,Ah,Aj⟩:=uK.out
 clear hb1 hr1 hw1 hB
 have tq:=Hj (jF v.kind w1)
 rw[hI] at tq
 clear hI
 have AP:=Hj (Label_any v.space w1)
 rw[ha] at AP
 clear ha
 have HLn:Hid (∀W,Cl 131 #[.string v.name] W fun e w'=>e=.returned (.bool (eF v.name.data.toList))∧∃k,w'=W.drewN k):=Hj fun W=>Label_any v.name W
 go_enter Tryz.func72,Tryz.ntmps72
 go_wp2_with (first
  | (go_at_call 57;rw[←HW1.out,←kT.out];(refine tq.out.mono ?_);rintro e w' ⟨rfl,rfl⟩)
  | (go_at_call 131;(with_reducible refine AP.out.mono ?_);rintro e w2 ⟨rfl,k2,hk2⟩;have LJ:=Hj hk2;have Y1:VB w2 B v:=(by rw[hk2];exact uK.out);obtain⟨v20,v21,v22,v23,v24⟩:=Y1;clear hk2)
  | (go_at_call 131;(with_reducible refine(HLn.out _).mono ?_);rintro e w3 ⟨rfl,k3,hk3⟩;have Yt:=Hj hk3;clear hk3))
 go_ret
 exact⟨rfl,(by rw[Yt.out,LJ.out];exact below_drewN (below_drewN HB1.out _) _)⟩
theorem Eb (v:OV) (w:World) (hI:fV v.kind=false) (ha:(v.space.toList==[])=false):
  Cl 72 #[.agg (ov v)] w fun e w'=>e=.returned (.bool (false))∧Bw w w':=by
 obtain⟨w1,hw1,B,hB,hb1,hr1⟩:=bI w v
 have HB1:=Hj hb1
 have dZ:=Hj hr1
 have HW1:=Hj hw1
 have kT:=Hj hB
 have uK:Hid (VB w1 B v):=Hj (VB.aK hr1)
 obtain⟨vb0,vb1,zX,Ah,Aj⟩:=uK.out
 clear hb1 hr1 hw1 hB
 have tq:=Hj (jF v.kind w1)
 rw[hI] at tq
 clear hI
 go_enter Tryz.func72,Tryz.ntmps72
 go_wp2_with (first
  | (go_at_call 57;rw[←HW1.out,←kT.out];(refine tq.out.mono ?_);rintro e w' ⟨rfl,rfl⟩))
 go_ret
 exact⟨rfl,HB1.out⟩
theorem Ve (v:OV) (w:World) (hI:fV v.kind=false) (ha:(v.space.toList==[])=true) (hb:¬1≤v.kind):
  Cl 72 #[.agg (ov v)] w fun e w'=>e=.returned (.bool (false))∧Bw w w':=by
 obtain⟨w1,hw1,B,hB,hb1,hr1⟩:=bI w v
 have HB1:=Hj hb1
 have dZ:=Hj hr1
 have HW1:=Hj hw1
 have kT:=Hj hB
 have uK:Hid (VB w1 B v):=Hj (VB.aK hr1)
 obtain⟨vb0,vb1,zX,Ah,Aj⟩:=uK.out
 clear hb1 hr1 hw1 hB
 have tq:=Hj (jF v.kind w1)
 rw[hI] at tq
 clear hI
 go_enter Tryz.func72,Tryz.ntmps72
 go_wp2_with (first
  | (go_at_call 57;rw[←HW1.out,←kT.out];(refine tq.out.mono ?_);rintro e w' ⟨rfl,rfl⟩))
 go_ret
 exact⟨rfl,HB1.out⟩
theorem Vf (v:OV) (w:World) (hI:fV v.kind=false) (ha:(v.space.toList==[])=true) (hb:1≤v.kind) (hc:¬v.kind≤7):
  Cl 72 #[.agg (ov v)] w fun e w'=>e=.returned (.bool (false))∧Bw w w':=by
 obtain⟨w1,hw1,B,hB,hb1,hr1⟩:=bI w v
 have HB1:=Hj hb1
 have dZ:=Hj hr1
 have HW1:=Hj hw1
 have kT:=Hj hB
 have uK:Hid (VB w1 B v):=Hj (VB.aK hr1)
 obtain⟨vb0,vb1,zX,Ah,Aj⟩:=uK.out
 clear hb1 hr1 hw1 hB
 have tq:=Hj (jF v.kind w1)
 rw[hI] at tq
 clear hI
 go_enter Tryz.func72,Tryz.ntmps72
 go_wp2_with (first
  | (go_at_call 57;rw[←HW1.out,←kT.out];(refine tq.out.mono ?_);rintro e w' ⟨rfl,rfl⟩))
 go_ret
 exact⟨rfl,HB1.out⟩
theorem Vg (v:OV) (w:World) (hI:fV v.kind=false) (ha:(v.space.toList==[])=true) (hb:1≤v.kind) (hc:v.kind≤7):
  Cl 72 #[.agg (ov v)] w fun e w'=>e=.returned (.bool (eF v.name.data.toList))∧Bw w w':=by
 obtain⟨w1,hw1,B,hB,hb1,hr1⟩:=bI w v
 have HB1:=Hj hb1
 have dZ:=Hj hr1
 have HW1:=Hj hw1
 have kT:=Hj hB
 have uK:Hid (VB w1 B v):=Hj (VB.aK hr1)
 obtain⟨vb0,vb1,zX,Ah,Aj⟩:=uK.out
 clear hb1 hr1 hw1 hB
 have tq:=Hj (jF v.kind w1)
 rw[hI] at tq
 clear hI
 have HLn:Hid (∀W,Cl 131 #[.string v.name] W fun e w'=>e=.returned (.bool (eF v.name.data.toList))∧∃k,w'=W.drewN k):=Hj fun W=>Label_any v.name W
 go_enter Tryz.func72,Tryz.ntmps72
 go_wp2_with (first
  | (go_at_call 57;rw[←HW1.out,←kT.out];(refine tq.out.mono ?_);rintro e w' ⟨rfl,rfl⟩)
  | (go_at_call 131;(refine(HLn.out _).mono ?_);rintro e w3 ⟨rfl,k3,hk3⟩;have Yt:=Hj hk3;clear hk3))
 go_ret
 exact⟨rfl,(by rw[Yt.out];exact below_drewN HB1.out _)⟩
theorem BU (v:OV) (w:World):Cl 72 #[.agg (ov v)] w fun e w'=>e=.returned (.bool (dJ v.kind v.space v.name))∧Bw w w':=by
 have hsp:decide (v.space.size=0)=(v.space.toList==[]):=by
  rw[qh,←size_data]
  cases v.space.data.toList with
  | nil=>rfl
  | cons a b=>rfl
 by_cases hb:1≤v.kind
 ·by_cases hc:v.kind≤7
  ·skip
   cases hI:fV v.kind with
   | true=>
    cases ha:eF v.space.data.toList with
    | true=>
     have e:dJ v.kind v.space v.name=(eF v.name.data.toList):=by unfold dJ;rw[hsp,hI];simp[ha,hb,hc]
     rw[e];exact Vd v w hI ha hb hc
    | false=>
     have e:dJ v.kind v.space v.name=false:=by unfold dJ;rw[hsp,hI];simp[ha]
     rw[e];exact Ea v w hI ha
   | false=>
    cases ha:(v.space.toList==[]) with
    | true=>
     have e:dJ v.kind v.space v.name=(eF v.name.data.toList):=by unfold dJ;rw[hsp,hI];simp[ha,hb,hc]
     rw[e];exact Vg v w hI ha hb hc
    | false=>
     have e:dJ v.kind v.space v.name=false:=by unfold dJ;rw[hsp,hI];simp[ha]
     rw[e];exact Eb v w hI ha
  ·skip
   cases hI:fV v.kind with
   | true=>
    cases ha:eF v.space.data.toList with
    | true=>
     have e:dJ v.kind v.space v.name=(false):=by unfold dJ;rw[hsp,hI];simp[ha,hc]
     rw[e];exact Vb v w hI ha hb hc
    | false=>
     have e:dJ v.kind v.space v.name=false:=by unfold dJ;rw[hsp,hI];simp[ha]
     rw[e];exact Ea v w hI ha
   | false=>
    cases ha:(v.space.toList==[]) with
    | true=>
     have e:dJ v.kind v.space v.name=(false):=by unfold dJ;rw[hsp,hI];simp[ha,hc]
     rw[e];exact Vf v w hI ha hb hc
    | false=>
     have e:dJ v.kind v.space v.name=false:=by unfold dJ;rw[hsp,hI];simp[ha]
     rw[e];exact Eb v w hI ha
 ·skip
  cases hI:fV v.kind with
  | true=>
   cases ha:eF v.space.data.toList with
   | true=>
    have e:dJ v.kind v.space v.name=(false):=by unfold dJ;rw[hsp,hI];simp[ha,hb]
    rw[e];exact Va v w hI ha hb
   | false=>
    have e:dJ v.kind v.space v.name=false:=by unfold dJ;rw[hsp,hI];simp[ha]
    rw[e];exact Ea v w hI ha
  | false=>
   cases ha:(v.space.toList==[]) with
   | true=>
    have e:dJ v.kind v.space v.name=(false):=by unfold dJ;rw[hsp,hI];simp[ha,hb]
    rw[e];exact Ve v w hI ha hb
   | false=>
    have e:dJ v.kind v.space v.name=false:=by unfold dJ;rw[hsp,hI];simp[ha]
    rw[e];exact Eb v w hI ha
/-- What is asked of an object. -/
def dL (v:OV):Nat:=if dJ v.kind v.space v.name=true then (if 8192<v.n then 3 else 0) else 9
theorem uY (v:OV) (w:World) (ea:Nat→Addr) (hE:Errs w ea):
  Cl 55 #[.agg (ov v)] w fun e w'=>e=.returned (errOf ea (dL v))∧Bw w w':=by
 obtain⟨w1,hw1,B,hB,hb1,hr1⟩:=bI w v
 have HB1:=Hj hb1
 have dZ:=Hj hr1
 have HW1:=Hj hw1
 have kT:=Hj hB
 have uK:Hid (VB w1 B v):=Hj (VB.aK hr1)
 obtain⟨vb0,vb1,zX,Ah,Aj⟩:=uK.out
 clear hb1 hr1 hw1 hB
 have HE:=Hj hE
 have HN:=Hj (BU v w1)
 have jY:Hid (dL v=if dJ v.kind v.space v.name=true then (if 8192<v.n then 3 else 0) else 9):=Hj rfl
 clear hE
 have Y2:Hid (∀w2,Bw w1 w2→VB w2 B v∧w2.cell? ⟨0,0,none⟩=some (nI (ea 9))∧w2.cell? ⟨3,0,none⟩=some (nI (ea 3))):=Hj fun w2 h2=>by
  have hE2:=HE.out.below (HB1.out.trans (h2.mono HB1.out.size))
  exact⟨VB.aK ((h2.block B (Cq dZ.out)).trans dZ.out),hE2.cell 9 (by omega) (by omega),hE2.cell 3 (by omega) (by omega)⟩
 cases hn:dJ v.kind v.space v.name with
 | false=>
  rw[hn] at HN jY
  clear hn
  go_enter Tryz.func55,Tryz.ntmps55
  go_wp2_with (go_at_call 72;rw[←HW1.out];(with_reducible refine HN.out.mono ?_);rintro e w2 ⟨rfl,hb2⟩;have HB2:=Hj hb2;obtain⟨⟨v20,v21,v22,v23,v24⟩,c9,c3⟩:=Y2.out w2 hb2;unfold nI at c9 c3;try (rw[←kT.out]);clear hb2)
  go_ret
  exact⟨by rw[jY.out];rfl,HB1.out.trans (HB2.out.mono HB1.out.size)⟩
 | true=>
  rw[hn] at HN jY
  clear hn
  by_cases hl:8192<v.n
  ·have QT:Hid (dL v=3):=Hj (by rw[jY.out,aF rfl,aF hl])
   have hl2:(8192:Int)<(v.n:Int):=by omega
   clear hl
   go_enter Tryz.func55,Tryz.ntmps55
   go_wp2_with (go_at_call 72;rw[←HW1.out];(with_reducible refine HN.out.mono ?_);rintro e w2 ⟨rfl,hb2⟩;have HB2:=Hj hb2;obtain⟨⟨v20,v21,v22,v23,v24⟩,c9,c3⟩:=Y2.out w2 hb2;unfold nI at c9 c3;try (rw[←kT.out]);clear hb2)
   go_ret
   exact⟨by rw[QT.out];rfl,HB1.out.trans (HB2.out.mono HB1.out.size)⟩
  ·have QT:Hid (dL v=0):=Hj (by rw[jY.out,aF rfl,aG hl])
   have hl2:¬(8192:Int)<(v.n:Int):=by omega
   clear hl
   go_enter Tryz.func55,Tryz.ntmps55
   go_wp2_with (go_at_call 72;rw[←HW1.out];(with_reducible refine HN.out.mono ?_);rintro e w2 ⟨rfl,hb2⟩;have HB2:=Hj hb2;obtain⟨⟨v20,v21,v22,v23,v24⟩,c9,c3⟩:=Y2.out w2 hb2;unfold nI at c9 c3;try (rw[←kT.out]);clear hb2)
   go_ret
   exact⟨by rw[QT.out];rfl,HB1.out.trans (HB2.out.mono HB1.out.size)⟩
theorem Gp {k:Int} (h:k≤9223372036854775807):(jh k).length≤19:=by
 unfold jh
 split
 ·simp
 ·rw [List.length_reverse];exact uo 18 _ (by omega)
theorem jX (l:List UInt8):(dG l).size=l.length:=by rw[←size_data,NC]
theorem yu {k:Int} (h:k≤9223372036854775807) {space:ByteArray} (hs:space.size≤1000):(gU k space).length≤1021:=by
 have:=Gp h
 unfold gU
 simp[List.length_append]
 omega
theorem Dn (kind:Int) (space:ByteArray) (w:World) (hk:kind≤9223372036854775807) (hs:space.size≤1000):
  Cl 42 #[.int .i64 kind,.string space] w fun e w'=>e=.returned (.string (dG (gU kind space)))∧Bw w w':=by
 have HS:=Hj (Jj kind w hk)
 have hs1:(dG (jh kind)).size≤19:=by rw[jX];exact Gp hk
 obtain⟨s1,Js⟩:∃s,s=dG (jh kind):=⟨_,rfl⟩
 rw[←Js] at HS hs1
 have xO:=Hj Js
 clear hk Js
 go_enter Tryz.func42,Tryz.ntmps42
 go_wp2_with (go_at_call 89;(with_reducible refine HS.out.mono ?_);rintro e w2 ⟨rfl,hb2⟩;have HB2:=Hj hb2;clear hb2)
 go_ret
 refine⟨bJ (fun s=>Ending.returned (.string s)) ?_,HB2.out⟩
 rw[xO.out]
 exact kG (by simp[dG,gU])
theorem Ky (v:OV) (w:World) (hk:v.kind≤9223372036854775807) (hs:v.space.size≤1000) (hn:v.name.size≤1000):
  Cl 98 #[.agg (ov v)] w fun e w'=>e=.returned (.string (jr v.kind v.space v.name))∧Bw w w':=by
 obtain⟨w1,hw1,B,hB,hb1,hr1⟩:=bI w v
 have HB1:=Hj hb1
 have dZ:=Hj hr1
 have HW1:=Hj hw1
 have kT:=Hj hB
 have uK:Hid (VB w1 B v):=Hj (VB.aK hr1)
 obtain⟨vb0,vb1,zX,Ah,Aj⟩:=uK.out
 clear hb1 hr1 hw1 hB
 have HR:Hid (∀W,Cl 42 #[.int .i64 v.kind,.string v.space] W fun e w'=>e=.returned (.string (dG (gU v.kind v.space)))∧Bw W w'):=Hj fun W=>Dn v.kind v.space W hk hs
 have hs1:(dG (gU v.kind v.space)).size≤1021:=by rw[jX];exact yu hk hs
 obtain⟨s1,Js⟩:∃s,s=dG (gU v.kind v.space):=⟨_,rfl⟩
 rw[←Js] at HR hs1
 have xO:=Hj Js
 have hcat:¬9223372036854775807<s1.size+v.name.size:=by omega
 clear hk Js hs hn
 go_enter Tryz.func98,Tryz.ntmps98
 go_wp2
 rw[←HW1.out,←kT.out]
 refine wp_region_noPanic ?_
 refine wp_region_held_drew (S:=(fun w'=>w'.cell? ⟨B,0,none⟩=some (.int .i64 v.kind)∧w'.cell? ⟨B,1,none⟩=some (.string v.space)∧w'.cell? ⟨B,2,none⟩=some (.string v.name)∧w'.cell? ⟨B,3,none⟩=some (.int .i64 v.ver)∧w'.cell? ⟨B,4,none⟩=some (.slice v.A v.n v.c))) (by kernel_rfl) ?_ (fun hHeld=> ?_)
 ·exact uK.out
 refine tk 0 hHeld ?_
 try simp only[pa]
 refine tk 1 hHeld ?_
 try simp only[pa]
 refine tk 2 hHeld ?_
 try simp only[pa]
 refine tk 3 hHeld ?_
 try simp only[pa]
 refine tk 5 hHeld ?_
 try simp only[pa]
 refine tk 6 hHeld ?_
 try simp only[pa]
 refine mD 4 rfl (fun K hK=> ?_)
 go_simp
 refine(HR.out w1.drew).mono ?_
 rintro e w5 ⟨rfl,hb5⟩
 have nH:Hid (Bw w1 w5):=Hj ⟨hb5.os,hb5.tape,hb5.output,hb5.size,hb5.block⟩
 have HV5:Hid (VB w5 B v):=Hj (VB.aK ((hb5.block B (Cq dZ.out)).trans dZ.out))
 clear hb5
 refine hK.out _ _ ?_ (fun hHeld=> ?_)
 ·exact HV5.out
 clear hK K
 try simp only[pa]
 refine tk 7 hHeld ?_
 try simp only[pa]
 refine tk 8 hHeld ?_
 try simp only[pa]
 refine wpAnyH_done (by kernel_rfl) ?_ _
 refine NoPanic.normal ?_
 go_wp2
 go_ret
 refine⟨bJ (fun s=>Ending.returned (.string s)) ?_,HB1.out.trans (nH.out.mono HB1.out.size)⟩
 rw[xO.out]
 exact kG (by simp[dG,jr])
theorem nJ {fn:Func} {p:Tmp} {ty:TypeId} (tmps:Array Value) {w:World} {g:Nat} {t:TypeId} {cs:Array Value} {fr:Nat×Nat} {P:Program} {fields:Array Field} (h:fn.results=#[.cell p ty]) (hp:tmps.getD p undef=pt g) (hg:w.heap[g]?=some (.cells cs t fr))
  (hu:P.underlying ty=some (.struct fields)) (hi:(P.info? ty).map (·.size)=some cs.size):(results fn tmps).run P w=.ok (.agg cs) w:=by
 have hp':tmps[p]?.getD undef=pt g:=by simpa using hp
 simp[results,h,hp',asAddr,run_loadVar_row (P:=P) w g t ty cs fr _ hg hu rfl hi]
theorem lQ (v:OV) (w:World) (data:List UInt8) (hd:RB w v.A v.n data) (hn:v.n≤1000000):
  Cl 46 #[.agg (ov v)] w fun e w'=>∃A1 c1,e=.returned (.agg #[.int .i64 v.kind,.string v.space,.string v.name,.int .i64 v.ver,.slice A1 v.n c1])∧OB w' w.heap.size (.slice A1 v.n c1) data∧Bw w w':=by
 obtain⟨w1,hw1,B,hB,hb1,hr1⟩:=bI w v
 have HB1:=Hj hb1
 have dZ:=Hj hr1
 have HW1:=Hj hw1
 have kT:=Hj hB
 have uK:Hid (VB w1 B v):=Hj (VB.aK hr1)
 obtain⟨vb0,vb1,zX,Ah,Aj⟩:=uK.out
 clear hb1 hr1 hw1 hB
 have hb2:=(aj w1.heap.size w1).alloc Kv (.cells #[.int .i64 0,.string ⟨#[]⟩,.string ⟨#[]⟩,.int .i64 0,.slice none 0 0] 37)
 have hr2:=aA w1 (.cells #[.int .i64 0,.string ⟨#[]⟩,.string ⟨#[]⟩,.int .i64 0,.slice none 0 0] 37)
 obtain⟨w2,hw2⟩:∃W,W=w1.alloc (.cells #[.int .i64 0,.string ⟨#[]⟩,.string ⟨#[]⟩,.int .i64 0,.slice none 0 0] 37):=⟨_,rfl⟩
 rw[←hw2] at hb2 hr2
 have hs1:w1.heap.size=B+1:=by rw[HW1.out,kT.out];simp
 rw[hs1] at hr2
 have HB2:Hid (Bw w w2):=Hj (HB1.out.trans (hb2.mono HB1.out.size))
 have hrow2:w2.heap[B]?=some (.cells (ov v) 37 (0,0)):=(hb2.block B (Cq dZ.out)).trans dZ.out
 have HC:=Hj (dU v.A v.n v.c data w2 (hd.keep (Kz (HB2.out))) (by omega))
 have HDL:Hid (data.length=v.n):=Hj hd.1
 have HR2:=Hj hr2
 have Gq:=Hj hrow2
 have HW2:Hid (w2=(w.alloc (.cells (ov v) 37)).alloc (.cells #[.int .i64 0,.string ⟨#[]⟩,.string ⟨#[]⟩,.int .i64 0,.slice none 0 0] 37)):=Hj (by rw[hw2,HW1.out])
 obtain⟨b20,b21,b22,b23,Jt⟩:=VB.aK hrow2
 rw[HDL.out] at HC
 have xO:=Hj hs1
 clear hb2 hr2 hw2 hs1 hrow2 hd hn vb0 vb1 zX Ah Aj
 go_enter Tryz.func46,Tryz.ntmps46
 go_wp2_with (go_at_call 94;rw[←HW2.out];(with_reducible refine HC.out.mono ?_);rintro e w3 ⟨A1,c1,rfl,ho3,hb3⟩;have KQ:=Hj ho3;have HB3:=Hj hb3;have hrow3:=(hb3.block B (Cq Gq.out)).trans Gq.out;have HR3:=Hj ((hb3.block (B+1) (Cq HR2.out)).trans HR2.out);have QU:=Hj hrow3;obtain⟨b30,b31,b32,b33,b34⟩:=VB.aK hrow3;obtain⟨d30,d31,d32,d33,d34⟩:=VB.aK (v:=⟨0,⟨#[]⟩,⟨#[]⟩,0,none,0,0⟩) HR3.out;have f3:∀k,w3.frozen? ⟨B,k,none⟩=false:=(fun k=>Kj hrow3);have g3:∀k,w3.frozen? ⟨B+1,k,none⟩=false:=(fun k=>Kj HR3.out);rw[←kT.out];clear ho3 hb3 hrow3)
 have hF:Fr (fun k=>k=B∨k=B+1) w3 ((((((w3.setCell ⟨B,4,none⟩ (.slice A1 v.n c1)).setCell ⟨B+1,0,none⟩ (.int .i64 v.kind)).setCell ⟨B+1,1,none⟩ (.string v.space)).setCell ⟨B+1,2,none⟩ (.string v.name)).setCell ⟨B+1,3,none⟩ (.int .i64 v.ver)).setCell ⟨B+1,4,none⟩ (.slice A1 v.n c1)):=
  ((((((Fr.refl _ w3).setCell (p:=⟨B,4,none⟩) (fun _=>.inl rfl) _).setCell (p:=⟨B+1,0,none⟩) (fun _=>.inr rfl) _).setCell (p:=⟨B+1,1,none⟩) (fun _=>.inr rfl) _).setCell (p:=⟨B+1,2,none⟩) (fun _=>.inr rfl) _).setCell (p:=⟨B+1,3,none⟩) (fun _=>.inr rfl) _).setCell (p:=⟨B+1,4,none⟩) (fun _=>.inr rfl) _
 have Y3:=(Below.heap_setCell w3 ⟨B,4,none⟩ (.slice A1 v.n c1) (B+1) (fun e=>Nat.succ_ne_self B e)).trans HR3.out
 refine bg (nJ _ rfl rfl (OY Y3) Tryz.underlying37 iR) rfl ⟨A1,c1,rfl,?_,?_⟩
 ·refine OB.mono (OB.eY KQ.out fun k hk=>hF.block k (KQ.out.lt k hk).2 fun e=> ?_) HB2.out.size
  obtain⟨cur,hcur⟩:=au KQ.out hk
  rcases e with rfl | rfl
  ·exact absurd (ak hcur QU.out) (by decide)
  ·exact absurd (ak hcur HR3.out) (by decide)
 ·have hbw:=HB2.out.trans (HB3.out.mono HB2.out.size)
  exact hbw.trans (hF.below hbw.size fun i _ e=>by rw[←kT.out];omega)
end Go.Proofs.YtdhbpajamlfacaaGreatDoor
