/- Layers 3 and 4 (tlv, whole): numbers' and lengths' bytes. -/
import Derived.Test.YtdhbpajamlfacaaGreatDoorZeros
import Derived.Deep.LoopGhost
import Derived.Deep.RegionLaw
import Derived.Deep.RegionHeld3
set_option maxHeartbeats 4000000
set_option maxRecDepth 100000
namespace Go.Proofs.YtdhbpajamlfacaaGreatDoor
open Go.RowKit
/-- A row half turned round. -/
def iJ (l:List UInt8) (i:Nat):List UInt8:=l.mapIdx fun k x=>if k<i∨l.length-i≤k then l.getD (l.length-1-k) 0 else x
theorem uH (l:List UInt8) (i:Nat):(iJ l i).length=l.length:=by simp[iJ]
theorem JU (l:List UInt8):iJ l 0=l:=by
 refine List.ext_getElem (by simp[iJ]) fun k h1 h2=> ?_
 simp only[iJ,List.getElem_mapIdx]
 rw[aG (by omega)]
theorem CV (l:List UInt8) (i k:Nat) (hk:k<l.length):(iJ l i).getD k 0=if k<i∨l.length-i≤k then l.getD (l.length-1-k) 0 else l.getD k 0:=by
 rw[nG,fJ (by rw[uH];exact hk)]
 simp[iJ,hk]
theorem JV (l:List UInt8) (i:Nat) (h:2*i+1<l.length):((iJ l i).set i ((iJ l i).getD (l.length-1-i) 0)).set (l.length-1-i) ((iJ l i).getD i 0)=iJ l (i+1):=by
 rw[CV l i i (by omega),CV l i (l.length-1-i) (by omega),aG (by omega),aG (by omega)]
 refine List.ext_getElem (by simp[iJ]) fun k h1 h2=> ?_
 simp only[List.getElem_set,iJ,List.getElem_mapIdx]
 have hk:k<l.length:=by simpa [iJ] using h2
 by_cases e1:l.length-1-i=k
 ·rw [aF e1,aF (by omega),←e1,show l.length-1-(l.length-1-i)=i by omega]
 ·rw [aG e1]
  by_cases e2:i=k
  ·rw [aF e2,aF (by omega),←e2]
  ·rw [aG e2]
   by_cases e3:k<i∨l.length-i≤k
   ·rw [aF e3,aF (by omega)]
   ·rw [aG e3,aG (by omega)]
theorem OD (l:List UInt8) (i:Nat) (h:l.length≤2*i+1):iJ l i=l.reverse:=by
 refine List.ext_getElem (by simp[iJ]) fun k h1 h2=> ?_
 simp only[iJ,List.getElem_mapIdx,List.getElem_reverse]
 have hk:k<l.length:=by simpa using h2
 split
 ·rw [nG,fJ (by omega)];rfl
 ·congr 1
  omega
theorem qo (g o c base:Nat) (l:List UInt8) (w:World) (h:OB w base (.slice (some ⟨g,o,none⟩) l.length c) l) (hl:l.length≤1048576):
  Cl 148 #[.slice (some ⟨g,o,none⟩) l.length c] w fun e w'=>e=.returned (.tuple #[])∧OB w' base (.slice (some ⟨g,o,none⟩) l.length c) l.reverse∧Fr (fun q=>q=g) w w':=by
 have HO:=Hj h
 have HL:=Hj hl
 have pK:=Hj (OD l)
 have XW:=Hj (JV l)
 have H0:=Hj (JU l)
 have HN:=Hj (uH l)
 clear h hl
 obtain⟨n,hn⟩:∃n,n=l.length:=⟨_,rfl⟩
 rw[←hn] at HO HL pK XW HN ⊢
 have n0:(n:Int)≤1048576:=by have:=HL.out;omega
 clear hn
 go_enter Tryz.func148,Tryz.ntmps148
 go_wp2
 go_loopg [2,3] n (fun gk s2 s3 wr=>∃i:Nat,i+gk=n∧s2=.int .i64 (i:Int)∧s3=.int .i64 ((n:Int)-1-(i:Int))∧OB wr base (.slice (some ⟨g,o,none⟩) n c) (iJ l i)∧Fr (fun q=>q=g) w wr)
 case atStart=>exact⟨0,by omega,rfl,by go_num,by rw[H0.out];exact HO.out,Fr.refl _ _⟩
 case round=>
  obtain⟨i,hi,rfl,rfl,hob,hf⟩:=hrel
  have HI:=Hj hi
  have Af:=Hj hob
  have HF:=Hj hf
  clear hi hob hf
  by_cases hlt:2*i+1<n
  ·obtain ⟨j,hj⟩:∃j,j=n-1-i:=⟨_,rfl⟩
   have hji:(n:Int)-1-(i:Int)=(j:Int):=by omega
   have q1:decide ((i:Int)<(j:Int))=true:=aZ (by omega)
   have q1n:decide (i<j)=true:=aZ (by omega)
   have hst:=XW.out i hlt
   rw[←hj] at hst
   rw[hji]
   obtain⟨A,c',e,hc1,hc2,hr⟩:=Af.out.form
   have hsl:=HN.out i
   rw[hsl] at e hc1
   injection e with e1 _ e9
   subst e1
   clear e9
   obtain⟨b',o',e,hcell⟩:=hr.2 (by rw[hsl];omega)
   injection e with e
   injection e with e1 e2
   subst e1
   subst e2
   rw[hsl] at hcell
   have ci:=hcell i (by omega)
   have cj:=hcell j (by omega)
   obtain⟨x,hx⟩:∃x,x=(iJ l i).getD i 0:=⟨_,rfl⟩
   obtain⟨y,hy⟩:∃y,y=(iJ l i).getD j 0:=⟨_,rfl⟩
   rw[←hx] at ci hst
   rw[←hy] at cj hst
   have S1:=OB.setB (k:=i) y Af.out hsl (by omega)
   have S2:=OB.setB (k:=j) x S1.2 (by rw[List.length_set,hsl]) (by omega)
   rw[hst] at S2
   obtain⟨A3,c3,e3,_,_,hr3⟩:=S1.2.form
   have WA:((iJ l i).set i y).length=n:=by rw[List.length_set,hsl]
   rw[WA] at e3
   injection e3 with e4 _ e9
   subst e4
   clear e9
   obtain⟨b3,o3,e5,JW⟩:=hr3.2 (by rw[WA];omega)
   injection e5 with e5
   injection e5 with e6 e7
   subst e6
   subst e7
   rw[WA] at JW
   have cj2:=JW j (by omega)
   rw[show ((iJ l i).set i y).getD j 0=y by rw[hy,nG,nG,List.getElem?_set_ne (by omega)]] at cj2
   have fi:=S1.1
   have fj:=S2.1
   have UN:=Hj S2.2
   have HF2:Hid (Fr (fun q=>q=g) w ((wr.setCell ⟨g,o+i,none⟩ (.int .u8 (y.toNat:Int))).setCell ⟨g,o+j,none⟩ (.int .u8 (x.toNat:Int)))):=Hj ((HF.out.setCell (p:=⟨g,o+i,none⟩) (fun _=>rfl) _).setCell (p:=⟨g,o+j,none⟩) (fun _=>rfl) _)
   have i0:(0:Int)≤(i:Int):=by omega
   have i1:(i:Int)<(n:Int):=by omega
   have j0:(0:Int)≤(j:Int):=by omega
   have j1:(j:Int)<(n:Int):=by omega
   have HIJ:Hid ((j:Int)-1=(n:Int)-1-((i+1:Nat):Int)):=Hj (by omega)
   clear hst S1 S2 hcell hr hc1 hc2 hsl hx hy hj hji JW hr3 WA
   go_wp2_with fail
   go_region_law (fail)
   all_goals
    go_wp2
    go_roundg (gk-1)
    case measure=>have:=HI.out;omega
    case rel=>exact⟨i+1,by have:=HI.out;omega,by go_num,by rw[←HIJ.out],UN.out.drew,HF2.out.drew⟩
  ·obtain ⟨z,hz⟩:∃z,z=(n:Int)-1-(i:Int):=⟨_,rfl⟩
   have q1:decide ((i:Int)<z)=false:=aQ (by omega)
   rw[←hz]
   have HR:=Hj (pK.out i (by omega))
   clear hlt hz
   go_wp2
   exact bodyPost_end (fM rfl _ _ _) rfl ⟨rfl,by rw[←HR.out];exact Af.out,HF.out⟩
theorem Ih (c:UInt8) (r:Nat) (w:World):Cl 197 #[.int .u8 (c.toNat:Int),.int .i64 (r:Int)] w fun e w'=>e=.returned (.bool (decide (r=0∧c.toNat<128)))∧w=w':=by
 have hc:=c.toNat_lt
 generalize c.toNat=x at*
 rcases pF r with h0 | h0
 ·subst h0
  rw[show ((0:Nat):Int)=0 from rfl]
  by_cases h1:x<128
  ·have q1:decide ((x:Int)<128)=true:=aZ (by omega)
   have q1n:decide (x<128)=true:=aZ h1
   rw[aZ (show 0=0∧x<128 from ⟨rfl,h1⟩)]
   clear h1
   go_enter Tryz.func197,Tryz.ntmps197
   go_wp2
   go_ret
   exact⟨rfl,rfl⟩
  ·have q1:decide ((x:Int)<128)=false:=aQ (by omega)
   have q1n:decide (x<128)=false:=aQ h1
   rw[aQ (show ¬(0=0∧x<128) from fun h=>h1 h.2)]
   clear h1
   go_enter Tryz.func197,Tryz.ntmps197
   go_wp2
   go_ret
   exact⟨rfl,rfl⟩
 ·have q1:((r:Int)==0)=false:=gQ.2 (by omega)
  have q2:((r:Int)== -1)=false:=gQ.2 (by omega)
  have q3:(r==0)=false:=gQ.2 (by omega)
  rw[aQ (show ¬(r=0∧x<128) from fun h=>by omega)]
  clear h0
  go_enter Tryz.func197,Tryz.ntmps197
  go_wp2
  go_ret
  exact⟨rfl,rfl⟩
theorem zq (r:Nat):(r:Int) % 256=((UInt8.ofNat r).toNat:Int):=by rw[UInt8.toNat_ofNat'];omega
theorem uX (n:Nat) (w:World) (hn:n<4611686018427387904):
  Cl 134 #[.int .i64 (n:Int)] w fun e w'=>∃A c,e=.returned (.slice A (dY n).length c)∧OB w' w.heap.size (.slice A (dY n).length c) (dY n)∧Bw w w':=by
 have hll:(su n).length≤9:=Cz (uh 8 (by omega)) (by omega)
 have HLL:=Hj hll
 obtain⟨c0,hc0⟩:∃c,c=UInt8.ofNat n:=⟨_,rfl⟩
 have hu:=zq n
 rw[←hc0] at hu
 have HC0:=Hj hc0
 have HN:=Hj hn
 have QA:=Hj (OB.lit w w.heap.size Kv [c0] 1 rfl (by simp[maxLen]))
 have HD:Hid ((n:Int) / 256=((n / 256:Nat):Int)):=Hj (by omega)
 clear hll hc0 hn
 go_enter Tryz.func134,Tryz.ntmps134
 go_wp2
 clear hu
 go_loopg [3,4] n (fun gk s3 s4 wr=>∃(acc:List UInt8) (m:Nat),OB wr w.heap.size s3 (acc++[UInt8.ofNat m])∧s4=.int .i64 ((m / 256:Nat):Int)∧su n=acc++su m∧m≤gk∧m≤n∧Bw w wr)
 case atStart=>exact⟨[],n,by rw[←HC0.out];exact QA.out,by rw[←HD.out],rfl,bZ _,bZ _,(aj _ w).alloc Kv _⟩
 case round=>
  obtain⟨acc,m,hob,rfl,hlow,QB,hmn,hb⟩:=hrel
  have hlen:acc.length+1≤9:=by
   have h1:=bJ List.length hlow
   have h2:=List.length_pos_iff.2 (UQ m)
   have:=HLL.out
   rw[bP] at h1
   omega
  obtain⟨x,hx⟩:∃x,x=UInt8.ofNat m:=⟨_,rfl⟩
  have hxm:x.toNat=m % 256:=by rw[hx,UInt8.toNat_ofNat']
  rw[←hx] at hob
  obtain⟨r,hr⟩:∃r,r=m / 256:=⟨_,rfl⟩
  rw[←hr]
  have Af:=Hj hob
  have HB:=Hj hb
  have YL:=Hj hlow
  have HMG:=Hj QB
  have HX:=Hj hx
  have HRD:=Hj hr
  have HMN:=Hj hmn
  have HLen:=Hj hlen
  obtain⟨A,c,e,hc1,hc2,hrb⟩:=hob.form
  subst e
  obtain⟨k,hk⟩:∃k,k=acc.length:=⟨_,rfl⟩
  have hK:(acc++[x]).length=k+1:=by rw[bP,hk];rfl
  rw[hK] at hrb hc1 Af ⊢
  have HKL:=Hj hK
  obtain⟨b,o,rfl,hcell⟩:=hrb.2 (by omega)
  have cl:=hcell k (by omega)
  rw[show (acc++[x]).getD k 0=x by simp[List.getD_eq_getElem?_getD,hk]] at cl
  have HSe:=Hj (Ih x r wr)
  have k0:(0:Int)≤(k:Int):=by omega
  have k2:(k:Int)≤9:=by omega
  have r0:(0:Int)≤(r:Int):=by omega
  have HR1:Hid ((r:Int) / 256=((r / 256:Nat):Int)):=Hj (by omega)
  by_cases hm:m<128
  ·rw [aZ (show r=0∧x.toNat<128 by omega)] at HSe
   have U3:Hid (Cl 148 #[.slice (some ⟨b,o,none⟩) (k+1) c] wr fun e w'=>e=.returned (.tuple #[])∧OB w' w.heap.size (.slice (some ⟨b,o,none⟩) (k+1) c) (acc++[x]).reverse∧Fr (fun q=>q=b) wr w'):=Hj (by
    have h:=Af.out
    rw[←HKL.out] at h ⊢
    exact qo b o c w.heap.size (acc++[x]) wr h (by rw[HKL.out];omega))
   have HI:Hid (dY n=(acc++[x]).reverse):=Hj (by unfold dY;rw[hlow,lU hm,hx])
   have HI2:Hid ((dY n).length=k+1):=Hj (by rw[HI.out,List.length_reverse,HKL.out])
   have hbl:=(OB.lt hob b rfl).1
   have Jk:=Hj hbl
   clear hob hb hlow QB hmn hlen hx hxm hr hrb hcell hc1 hc2 hK hk hm hbl
   go_wp2_with (first
    | (go_at_call 197;((refine HSe.out.mono ?_);rintro e w1 ⟨rfl,rfl⟩))
    | (go_at_call 148;((refine U3.out.mono ?_);rintro e w2 ⟨rfl,ho2,hf2⟩;have O2:=Hj ho2;have F2:=Hj hf2;clear ho2 hf2))
    | fail)
   go_ret
   refine⟨some ⟨b,o,none⟩,c,by rw[HI2.out];rfl,?_,HB.out.trans (F2.out.below HB.out.size fun q _ e=>by rw[e];exact Jk.out)⟩
   rw[HI2.out,HI.out]
   exact O2.out
  ·rw [aQ (show ¬(r=0∧x.toNat<128) by omega)] at HSe
   obtain⟨y,hy⟩:∃y,y=UInt8.ofNat r:=⟨_,rfl⟩
   have hu:=zq r
   rw[←hy] at hu
   have HY:=Hj hy
   have HM:Hid (128≤m):=Hj (by omega)
   have TM:Hid (su n=(acc++[x])++su r):=Hj (by rw[hlow,qM (show 128≤m by omega),←hx,←hr,mQ];rfl)
   clear hob hb hlow QB hmn hlen hx hxm hr hrb hcell hc1 hc2 hK hk hm hy
   go_wp2_with (first
    | (go_at_call 197;((refine HSe.out.mono ?_);rintro e w1 ⟨rfl,rfl⟩))
    | (at_builtin;(refine aN rfl (.tmp 21) (.tmp 24) 35 rfl (OB.alloc Af.out _) rfl (Src.lit wr _ [y] rfl 1 1 rfl) rfl (by have:=HLen.out;simp;omega) (by have:=HB.out.size;simp;omega) ?_;intro v2 w2 hown2 dQ jZ;obtain⟨A2,c2,e2,-,-,-⟩:=hown2.form;subst e2;have O2:=Hj hown2;have B2:Hid (Bw w w2):=Hj (bD ((HB.out).alloc HB.out.size _) dQ (OB.alloc Af.out _) Kv (by have:=HB.out.size;simp;omega));clear hown2 dQ jZ))
    | fail)
   go_roundg r
   case measure=>have:=HMG.out;have:=HM.out;have:=HRD.out;omega
   case rel=>exact⟨acc++[x],r,by rw[←HY.out];have h:=O2.out;rw[show (acc++[x]++[y]).length=acc.length+2 by simp] at h;exact h,by rw[←HR1.out],TM.out,bZ _,by have:=HRD.out;have:=HMN.out;omega,B2.out⟩
theorem JM (n:Nat) (w:World) (hn:n≤65535):
  Cl 170 #[.int .i64 (n:Int)] w fun e w'=>∃A c,e=.returned (.slice A (kL n).length c)∧OB w' w.heap.size (.slice A (kL n).length c) (kL n)∧Bw w w':=by
 by_cases h127:n≤127
 ·have q1:decide ((n:Int)≤127)=true:=aZ (by omega)
  have q1n:decide (n≤127)=true:=aZ h127
  obtain⟨c0,hc0⟩:∃c,c=UInt8.ofNat n:=⟨_,rfl⟩
  have hu:=zq n
  rw[←hc0] at hu
  have HI:Hid (kL n=[c0]):=Hj (by unfold kL;rw[aF h127,hc0])
  rw[HI.out]
  have QA:=Hj (OB.lit w w.heap.size Kv [c0] 1 rfl (by simp[maxLen]))
  clear hc0 h127 hn
  go_enter Tryz.func170,Tryz.ntmps170
  go_wp2
  go_ret
  exact⟨_,_,rfl,QA.out,(aj _ w).alloc Kv _⟩
 have q1:decide ((n:Int)≤127)=false:=aQ (by omega)
 have q1n:decide (n≤127)=false:=aQ h127
 have HLL:Hid ((oD n).length≤2):=Hj (Fp 2 (by omega))
 have HI:Hid (kL n=(oD n++[UInt8.ofNat (128+(oD n).length)]).reverse):=Hj (by unfold kL;rw[aG h127])
 obtain⟨T,hT⟩:∃T,T=oD n++[UInt8.ofNat (128+(oD n).length)]:=⟨_,rfl⟩
 rw[HI.out,←hT]
 have HTT:=Hj hT
 clear h127 hn hT HI
 go_enter Tryz.func170,Tryz.ntmps170
 go_wp2
 go_loopg [0,3] n (fun gk s0 s3 wr=>∃(acc:List UInt8) (m:Nat),s0=.int .i64 (m:Int)∧OB wr w.heap.size s3 acc∧oD n=acc++oD m∧m≤gk∧Bw w wr)
 case atStart=>exact⟨[],n,rfl,OB.nil _ _,rfl,bZ _,aj _ _⟩
 case round=>
  obtain⟨acc,m,rfl,hob,hlow,QB,hb⟩:=hrel
  have Af:=Hj hob
  have HB:=Hj hb
  have YL:=Hj hlow
  have HMG:=Hj QB
  obtain⟨A,c,e,hc1,hc2,hrb⟩:=hob.form
  subst e
  have hlen:acc.length≤2:=by
   have h1:=bJ List.length hlow
   have:=HLL.out
   rw[bP] at h1
   omega
  have HLen:=Hj hlen
  have HM1:Hid ((m:Int) / 256=((m / 256:Nat):Int)):=Hj (by omega)
  have m0:(0:Int)≤(m:Int):=by omega
  by_cases hm:0<m
  ·have q2:decide ((m:Int)>0)=true:=aZ (by omega)
   have q2':decide (0<(m:Int))=true:=aZ (by omega)
   have q2n:decide (0<m)=true:=aZ hm
   obtain⟨y,hy⟩:∃y,y=UInt8.ofNat m:=⟨_,rfl⟩
   have hu:=zq m
   rw[←hy] at hu
   have TM:Hid (oD n=(acc++[y])++oD (m / 256)):=Hj (by rw[hlow,ug hm,←hy,mQ];rfl)
   have HM:Hid (m / 256<m):=Hj (Nat.div_lt_self hm (by omega))
   clear hob hb hlow QB hlen hrb hc1 hc2 hm hy
   go_wp2_with (first
    | (at_builtin;(refine aN rfl (.tmp 13) (.tmp 16) 35 rfl (OB.alloc Af.out _) rfl (Src.lit wr _ [y] rfl 1 1 rfl) rfl (by have:=HLen.out;simp;omega) (by have:=HB.out.size;simp;omega) ?_;intro v2 w2 hown2 dQ jZ;obtain⟨A2,c2,e2,-,-,-⟩:=hown2.form;subst e2;have O2:=Hj hown2;have B2:Hid (Bw w w2):=Hj (bD ((HB.out).alloc HB.out.size _) dQ (OB.alloc Af.out _) Kv (by have:=HB.out.size;simp;omega));clear hown2 dQ jZ))
    | fail)
   go_roundg (m / 256)
   case measure=>have:=HMG.out;have:=HM.out;omega
   case rel=>exact⟨acc++[y],m / 256,by rw[←HM1.out],by have h:=O2.out;rw[show (acc++[y]).length=acc.length+1 by simp] at h;exact h,TM.out,bZ _,B2.out⟩
  ·obtain rfl:m=0:=by omega
   have q2:decide ((0:Int)>0)=false:=by decide
   have HA:Hid (oD n=acc):=Hj (by rw[hlow,nP,List.append_nil])
   obtain⟨k,hk⟩:∃k,k=acc.length:=⟨_,rfl⟩
   rw[←hk] at hlen hrb hc1 ⊢
   have HK:=Hj hk
   rw[←hk] at Af
   obtain⟨y,hy⟩:∃y,y=UInt8.ofNat (128+k):=⟨_,rfl⟩
   have hyn:(128+(k:Int))=(y.toNat:Int):=by rw[hy,UInt8.toNat_ofNat'];omega
   have k0:(0:Int)≤(k:Int):=by omega
   have k2:(k:Int)≤2:=by omega
   have HT:Hid (T=acc++[y]):=Hj (by rw[HTT.out,HA.out,hy,HK.out])
   rw[show ((0:Nat):Int)=0 from rfl]
   clear hob hb hlow QB hlen hrb hc1 hc2 hm hk hy m0
   go_wp2_with (first
    | (at_builtin;(refine aN rfl (.tmp 18) (.tmp 23) 35 rfl (OB.alloc Af.out _) rfl (Src.lit wr _ [y] rfl 1 1 rfl) rfl (by have:=HLen.out;simp;omega) (by have:=HB.out.size;simp;omega) ?_;intro v2 w2 hown2 dQ jZ;have hO2:=hown2;obtain⟨A2,c2,e2,-,-,hr2⟩:=hown2.form;subst e2;have B2:Hid (Bw w w2):=Hj (bD ((HB.out).alloc HB.out.size _) dQ (OB.alloc Af.out _) Kv (by have:=HB.out.size;simp;omega));obtain⟨b2,o2,rfl,-⟩:=hr2.2 (by simp);have Jk:=Hj ((OB.lt hO2 b2 rfl).1);have hRv:=qo b2 o2 c2 w.heap.size (acc++[y]) w2 hO2 (by have:=HLen.out;simp;omega);rw[show (acc++[y]).length=acc.length+1 by simp] at hRv;have U3:=Hj hRv;clear hown2 dQ jZ hr2 hO2 hRv))
    | (go_at_call 148;((refine U3.out.mono ?_);rintro e w3 ⟨rfl,ho3,hf3⟩;have O3:=Hj ho3;have F3:=Hj hf3;clear ho3 hf3))
    | fail)
   go_ret
   have hl:T.reverse.length=acc.length+1:=by rw[HT.out];simp
   refine⟨some ⟨b2,o2,none⟩,c2,by rw[hl];rfl,?_,B2.out.trans (F3.out.below B2.out.size fun q _ e=>by rw[e];exact Jk.out)⟩
   rw[hl,HT.out]
   exact O3.out
end Go.Proofs.YtdhbpajamlfacaaGreatDoor
