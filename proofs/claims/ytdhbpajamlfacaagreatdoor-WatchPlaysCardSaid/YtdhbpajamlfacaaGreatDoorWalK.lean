/- Layer 18 (wal): numbers, sums. -/
import Derived.Test.YtdhbpajamlfacaaGreatDoorShaSum
import Derived.Test.YtdhbpajamlfacaaGreatDoorDiskWr
import Derived.Test.YtdhbpajamlfacaaGreatDoorZeros
import Derived.IntWalk
import Derived.Deep.RegionHeld3
set_option maxHeartbeats 4000000
set_option maxRecDepth 100000
namespace Go.Proofs.YtdhbpajamlfacaaGreatDoor
open Go.RowKit
/-- A number's four bytes. -/
def dX (n:Nat):List UInt8:=[UInt8.ofNat (n / 16777216),UInt8.ofNat (n / 65536),UInt8.ofNat (n / 256),UInt8.ofNat n]
theorem wP (n:Nat):(dX n).length=4:=rfl
theorem jk (n:Nat) (w:World) (hn:n<4294967296):
  Cl 198 #[.int .i64 (n:Int)] w fun e w'=>e=.returned (.slice (some ⟨w.heap.size,0,none⟩) 4 4)∧OB w' w.heap.size (.slice (some ⟨w.heap.size,0,none⟩) 4 4) (dX n)∧Bw w w':=by
 have H:=Hj (OB.lit w w.heap.size Kv (dX n) 4 rfl (by simp[dX,maxLen]))
 have e:(ay (dX n)).toArray=#[.int .u8 ((n:Int) / 16777216),.int .u8 ((n:Int) / 65536 % 256),.int .u8 ((n:Int) / 256 % 256),.int .u8 ((n:Int) % 256)]:=by
  simp[ay,dX]
  omega
 rw[e] at H
 have n0:(0:Int)≤(n:Int):=by omega
 have n1:(n:Int)<4294967296:=by omega
 clear e
 go_enter Tryz.func198,Tryz.ntmps198
 go_wp2
 go_ret
 exact⟨rfl,H.out,(aj _ w).alloc Kv _⟩
theorem Gw {w:World} {g n:Nat} {l:List UInt8} {T:TypeId} {fr:Nat×Nat} (h:w.heap[g]?=some (.cells (ay l).toArray T fr)) (hn:l.length=n):RB w (some ⟨g,0,none⟩) n l:=
 ⟨hn,fun _=>⟨g,0,rfl,fun k hk=>by rw[bT _ _ _ _ _ _ h,dV,List.getElem?_toArray];exact lS (by omega)⟩⟩
def JB:Array Value:=Array.replicate 32 (.int .u8 0)
theorem RB.Zt {w:World} {A:Option Addr} {n m:Nat} {l r:List UInt8} (h:RB w A m (l++r)) (hl:l.length=n):RB w A n l:=by
 have h1:=h.1
 rw[bP] at h1
 refine⟨hl,fun hn=> ?_⟩
 obtain⟨b,o,e,hc⟩:=h.2 (by omega)
 refine⟨b,o,e,fun k hk=> ?_⟩
 rw[hc k (by omega)]
 simp[List.getD_eq_getElem?_getD,List.getElem?_append_left (show k<l.length by omega)]
def vM (gen n:Nat) (text:List UInt8):List UInt8:=(zn JK htab (dX gen++dX n++text)).take 8
theorem wQ (gen n:Nat) (text:List UInt8):(vM gen n text).length=8:=by unfold vM;rw[eu,qG];rfl
theorem Ia (gen n:Nat) (A:Option Addr) (m c:Nat) (text:List UInt8) (w:World) (hb:RB w A m text) (hmc:m≤c) (hc:c≤maxLen) (hg:gen<4294967296) (hn:n<4294967296) (hm:m≤1000000000) (ht:gI w):
  Cl 199 #[.int .i64 (gen:Int),.int .i64 (n:Int),.slice A m c] w fun e w'=>∃q,e=.returned (.slice (some ⟨q,0,none⟩) 8 32)∧RB w' (some ⟨q,0,none⟩) 8 (vM gen n text)∧w.heap.size≤q∧Bw w w':=by
 have HB:=Hj hb
 have HL:=Hj hb.1
 have HC:=Hj (aB hmc hc)
 have HT:=Hj ht
 have HM:=Hj hm
 have H1:=Hj (fun(W:World)=>jk gen W hg)
 have H2:=Hj (fun(W:World)=>jk n W hn)
 have Hs:Hid ((zn JK htab (dX gen++dX n++text)).length=32):=Hj (qG _ _ _)
 have HS:Hid (vM gen n text=(zn JK htab (dX gen++dX n++text)).take 8):=Hj rfl
 have HF:Hid (([dX gen,dX n,text]:List (List UInt8)).flatten=dX gen++dX n++text):=Hj (by simp)
 clear hb hmc hc hg hn hm ht
 go_enter Tryz.func199,Tryz.ntmps199
 go_wp2_with (first
  | (go_at_call 198;(with_reducible refine(H1.out w).mono ?_);rintro e w1 ⟨rfl,ho1,hb1⟩;have O1:=Hj ho1;have B1:=Hj hb1;clear ho1 hb1)
  | (go_at_call 198;(with_reducible refine(H2.out w1).mono ?_);rintro e w2 ⟨rfl,ho2,hb2⟩;have O2:=Hj ho2;have Rk:=Hj (O1.out.below hb2);have B2:=Hj (B1.out.trans (hb2.mono B1.out.size));clear ho2 hb2))
 have D3:=Hj ((aj w2.heap.size w2).alloc Kv (.cells #[.slice (some ⟨w.heap.size,0,none⟩) 4 4,.slice (some ⟨w1.heap.size,0,none⟩) 4 4,.slice A m c] 35))
 have B3:=Hj (B2.out.trans (D3.out.mono B2.out.size))
 have H9:EO (w2.alloc (.cells #[.slice (some ⟨w.heap.size,0,none⟩) 4 4,.slice (some ⟨w1.heap.size,0,none⟩) 4 4,.slice A m c] 35)) (some ⟨w2.heap.size,0,none⟩) 3 [dX gen,dX n,text]:=EO.lits (vs:=[.slice (some ⟨w.heap.size,0,none⟩) 4 4,.slice (some ⟨w1.heap.size,0,none⟩) 4 4,.slice A m c]) (aA w2 _) rfl (fun k hk=>by
  have:k=0∨k=1∨k=2:=by omega
  rcases this with rfl | rfl | rfl
  ·exact ⟨_,rfl,(Rk.out.below D3.out).sb⟩
  ·exact ⟨_,rfl,(O2.out.below D3.out).sb⟩
  ·exact ⟨_,rfl,SB.tN (HB.out.keep (Kz B3.out)) HC.out.1 HC.out.2⟩)
 refine(Wj _ 3 3 _ JK htab _ H9 (HT.out.k.keep (Kz B3.out)) (HT.out.f.keep (Kz B3.out)) (dP HT.out.lt B3.out.size) (by unfold maxLen;omega) (by rw[HF.out];have:=HL.out;have:=HM.out;simp[dX];omega)).mono ?_
 rw[HF.out]
 rintro e w4 ⟨rfl,hb4⟩
 have B4:=Hj (B3.out.trans (hb4.mono B3.out.size))
 clear hb4 H9
 generalize zn JK htab (dX gen++dX n++text)=mac at*
 obtain⟨cur,hcur⟩:∃cur,cur=(ay mac).toArray:=⟨_,rfl⟩
 rw[←hcur]
 have mF:=Hj hcur
 have HC2:Hid (cur.size=32):=Hj (by rw[hcur];simp[ay,Hs.out])
 have HB2:Hid (cur.all (·.oneCell')=true):=Hj (by
  rw[hcur,yg]
  intro y hy
  exact fQ _ y (by simpa using hy))
 clear hcur
 go_wp2_with (refine wpList_store_row rfl 297 (.tmp 7) (.tmp 14) rfl w4.heap.size cur rfl rfl 297 _ (aA w4 _) (by rw[HC2.out];exact jK) (by rw[HC2.out];rfl) HB2.out ?_)
 go_ret
 refine⟨w4.heap.size,rfl,?_,B4.out.size,below_setRow (B4.out.alloc B4.out.size _) B4.out.size cur⟩
 have h:RB ((w4.alloc (.cells JB 297)).setRow w4.heap.size cur) (some ⟨w4.heap.size,0,none⟩) 32 mac:=Gw (T:=297) (fr:=(0,0)) (by rw[←mF.out];exact setRow_heap _ _ _ _ _ _ (aA w4 _)) Hs.out
 rw[←rE 8 mac] at h
 rw[HS.out]
 exact h.Zt (by rw[eu,Hs.out];rfl)
theorem Tt (m:Nat) (w:World) (hm:m≤140737488355328):Cl 215 #[.slice none 0 0,.int .i64 (m:Int)] w fun e w'=>∃v,e=.returned v∧OB w' w.heap.size v []∧Bw w w':=by
 by_cases h0:m=0
 ·subst h0
  go_enter Tryz.func215,Tryz.ntmps215
  go_wp2
  go_ret
  exact⟨_,rfl,OB.nil _ _,aj _ _⟩
 ·have H1:=Hj (OB.nil w w.heap.size)
  go_enter Tryz.func215,Tryz.ntmps215
  go_wp2_with (first
   | (at_builtin;refine lF (m:=m) rfl (.tmp 20) (.tmp 21) rfl H1.out rfl ?_ ?_ ?_ Kv ?_;rotate_right;intro v1 w1 hown1 kU Zn;have HB1:=Hj (bD (aj _ w) kU H1.out Kv Kv);have Yr:=Hj hown1;obtain⟨A1,c1,e1,_,_,_⟩:=hown1.form;subst e1;clear hown1 kU Zn)
   | fail)
  all_goals skip
  ·go_ret
   refine⟨_,rfl,?_,HB1.out⟩
   have:=Yr.out.Lh 0 (bU _)
   simpa using this
  ·go_num
  ·omega
  ·simpa using hm
theorem oH (A:Option Addr) (n c:Nat) (ls:List (List UInt8)) (w:World) (hl:EO w A n ls) (hn:n≤maxLen) (hlen:ls.flatten.length≤1000000000):
  Cl 169 #[.slice A n c] w fun e w'=>∃v,e=.returned v∧OB w' w.heap.size v ls.flatten∧Bw w w':=by
 have Hl:=Hj hl
 have AP:=Hj hl.1
 clear hl
 unfold maxLen at hn
 have Hlen:Hid (∀k,(ls.take k).flatten.length≤1000000000):=fun k=>Cz (uG ls k) hlen
 have Htot:=Hj hlen
 clear hlen
 go_enter Tryz.func169,Tryz.ntmps169
 go_wp2
 go_loopg [11,3] n (fun k s11 s3 wr=>∃(i:Nat),s11=.int .i64 (i:Int)∧i+k=n∧s3=.int .i64 ((ls.take i).flatten.length:Int)∧wr=w)
 case atStart=>exact⟨0,rfl,by omega,rfl,rfl⟩
 case round=>
  obtain⟨i,rfl,hik,rfl,rfl⟩:=hrel
  by_cases hi:i<n
  ·obtain ⟨b,o,hA,hb⟩:=Hl.out.2 (by omega)
   obtain⟨v,c1,A',c',hv,hc1,hc2,hrb⟩:=hb i hi
   subst hv
   subst hA
   have hft:=qQ ls i (by rw[AP.out];exact hi)
   have hf1:=Hlen.out (i+1)
   rw[hft,bP] at hf1
   have HFT:=Hj hft
   clear hb hrb hft
   have i0:(0:Int)≤(i:Int):=by omega
   have i1:(i:Int)<(n:Int):=by omega
   generalize hx:ls.getD i []=x at*
   clear hx
   generalize hy:(ls.take i).flatten=y at*
   go_wp2
   go_roundg (gk-1)
   case measure=>omega
   case rel=>refine⟨i+1,by go_num,by omega,?_,rfl⟩;rw[HFT.out,bP];go_num
  ·obtain rfl:i=n:=by omega
   have hall:(ls.take i).flatten=ls.flatten:=by rw[fO (by rw[AP.out];exact bZ _)]
   rw[hall]
   have HG0:∀W:World,_:=fun(W:World)=>Tt ls.flatten.length W (by have:=Htot.out;omega)
   have pK:=Hj hall
   clear hall
   generalize ls.flatten.length=F at HG0 ⊢
   have HG:=Hj HG0
   clear HG0
   go_wp2_with (first
    | (go_at_call 215;((refine(HG.out wr).mono ?_);rintro e w1 ⟨v1,rfl,hown1,eP⟩;have Yr:=Hj hown1;have HB1:=Hj eP;clear hown1 eP))
    | fail)
   have HRl:=Hj (Hl.out.keep (Kz HB1.out))
   go_loopg [27,6] i (fun k s27 s6 w2=>∃(j:Nat),s27=.int .i64 (j:Int)∧j+k=i∧OB w2 wr.heap.size s6 (ls.take j).flatten∧Bw wr w2)
   case atStart=>exact⟨0,rfl,by omega,Yr.out,HB1.out⟩
   case round=>
    obtain⟨j,rfl,hjk,hown,hbel⟩:=hrel
    have dS:=Hj hown
    have dN:=Hj hbel
    clear hown hbel
    by_cases hj:j<i
    ·obtain ⟨b,o,hA,hb⟩:=Hl.out.2 (by omega)
     obtain⟨v,c1,A',c',hv,hc1,hc2,hrb⟩:=hb j hj
     subst hv
     subst hA
     have c2:=(Kz dN.out) _ _ c1
     have Wh:=Hj (hrb.keep (Kz dN.out))
     have hft:=qQ ls j (by rw[AP.out];exact hj)
     have hf1:=Hlen.out (j+1)
     rw[hft,bP] at hf1
     have HFT:=Hj hft
     have HF1:=Hj hf1
     clear hb hrb hft c1 hf1
     have j0:(0:Int)≤(j:Int):=by omega
     have j1:(j:Int)<(i:Int):=by omega
     generalize hx:ls.getD j []=x at*
     clear hx
     generalize hy:(ls.take j).flatten=y at*
     go_wp2_with (first
      | (at_builtin;refine aN rfl (.tmp 31) (.tmp 32) 35 rfl dS.out rfl (RB.src Tryz.underlying35 (l:=x) Wh.out) rfl ?_ ?_ ?_;rotate_right;intro v2 w2 hown2 dQ jZ;have UN:=Hj hown2;have HB2:=Hj (bD dN.out dQ dS.out Kv dN.out.size);clear hown2 dQ jZ)
      | fail)
     case refine_1=>have:=HF1.out;omega
     case refine_2=>exact dN.out.size
     go_roundg (gk-1)
     case measure=>omega
     case rel=>exact⟨j+1,by go_num,by omega,by rw[HFT.out];exact UN.out,HB2.out⟩
    ·obtain rfl:j=i:=by omega
     rw[pK.out] at dS
     go_wp2
     go_ret
     exact⟨_,rfl,dS.out,dN.out⟩
/-- A snapshot's bytes. -/
def wR (gen:Nat) (text:List UInt8):List UInt8:=dX gen++dX text.length++vM gen text.length text++text
theorem Oz (gen:Nat) (text:List UInt8):([dX gen,dX text.length,vM gen text.length text,text]:List (List UInt8)).flatten=wR gen text:=by simp[wR]
theorem o8 (gen:Nat) (text:List UInt8):(wR gen text).length=16+text.length:=by
 unfold wR;rw[bP,bP,bP,wQ];simp[wP]
/-- A record's bytes. -/
def JO (gen n:Nat) (text:List UInt8):List UInt8:=dX gen++dX n++dX text.length++vM gen n text++text
theorem Tv (gen n:Nat) (text:List UInt8):([dX gen,dX n,dX text.length,vM gen n text,text]:List (List UInt8)).flatten=JO gen n text:=by simp[JO]
theorem wU (gen n:Nat) (text:List UInt8):(JO gen n text).length=20+text.length:=by
 unfold JO;rw[bP,bP,bP,bP,wQ];simp[wP]
theorem JQ (gen n:Nat) (A:Option Addr) (m c:Nat) (text:List UInt8) (w:World) (hb:RB w A m text) (hmc:m≤c) (hc:c≤maxLen) (hg:gen<4294967296) (hn:n<4294967296) (hm:m≤100000000) (ht:gI w):
  Cl 157 #[.int .i64 (gen:Int),.int .i64 (n:Int),.slice A m c] w fun e w'=>∃v,e=.returned v∧OB w' w.heap.size v (JO gen n text)∧Bw w w':=by
 have HB:=Hj hb
 have HL:=Hj hb.1
 have HC:=Hj (aB hmc hc)
 have HT:=Hj ht
 have HM:=Hj hm
 have H1:=Hj (fun(W:World)=>jk gen W hg)
 have H2:=Hj (fun(W:World)=>jk n W hn)
 have H3:=Hj (fun(W:World)=>jk m W (by omega))
 have H4:=Hj (fun(W:World) (hb:RB W A m text) (ht:gI W)=>Ia gen n A m c text W hb hmc hc hg hn (by omega) ht)
 have HF:=Hj (Tv gen n text)
 clear hb hmc hc hg hn ht hm
 go_enter Tryz.func157,Tryz.ntmps157
 go_wp2_with (first
  | (go_at_call 198;(with_reducible refine(H1.out w).mono ?_);rintro e w1 ⟨rfl,ho1,hb1⟩;have O1:=Hj ho1;have B1:=Hj hb1;clear ho1 hb1)
  | (go_at_call 198;(with_reducible refine(H2.out w1).mono ?_);rintro e w2 ⟨rfl,ho2,hb2⟩;have O2:=Hj ho2;have B2:=Hj (B1.out.trans (hb2.mono B1.out.size));have Rk:=Hj (O1.out.below hb2);clear ho2 hb2)
  | (go_at_call 198;(with_reducible refine(H3.out w2).mono ?_);rintro e w3 ⟨rfl,ho3,hb3⟩;have O3:=Hj ho3;have B3:=Hj (B2.out.trans (hb3.mono B2.out.size));have O13:=Hj (Rk.out.below hb3);have O23:=Hj (O2.out.below hb3);clear ho3 hb3)
  | (go_at_call 199;(refine(H4.out w3 (HB.out.keep (Kz B3.out)) (HT.out.keep (Kz B3.out))).mono ?_);rintro e w4 ⟨q4,rfl,hr4,hq4,hb4⟩;have R4:=Hj hr4;have B4:=Hj (B3.out.trans (hb4.mono B3.out.size));have O14:=Hj (O13.out.below hb4);have O24:=Hj (O23.out.below hb4);have O34:=Hj (O3.out.below hb4);clear hr4 hb4)
  | fail)
 have D5:=Hj ((aj w4.heap.size w4).alloc Kv (.cells #[.slice (some ⟨w.heap.size,0,none⟩) 4 4,.slice (some ⟨w1.heap.size,0,none⟩) 4 4,.slice (some ⟨w2.heap.size,0,none⟩) 4 4,.slice (some ⟨q4,0,none⟩) 8 32,.slice A m c] 35))
 have B5:=Hj (B4.out.trans (D5.out.mono B4.out.size))
 have H9:EO (w4.alloc (.cells #[.slice (some ⟨w.heap.size,0,none⟩) 4 4,.slice (some ⟨w1.heap.size,0,none⟩) 4 4,.slice (some ⟨w2.heap.size,0,none⟩) 4 4,.slice (some ⟨q4,0,none⟩) 8 32,.slice A m c] 35)) (some ⟨w4.heap.size,0,none⟩) 5 [dX gen,dX n,dX text.length,vM gen n text,text]:=EO.lits (vs:=[.slice (some ⟨w.heap.size,0,none⟩) 4 4,.slice (some ⟨w1.heap.size,0,none⟩) 4 4,.slice (some ⟨w2.heap.size,0,none⟩) 4 4,.slice (some ⟨q4,0,none⟩) 8 32,.slice A m c]) (aA w4 _) rfl (fun k hk=>by
  have:k=0∨k=1∨k=2∨k=3∨k=4:=by omega
  rcases this with rfl | rfl | rfl | rfl | rfl
  ·exact ⟨_,rfl,(O14.out.below D5.out).sb⟩
  ·exact ⟨_,rfl,(O24.out.below D5.out).sb⟩
  ·exact ⟨_,rfl,by show SB _ _ (dX text.length);rw[HL.out];exact(O34.out.below D5.out).sb⟩
  ·exact ⟨_,rfl,SB.tN (R4.out.keep (Kz D5.out)) (by decide) (by decide)⟩
  ·exact ⟨_,rfl,SB.tN (HB.out.keep (Kz B5.out)) HC.out.1 HC.out.2⟩)
 have HCt:=Hj (oH _ 5 5 _ _ H9 (by decide) (by rw[HF.out,wU];have:=HL.out;have:=HM.out;omega))
 rw[HF.out] at HCt
 go_wp2_with (first
  | (go_at_call 169;(refine(HCt.out).mono ?_);rintro e w6 ⟨v6,rfl,pW,hb6⟩;have O6:=Hj pW;have B6:=Hj (B5.out.trans (hb6.mono B5.out.size));clear pW hb6)
  | fail)
 go_ret
 exact⟨_,rfl,O6.out.mono B5.out.size,B6.out⟩
theorem Below.fZ {B:Nat} {a w:World} (h:Below B a.drew w):Below B a w:=⟨h.os,h.tape,h.output,h.size,h.block⟩
/-- Concat over the four parts of a snapshot. -/
theorem cat4 (gen m:Nat) (A:Option Addr) (c:Nat) (text:List UInt8) (w:World) (V1 V2:Value) (q4:Nat) (hL:text.length=m) (hmc:m≤c) (hc:c≤maxLen) (hm:m≤100000000) (h1:SB w V1 (dX gen)) (h2:SB w V2 (dX m)) (h3:RB w (some ⟨q4,0,none⟩) 8 (vM gen m text)) (h4:RB w A m text):
  Cl 169 #[.slice (some ⟨w.heap.size,0,none⟩) 4 4] (w.alloc (.cells #[V1,V2,.slice (some ⟨q4,0,none⟩) 8 32,.slice A m c] 35)) fun e w'=>∃v,e=.returned v∧OB w' w.heap.size v (wR gen text)∧Bw w w':=by
 have D5:=((aj w.heap.size w).alloc Kv (.cells #[V1,V2,.slice (some ⟨q4,0,none⟩) 8 32,.slice A m c] 35))
 have k5:=Kz D5
 have H9:EO (w.alloc (.cells #[V1,V2,.slice (some ⟨q4,0,none⟩) 8 32,.slice A m c] 35)) (some ⟨w.heap.size,0,none⟩) 4 [dX gen,dX text.length,vM gen text.length text,text]:=EO.lits (vs:=[V1,V2,.slice (some ⟨q4,0,none⟩) 8 32,.slice A m c]) (aA w _) rfl (fun k hk=>by
  have:k=0∨k=1∨k=2∨k=3:=by omega
  rcases this with rfl | rfl | rfl | rfl
  ·exact ⟨_,rfl,h1.keep k5⟩
  ·exact ⟨_,rfl,by show SB _ _ (dX text.length);rw[hL];exact h2.keep k5⟩
  ·exact ⟨_,rfl,by show SB _ _ (vM gen text.length text);rw[hL];exact SB.tN (h3.keep k5) (by decide) (by decide)⟩
  ·exact ⟨_,rfl,SB.tN (h4.keep k5) hmc hc⟩)
 have hf:=Oz gen text
 refine(oH _ 4 4 _ _ H9 (by decide) (by rw[hf,o8];omega)).mono ?_
 rw[hf]
 rintro e w6 ⟨v6,rfl,pW,hb6⟩
 exact⟨_,rfl,pW.mono D5.size,D5.trans (hb6.mono D5.size)⟩
theorem zu (gen slot:Nat) (A:Option Addr) (m c:Nat) (text:List UInt8) (w:World) (hb:RB w A m text) (hmc:m≤c) (hc:c≤maxLen) (hg:gen<4294967296) (hm:m≤100000000) (ht:gI w):
  Cl 136 #[.agg #[.int .i64 (gen:Int),.int .i64 (slot:Int),.slice A m c]] w fun e w'=>∃v,e=.returned v∧OB w' w.heap.size v (wR gen text)∧Bw w w':=by
 have HB:=Hj hb
 have HL:=Hj hb.1
 have HC:=Hj (aB hmc hc)
 have HT:=Hj ht
 have HM:=Hj hm
 have H1:=Hj (fun(W:World)=>jk gen W hg)
 have H3:=Hj (fun(W:World)=>jk m W (by omega))
 have H4:=Hj (fun(W:World) (hb:RB W A m text) (ht:gI W)=>Ia gen m A m c text W hb hmc hc hg (by omega) (by omega) ht)
 have HCC:=Hj (fun(W:World) (V1 V2:Value) (q4:Nat) (h1:SB W V1 (dX gen)) (h2:SB W V2 (dX m)) (h3:RB W (some ⟨q4,0,none⟩) 8 (vM gen m text)) (h4:RB W A m text)=>cat4 gen m A c text W V1 V2 q4 HL.out hmc hc hm h1 h2 h3 h4)
 have E0:=Hj (aA w (.cells #[.int .i64 (gen:Int),.int .i64 (slot:Int),.slice A m c] 171))
 have B0:=Hj ((aj w.heap.size w).alloc Kv (.cells #[.int .i64 (gen:Int),.int .i64 (slot:Int),.slice A m c] 171))
 clear hb hmc hc hg ht hm
 go_enter Tryz.func136,Tryz.ntmps136
 go_wp2_with fail
 obtain⟨wB,hwB⟩:∃W,W=w.alloc (.cells #[.int .i64 (gen:Int),.int .i64 (slot:Int),.slice A m c] 171):=⟨_,rfl⟩
 rw[←hwB] at E0 B0 ⊢
 have K0:Hid (∀W,Bw wB W→W.cell? ⟨w.heap.size,0,none⟩=some (.int .i64 (gen:Int))∧W.cell? ⟨w.heap.size,2,none⟩=some (.slice A m c)):=Hj fun W h=>by
  have k:=Kz h
  exact⟨k _ _ (Kq 0 E0.out),k _ _ (Kq 2 E0.out)⟩
 obtain⟨c0,c2⟩:=K0.out wB (aj _ _)
 clear hwB
 go_region_held3 (fun w'=>w'.cell? ⟨w.heap.size,0,none⟩=some (.int .i64 (gen:Int))∧w'.cell? ⟨w.heap.size,2,none⟩=some (.slice A m c)) (first | exact⟨by assumption,by assumption⟩ | go_keep)
  (first
   | (go_at_call 198;(with_reducible refine(H1.out wB.drew).mono ?_);rintro e w1 ⟨rfl,ho1,hb1⟩;have B1:Hid (Bw wB w1):=Hj (Below.fZ hb1);have O1:Hid (OB w1 wB.heap.size (.slice (some ⟨wB.heap.size,0,none⟩) 4 4) (dX gen)):=Hj ho1;obtain⟨x0,x2⟩:=K0.out w1 B1.out;clear ho1 hb1)
   | (go_at_call 198;(with_reducible refine(H3.out w1).mono ?_);rintro e w2 ⟨rfl,ho2,hb2⟩;have O2:=Hj ho2;have B2:=Hj (B1.out.trans (hb2.mono B1.out.size));have Rk:=Hj (O1.out.below hb2);obtain⟨y0,y2⟩:=K0.out w2 B2.out;clear ho2 hb2)
   | (go_at_call 199;(refine(H4.out w2 (HB.out.keep (Kz (B0.out.trans (B2.out.mono B0.out.size)))) (HT.out.keep (Kz (B0.out.trans (B2.out.mono B0.out.size))))).mono ?_);rintro e w4 ⟨q4,rfl,hr4,hq4,hb4⟩;have R4:=Hj hr4;have B4:=Hj (B2.out.trans (hb4.mono B2.out.size));have O14:=Hj (Rk.out.below hb4);have O24:=Hj (O2.out.below hb4);obtain⟨z0,z2⟩:=K0.out w4 B4.out;have HCt:=Hj (HCC.out w4 _ _ _ O14.out.sb O24.out.sb R4.out (HB.out.keep (Kz (B0.out.trans (B4.out.mono B0.out.size)))));clear hr4 hb4)
   | (go_at_call 169;(refine HCt.out.mono ?_);rintro e w6 ⟨v6,rfl,pW,hb6⟩;obtain⟨u0,u2⟩:=K0.out w6 (B4.out.trans (hb6.mono B4.out.size));have B6:=Hj (B0.out.trans ((B4.out.trans (hb6.mono B4.out.size)).mono B0.out.size));have O6:=Hj (pW.mono (B0.out.trans (B4.out.mono B0.out.size)).size);clear pW hb6))
 all_goals
  go_wp2
  go_ret
  exact⟨_,rfl,O6.out,B6.out⟩
theorem kM {B:Nat} {a w:World} (h:Below B a w):Below B a w.drew:=⟨h.os,h.tape,h.output,h.size,h.block⟩
/-- Concat over an element's three parts. -/
theorem cat3 (tag:Nat) (A:Option Addr) (m c q:Nat) (body:List UInt8) (w:World) (V:Value) (hm:m≤65535) (hmc:m≤c) (hc:c≤maxLen) (h1:RB w (some ⟨q,0,none⟩) 1 [UInt8.ofNat tag]) (h2:SB w V (kL m)) (h3:RB w A m body):
  Cl 169 #[.slice (some ⟨w.heap.size,0,none⟩) 3 3] (w.alloc (.cells #[.slice (some ⟨q,0,none⟩) 1 1,V,.slice A m c] 35)) fun e w'=>∃v,e=.returned v∧OB w' w.heap.size v (bG tag body)∧Bw w w':=by
 have D5:=((aj w.heap.size w).alloc Kv (.cells #[.slice (some ⟨q,0,none⟩) 1 1,V,.slice A m c] 35))
 have k5:=Kz D5
 have hL:body.length=m:=h3.1
 have H9:EO (w.alloc (.cells #[.slice (some ⟨q,0,none⟩) 1 1,V,.slice A m c] 35)) (some ⟨w.heap.size,0,none⟩) 3 [[UInt8.ofNat tag],kL body.length,body]:=EO.lits (vs:=[.slice (some ⟨q,0,none⟩) 1 1,V,.slice A m c]) (aA w _) rfl (fun k hk=>by
  have:k=0∨k=1∨k=2:=by omega
  rcases this with rfl | rfl | rfl
  ·exact ⟨_,rfl,SB.tN (h1.keep k5) (by decide) (by decide)⟩
  ·exact ⟨_,rfl,by show SB _ _ (kL body.length);rw[hL];exact h2.keep k5⟩
  ·exact ⟨_,rfl,SB.tN (h3.keep k5) hmc hc⟩)
 have hf:([[UInt8.ofNat tag],kL body.length,body]:List (List UInt8)).flatten=bG tag body:=by simp[bG]
 refine(oH _ 3 3 _ _ H9 (by decide) (by rw[hf];have:=oG tag body (by omega);omega)).mono ?_
 rw[hf]
 rintro e w6 ⟨v6,rfl,pW,hb6⟩
 exact⟨_,rfl,pW.mono D5.size,D5.trans (hb6.mono D5.size)⟩
theorem KO (tag:Nat) (A:Option Addr) (m c:Nat) (body:List UInt8) (w:World) (ht:Tag (tag:Int)) (htl:tag<256) (hb:RB w A m body) (hmc:m≤c) (hc:c≤maxLen) (hm:m≤65530):
  Cl 107 #[.agg #[.int .i64 (tag:Int),.slice A m c]] w fun e w'=>∃A' c',e=.returned (.tuple #[.slice A' (bG tag body).length c',.nilIface])∧OB w' w.heap.size (.slice A' (bG tag body).length c') (bG tag body)∧Bw w w':=by
 obtain⟨wb,hwb⟩:∃W,W=w.alloc (.cells #[.int .i64 (tag:Int),.slice A m c] 179):=⟨_,rfl⟩
 have hbb:=(aj w.heap.size w).alloc Kv (.cells #[.int .i64 (tag:Int),.slice A m c] 179)
 have hrow:=aA w (.cells #[.int .i64 (tag:Int),.slice A m c] 179)
 rw[←hwb] at hbb hrow
 have BB:=Hj hbb
 have HK:Hid (∀W,Bw wb W→W.cell? ⟨w.heap.size,0,none⟩=some (.int .i64 (tag:Int))∧W.cell? ⟨w.heap.size,1,none⟩=some (.slice A m c)):=Hj fun W hW=>⟨Kz hW _ _ (Kq 0 hrow),Kz hW _ _ (Kq 1 hrow)⟩
 have HKn:=Hj (fun W=>Oy (tag:Int) W ht)
 have Us:=Hj (fun W=>JM m W (by omega))
 have HB:=Hj hb
 have HM:=Hj (aB hmc (aB hc hm))
 have q1:decide ((m:Int)>65530)=false:=aQ (by omega)
 have q1':decide (65530<(m:Int))=false:=aQ (by omega)
 have q1n:decide (65530<m)=false:=aQ (by omega)
 obtain⟨y,hy⟩:∃y,y=UInt8.ofNat tag:=⟨_,rfl⟩
 have hu:=zq tag
 rw[←hy] at hu
 have hu3:IntKind.u8.wrap (tag:Int)=(y.toNat:Int):=by rw[←hu];simp[IntKind.wrap,IntKind.signed,IntKind.bits]
 have hu2:(y.toNat:Nat)=tag:=by rw[hy,UInt8.toNat_ofNat'];omega
 have HY:=Hj hy
 have HU2:=Hj hu2
 clear ht htl hb hmc hc hm hbb hrow hy hu2
 go_enter Tryz.func107,Tryz.ntmps107
 go_wp2_with (first
  | (go_at_call 168;(rw[←hwb];(refine(HKn.out wb).mono ?_);rintro e w1 ⟨rfl,hb1⟩;have B1:=Hj hb1;obtain⟨x0,x1⟩:=HK.out w1 hb1;clear hb1))
  | fail)
 have HB1:Hid (RB w1 A m body):=Hj (HB.out.keep (Kz (BB.out.trans (B1.out.mono BB.out.size))))
 have HRY:Hid (∀W:World,RB (W.alloc (.cells #[.int .u8 (y.toNat:Int)] 5)) (some ⟨W.heap.size,0,none⟩) 1 [y]):=Hj fun W=>by
  have h:=OB.lit W 0 (bU _) [y] 1 rfl (by simp[maxLen])
  obtain⟨A,cap,e,_,_,hr⟩:=OB.form h
  injection e with e1 _ _
  subst e1
  exact hr
 have HCat:Hid (∀(W:World) (q:Nat) (V:Value),RB W (some ⟨q,0,none⟩) 1 [y]→SB W V (kL m)→RB W A m body→Cl 169 #[.slice (some ⟨W.heap.size,0,none⟩) 3 3] (W.alloc (.cells #[.slice (some ⟨q,0,none⟩) 1 1,V,.slice A m c] 35)) fun e w'=>∃v,e=.returned v∧OB w' W.heap.size v (bG tag body)∧Bw W w'):=Hj fun W q V h1 h2 h3=>cat3 tag A m c q body W V (by have:=HM.out;omega) HM.out.1 HM.out.2.1 (by rw[←HY.out];exact h1) h2 h3
 have BD:Hid (Bw w1 w1.drew):=Hj (kM (aj _ _))
 have BA:Hid (Bw w1 (w1.alloc (.cells #[.int .u8 (y.toNat:Int)] 5)).drew):=Hj (kM ((aj _ _).alloc Kv _))
 have XU:Hid (∀W,Bw w1 W→W.cell? ⟨w.heap.size,0,none⟩=some (.int .i64 (tag:Int))∧W.cell? ⟨w.heap.size,1,none⟩=some (.slice A m c)):=Hj fun W hW=>HK.out W (B1.out.trans (hW.mono B1.out.size))
 go_region_held3 (fun w'=>w'.cell? ⟨w.heap.size,0,none⟩=some (.int .i64 (tag:Int))∧w'.cell? ⟨w.heap.size,1,none⟩=some (.slice A m c)) (first | exact⟨by assumption,by assumption⟩ | (exact XU.out _ BA.out) | go_keep)
  (first
   | (go_at_call 170;(with_reducible refine(Us.out w1.drew).mono ?_);rintro e w2 ⟨A2,c2,rfl,ho2,hb2⟩;have B2:=Hj (BD.out.trans (hb2.mono BD.out.size));obtain⟨y0,y1⟩:=XU.out w2 B2.out;have hca:=HCat.out (w2.alloc (.cells #[.int .u8 (y.toNat:Int)] 5)) w2.heap.size _ (HRY.out w2) (OB.alloc ho2 (.cells #[.int .u8 (y.toNat:Int)] 5)).sb ((HB1.out.keep (Kz B2.out)).keep (Kz ((aj _ w2).alloc Kv _)));rw[show (w2.alloc (.cells #[.int .u8 (y.toNat:Int)] 5)).heap.size=w2.heap.size+1 by simp] at hca;have HCa:=Hj hca;clear ho2 hb2 hca)
   | (go_at_call 170;(with_reducible refine(Us.out (w1.alloc (.cells #[.int .u8 (y.toNat:Int)] 5)).drew).mono ?_);rintro e w2 ⟨A2,c2,rfl,ho2,hb2⟩;have B2:=Hj (BA.out.trans (hb2.mono BA.out.size));obtain⟨y0,y1⟩:=XU.out w2 B2.out;have hca:=HCat.out w2 w1.heap.size _ (((HRY.out w1).keep (Keeps.drew _)).keep (Kz hb2)) ho2.sb (HB1.out.keep (Kz B2.out));have HCa:=Hj hca;clear ho2 hb2 hca)
   | (go_at_call 169;((with_reducible refine HCa.out.mono ?_);rintro e w3 ⟨v3,rfl,ho3,hb3⟩;obtain⟨A3,c3,e3,-,-,-⟩:=ho3.form;subst e3;have O3:=Hj ho3;have B3:Hid (Bw w1 w3):=Hj (by first | exact B2.out.trans (hb3.mono B2.out.size) | exact(B2.out.alloc B2.out.size _).trans (hb3.mono (Cz B2.out.size (by simp))));obtain⟨z0,z1⟩:=XU.out w3 B3.out;clear ho3 hb3))
   | fail)
 all_goals
  go_wp2
  go_ret2
  refine⟨A3,c3,rfl,OB.mono O3.out ?_,BB.out.trans ((B1.out.trans (B3.out.mono B1.out.size)).mono BB.out.size)⟩
  have h1:=BB.out.size
  have h2:=B1.out.size
  have h3:=B2.out.size
  simp
  omega
def upd {α:Type} (s:Nat→α) (i:Nat) (x:α):Nat→α:=fun j=>if j=i then x else s j
theorem qx {α:Type} (s:Nat→α) (i:Nat) (x:α):upd s i x i=x:=aF rfl
theorem upd_ne {α:Type} (s:Nat→α) {i j:Nat} (x:α) (h:j≠i):upd s i x j=s j:=aG h
/-- Where records of these lengths end. -/
def dW (ns:List Nat):Nat:=(ns.map fun n=>20+n).sum
theorem vw (ns:List Nat) (n:Nat):dW (ns++[n])=dW ns+(20+n):=by simp[dW]
theorem DV (ns:List Nat):20*ns.length≤dW ns:=by
 induction ns with
 | nil=>exact bU _
 | cons a l ih=>simp[dW] at*;omega
/-- A disk on which nothing waits: its areas' sizes. -/
structure DM where
 room:Int
 s:Nat→Nat
structure LM where
 gen:Nat
 slot:Nat
 ns:List Nat
/-- A log and its disk. -/
structure Fit (m:DM) (L:LM):Prop where
 r0:0≤m.room
 r1:m.room≤100000
 sz:(m.s 0:Int)+m.s 1+m.s 2≤m.room
 slot:L.slot=0∨L.slot=1
 e:m.s 2=dW L.ns
 gen:L.gen≤2147483647
theorem fit0 {room:Int} (h0:0≤room) (h1:room≤100000):Fit ⟨room,fun _=>0⟩ ⟨0,1,[]⟩:=⟨h0,h1,by show (0:Int)+0+0≤room;omega,.inr rfl,rfl,by decide⟩
def DM.free (m:DM):Int:=m.room-m.s 0-m.s 1-m.s 2
def DM.put (m:DM) (a n:Nat):DM:=⟨m.room,upd m.s a n⟩
theorem nO (m:DM) (a x:Nat):(m.put a x).s a=x:=aF rfl
theorem kW (m:DM) {a i:Nat} (x:Nat) (h:i≠a):(m.put a x).s i=m.s i:=aG h
/-- Append: the error's number, the disk, the log behind it. -/
def LM.yj (_:LM) (m:DM) (t:List UInt8):Nat:=if m.free<20+(t.length:Int) then 26 else 0
def LM.uS (_:LM) (m:DM) (t:List UInt8):DM:=if m.free<20+(t.length:Int) then m else m.put 2 (m.s 2+(20+t.length))
def LM.app (L:LM) (m:DM) (t:List UInt8):LM:=if m.free<20+(t.length:Int) then L else ⟨L.gen,L.slot,L.ns++[t.length]⟩
/-- Compact. -/
abbrev LM.zC (L:LM) (m:DM) (t:List UInt8):Prop:=2147483647≤L.gen∨m.free<16+(t.length:Int)-(m.s (1-L.slot):Int)
def LM.zW (L:LM) (m:DM) (t:List UInt8):Nat:=if L.zC m t then 26 else 0
def LM.zV (L:LM) (m:DM) (t:List UInt8):DM:=if L.zC m t then m else (m.put (1-L.slot) (16+t.length)).put 2 0
def LM.cp (L:LM) (m:DM) (t:List UInt8):LM:=if L.zC m t then L else ⟨L.gen+1,1-L.slot,[]⟩
section
variable {m:DM} {L:LM}
theorem jm (L:LM) (m:DM) (t:List UInt8):(m.free<20+(t.length:Int)∧L.yj m t=26∧L.uS m t=m∧L.app m t=L)∨(¬m.free<20+(t.length:Int)∧L.yj m t=0∧L.uS m t=m.put 2 (m.s 2+(20+t.length))∧L.app m t=⟨L.gen,L.slot,L.ns++[t.length]⟩):=by
 unfold LM.yj LM.uS LM.app
 by_cases h:m.free<20+(t.length:Int)
 ·exact .inl ⟨h,aF h,aF h,aF h⟩
 ·exact .inr ⟨h,aG h,aG h,aG h⟩
theorem lT (L:LM) (m:DM) (t:List UInt8):(L.zC m t∧L.zW m t=26∧L.zV m t=m∧L.cp m t=L)∨(¬L.zC m t∧L.zW m t=0∧L.zV m t=(m.put (1-L.slot) (16+t.length)).put 2 0∧L.cp m t=⟨L.gen+1,1-L.slot,[]⟩):=by
 unfold LM.zW LM.zV LM.cp
 by_cases h:L.zC m t
 ·exact .inl ⟨h,aF h,aF h,aF h⟩
 ·exact .inr ⟨h,aG h,aG h,aG h⟩
theorem Fit.app (h:Fit m L) (t:List UInt8):Fit (L.uS m t) (L.app m t):=by
 rcases jm L m t with ⟨_,_,h1,h2⟩ | ⟨h0,_,h1,h2⟩<;>rw[h1,h2]
 ·exact h
 ·have:=h.sz
  unfold DM.free at h0
  refine⟨h.r0,h.r1,?_,h.slot,?_,h.gen⟩
  ·rw [nO,kW _ _ (by decide),kW _ _ (by decide)]
   show _≤m.room
   omega
  ·rw [nO,h.e]
   exact(vw _ _).symm
theorem Fit.cp (h:Fit m L) (t:List UInt8):Fit (L.zV m t) (L.cp m t):=by
 rcases lT L m t with ⟨_,_,h1,h2⟩ | ⟨h0,_,h1,h2⟩<;>rw[h1,h2]
 ·exact h
 ·have:=h.sz
  have hg:=mt Or.inl h0
  replace h0:=mt Or.inr h0
  unfold DM.free at h0
  refine⟨h.r0,h.r1,?_,by have:=h.slot;show 1-L.slot=0∨1-L.slot=1;omega,nO _ _ _,by show L.gen+1≤_;omega⟩
  rw[nO,kW _ _ (by decide:(0:Nat)≠2),kW _ _ (by decide:(1:Nat)≠2)]
  show _≤m.room
  rcases h.slot with e | e<;>rw[e] at h0 ⊢
  ·rw [show (1-0:Nat)=1 from rfl] at h0 ⊢;rw[nO,kW _ _ (by decide)];omega
  ·rw [show (1-1:Nat)=0 from rfl] at h0 ⊢;rw[nO,kW _ _ (by decide)];omega
end
/-- Nothing waits on a disk. -/
structure Quiet (d:DK) (m:DM):Prop where
 ok:d.Ok
 waits:d.waits=[]
 room:d.room=m.room
 seen:∀i,i<3→(d.b (3+i)).length=m.s i
section
variable {d:DK} {m:DM}
theorem Quiet.free (h:Quiet d m):d.free=m.free:=by
 have h0:=h.seen 0 (by decide)
 have h1:=h.seen 1 (by decide)
 have h2:=h.seen 2 (by decide)
 unfold DK.free DM.free
 rw[←h0,←h1,←h2,h.room]
theorem Quiet.most (h:Quiet d m) {a:Nat} (ha:a<3):m.free+(m.s a:Int)≤1048576:=by
 have:=h.ok.yE
 have:=h.room
 have:a=0∨a=1∨a=2:=by omega
 unfold DM.free
 rcases this with rfl | rfl | rfl<;>omega
theorem Quiet.step (h:Quiet d m) {a n:Nat} (ha:a<3) (c:jG) (hc:c.area=a) (hp:c.pos+c.bytes.length≤1048576) (hn:(Pg (d.b (3+a)) c).length=n):Quiet (d.wait c).flush (m.put a n):=by
 refine⟨(h.ok.Qv (by omega) hp).flush,rfl,h.room,fun i hi=> ?_⟩
 show (if 3+i<3 then _ else updB d.b (3+c.area) (Pg (d.b (3+c.area)) c) (3+i)).length=upd m.s a n i
 rw[aG (by omega),hc]
 by_cases e:i=a
 ·subst e;rw[BL,qx,hn]
 ·rw [yF _ _ _ _ (by omega),upd_ne _ _ e,h.seen i hi]
theorem Quiet.wr (h:Quiet d m) {a:Nat} (ha:a<3) (bs:List UInt8) (hf:(bs.length:Int)≤m.free):Quiet (d.wait ⟨a,m.s a,bs,false⟩).flush (m.put a (m.s a+bs.length)):=by
 have:=h.most ha
 refine h.step ha _ rfl (by show m.s a+bs.length≤_;omega) ?_
 rw[←h.seen a ha]
 unfold Pg rJ
 rw[aG (by show ¬(false=true);decide)]
 simp
theorem Quiet.cl (h:Quiet d m) {a:Nat} (ha:a<3):Quiet (d.wait ⟨a,0,[],true⟩).flush (m.put a 0):=
 h.step ha _ rfl (by show 0+0≤_;omega) (by unfold Pg;rw[aF rfl];rfl)
theorem Wx (a x y:Nat):(m.put a x).put a y=m.put a y:=by
 unfold DM.put upd
 congr 1
 funext j
 show (if j=a then y else if j=a then x else m.s j)=_
 split<;>rfl
end
end Go.Proofs.YtdhbpajamlfacaaGreatDoor
