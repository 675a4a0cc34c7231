/- Layer 18 (wal): numbers, sums. -/
import Derived.Test.YtdhbpajamlfacaaGreatDoorTabs
import Derived.Test.YtdhbpajamlfacaaGreatDoorWho
import Derived.Test.YtdhbpajamlfacaaGreatDoorDiskWr
import Derived.IntWalk
import Derived.Deep.RegionHeld3
set_option maxRecDepth 100000
namespace Go.Proofs.YtdhbpajamlfacaaGreatDoor
open Go.RowKit
/-- A number's four bytes. -/
def dF (n:Nat):List UInt8:=[UInt8.ofNat (n / 16777216),UInt8.ofNat (n / 65536),UInt8.ofNat (n / 256),UInt8.ofNat n]
theorem uy (n:Nat):(dF n).length=4:=rfl
set_option maxHeartbeats 1000000 in
theorem iq (n:Nat) (w:World) (hn:n<4294967296):
  Calls Tryz.prog 198 #[.int .i64 (n:Int)] w fun e w'=>e=.returned (.slice (some ⟨w.heap.size,0,none⟩) 4 4)∧OB w' w.heap.size (.slice (some ⟨w.heap.size,0,none⟩) 4 4) (dF n)∧Below w.heap.size w w':=by
 have H:=Hj (OB.lit w w.heap.size Kv (dF n) 4 rfl (by simp[dF,maxLen]))
 have e:(au (dF n)).toArray=#[.int .u8 ((n:Int) / 16777216),.int .u8 ((n:Int) / 65536 % 256),.int .u8 ((n:Int) / 256 % 256),.int .u8 ((n:Int) % 256)]:=by
  simp[au,dF]
  omega
 rw[e] at H
 have n0:(0:Int)≤(n:Int):=by omega
 have n1:(n:Int)<4294967296:=by omega
 clear e
 go_enter Tryz.func198,Tryz.ntmps198
 go_wp2
 go_ret
 exact⟨rfl,H.out,(Below.refl _ w).alloc Kv _⟩
theorem En {w:World} {g n:Nat} {l:List UInt8} {T:TypeId} {fr:Nat×Nat} (h:w.heap[g]?=some (.cells (au l).toArray T fr)) (hn:l.length=n):RB w (some ⟨g,0,none⟩) n l:=
 ⟨hn,fun _=>⟨g,0,rfl,fun k hk=>by rw[cell_of_row _ _ _ _ _ _ h,Nat.zero_add,List.getElem?_toArray];exact jO (by omega)⟩⟩
def GU:Array Value:=Array.replicate 32 (.int .u8 0)
theorem RB.Xt {w:World} {A:Option Addr} {n m:Nat} {l r:List UInt8} (h:RB w A m (l++r)) (hl:l.length=n):RB w A n l:=by
 have h1:=h.1
 rw[List.length_append] at h1
 refine⟨hl,fun hn=> ?_⟩
 obtain⟨b,o,e,hc⟩:=h.2 (by omega)
 refine⟨b,o,e,fun k hk=> ?_⟩
 rw[hc k (by omega)]
 simp[List.getD_eq_getElem?_getD,List.getElem?_append_left (show k<l.length by omega)]
def sV (gen n:Nat) (text:List UInt8):List UInt8:=(wZ Hw htab (dF gen++dF n++text)).take 8
theorem uz (gen n:Nat) (text:List UInt8):(sV gen n text).length=8:=by unfold sV;rw[List.length_take,nT];rfl
set_option maxHeartbeats 2000000 in
theorem EX (gen n:Nat) (A:Option Addr) (m c:Nat) (text:List UInt8) (w:World) (hb:RB w A m text) (hmc:m≤c) (hc:c≤maxLen) (hg:gen<4294967296) (hn:n<4294967296) (hm:m≤1000000000) (ht:dS w):
  Calls Tryz.prog 199 #[.int .i64 (gen:Int),.int .i64 (n:Int),.slice A m c] w fun e w'=>∃q,e=.returned (.slice (some ⟨q,0,none⟩) 8 32)∧RB w' (some ⟨q,0,none⟩) 8 (sV gen n text)∧w.heap.size≤q∧Below w.heap.size w w':=by
 have HB:=Hj hb
 have HL:=Hj hb.1
 have HC:=Hj (And.intro hmc hc)
 have HT:=Hj ht
 have HM:=Hj hm
 have H1:=Hj (fun(W:World)=>iq gen W hg)
 have H2:=Hj (fun(W:World)=>iq n W hn)
 have Hs:Hid ((wZ Hw htab (dF gen++dF n++text)).length=32):=Hj (nT _ _ _)
 have HS:Hid (sV gen n text=(wZ Hw htab (dF gen++dF n++text)).take 8):=Hj rfl
 have HF:Hid (([dF gen,dF n,text]:List (List UInt8)).flatten=dF gen++dF n++text):=Hj (by simp)
 clear hb hmc hc hg hn hm ht
 go_enter Tryz.func199,Tryz.ntmps199
 go_wp2_with (first
  | (go_at_call 198;(with_reducible refine(H1.out w).mono ?_);rintro e w1 ⟨rfl,ho1,hb1⟩;have O1:=Hj ho1;have B1:=Hj hb1;clear ho1 hb1)
  | (go_at_call 198;(with_reducible refine(H2.out w1).mono ?_);rintro e w2 ⟨rfl,ho2,hb2⟩;have O2:=Hj ho2;have Po:=Hj (O1.out.below hb2);have B2:=Hj (B1.out.trans (hb2.mono B1.out.size));clear ho2 hb2))
 have D3:=Hj ((Below.refl w2.heap.size w2).alloc Kv (.cells #[.slice (some ⟨w.heap.size,0,none⟩) 4 4,.slice (some ⟨w1.heap.size,0,none⟩) 4 4,.slice A m c] 35))
 have B3:=Hj (B2.out.trans (D3.out.mono B2.out.size))
 have EU:CJ (w2.alloc (.cells #[.slice (some ⟨w.heap.size,0,none⟩) 4 4,.slice (some ⟨w1.heap.size,0,none⟩) 4 4,.slice A m c] 35)) (some ⟨w2.heap.size,0,none⟩) 3 [dF gen,dF n,text]:=CJ.lits (vs:=[.slice (some ⟨w.heap.size,0,none⟩) 4 4,.slice (some ⟨w1.heap.size,0,none⟩) 4 4,.slice A m c]) (heap_alloc_new w2 _) rfl (fun k hk=>by
  have:k=0∨k=1∨k=2:=by omega
  rcases this with rfl | rfl | rfl
  ·exact ⟨_,rfl,(Po.out.below D3.out).sb⟩
  ·exact ⟨_,rfl,(O2.out.below D3.out).sb⟩
  ·exact ⟨_,rfl,SB.qB (HB.out.keep (Kz B3.out)) HC.out.1 HC.out.2⟩)
 refine(Ui _ 3 3 _ Hw htab _ EU (HT.out.k.keep (Kz B3.out)) (HT.out.f.keep (Kz B3.out)) (Nat.lt_of_lt_of_le HT.out.lt B3.out.size) (by unfold maxLen;omega) (by rw[HF.out];have:=HL.out;have:=HM.out;simp[dF];omega)).mono ?_
 rw[HF.out]
 rintro e w4 ⟨rfl,hb4⟩
 have B4:=Hj (B3.out.trans (hb4.mono B3.out.size))
 clear hb4 EU
 generalize wZ Hw htab (dF gen++dF n++text)=Zx at*
 obtain⟨cur,hcur⟩:∃cur,cur=(au Zx).toArray:=⟨_,rfl⟩
 rw[←hcur]
 have jY:=Hj hcur
 have HC2:Hid (cur.size=32):=Hj (by rw[hcur];simp[au,Hs.out])
 have HB2:Hid (cur.all (·.oneCell')=true):=Hj (by
  rw[hcur,Array.all_eq_true_iff_forall_mem]
  intro y hy
  exact dY _ y (by simpa using hy))
 clear hcur
 go_wp2_with (refine wpList_store_row rfl 297 (.tmp 7) (.tmp 14) rfl w4.heap.size cur rfl rfl 297 _ (heap_alloc_new w4 _) (by rw[HC2.out];exact iL) (by rw[HC2.out];rfl) HB2.out ?_)
 go_ret
 refine⟨w4.heap.size,rfl,?_,B4.out.size,below_setRow (B4.out.alloc B4.out.size _) B4.out.size cur⟩
 have h:RB ((w4.alloc (.cells GU 297)).setRow w4.heap.size cur) (some ⟨w4.heap.size,0,none⟩) 32 Zx:=En (T:=297) (fr:=(0,0)) (by rw[←jY.out];exact setRow_heap _ _ _ _ _ _ (heap_alloc_new w4 _)) Hs.out
 rw[←List.take_append_drop 8 Zx] at h
 rw[HS.out]
 exact h.Xt (by rw[List.length_take,Hs.out];rfl)
set_option maxHeartbeats 1000000 in
theorem QE (m:Nat) (w:World) (hm:m≤140737488355328):Calls Tryz.prog 215 #[.slice none 0 0,.int .i64 (m:Int)] w fun e w'=>∃v,e=.returned v∧OB w' w.heap.size v []∧Below w.heap.size w w':=by
 by_cases h0:m=0
 ·subst h0
  go_enter Tryz.func215,Tryz.ntmps215
  go_wp2
  go_ret
  exact⟨_,rfl,OB.nil _ _,Below.refl _ _⟩
 ·have H1:=Hj (OB.nil w w.heap.size)
  go_enter Tryz.func215,Tryz.ntmps215
  go_wp2_with (first
   | (at_builtin;refine jE (m:=m) rfl (.tmp 20) (.tmp 21) rfl H1.out rfl ?_ ?_ ?_ Kv ?_;rotate_right;intro v1 w1 hown1 jC Xn;have HB1:=Hj (aS (Below.refl _ w) jC H1.out Kv Kv);have Q5:=Hj hown1;obtain⟨A1,c1,e1,_,_,_⟩:=hown1.form;subst e1;clear hown1 jC Xn)
   | fail)
  all_goals skip
  ·go_ret
   refine⟨_,rfl,?_,HB1.out⟩
   have:=Q5.out.II 0 (Nat.zero_le _)
   simpa using this
  ·go_num
  ·omega
  ·simpa using hm
set_option maxHeartbeats 4000000 in
theorem lM (A:Option Addr) (n c:Nat) (ls:List (List UInt8)) (w:World) (hl:CJ w A n ls) (hn:n≤maxLen) (hlen:ls.flatten.length≤1000000000):
  Calls Tryz.prog 169 #[.slice A n c] w fun e w'=>∃v,e=.returned v∧OB w' w.heap.size v ls.flatten∧Below w.heap.size w w':=by
 have Hl:=Hj hl
 have xM:=Hj hl.1
 clear hl
 unfold maxLen at hn
 have Hlen:Hid (∀k,(ls.take k).flatten.length≤1000000000):=fun k=>Cz (qZ ls k) hlen
 have Htot:=Hj hlen
 clear hlen
 go_enter Tryz.func169,Tryz.ntmps169
 go_wp2
 go_loopg [11,3] n (fun k s11 s3 wr=>∃(i:Nat),s11=.int .i64 (i:Int)∧i+k=n∧s3=.int .i64 ((ls.take i).flatten.length:Int)∧wr=w)
 case atStart=>exact⟨0,rfl,by omega,rfl,rfl⟩
 case round=>
  obtain⟨i,rfl,hik,rfl,rfl⟩:=hrel
  by_cases hi:i<n
  ·obtain ⟨b,o,hA,hb⟩:=Hl.out.2 (by omega)
   obtain⟨v,c1,A',c',hv,hc1,hc2,hrb⟩:=hb i hi
   subst hv
   subst hA
   have hft:=oz ls i (by rw[xM.out];exact hi)
   have hf1:=Hlen.out (i+1)
   rw[hft,List.length_append] at hf1
   have HFT:=Hj hft
   clear hb hrb hft
   have i0:(0:Int)≤(i:Int):=by omega
   have i1:(i:Int)<(n:Int):=by omega
   generalize hx:ls.getD i []=x at*
   clear hx
   generalize hy:(ls.take i).flatten=y at*
   go_wp2
   go_roundg (gk-1)
   case measure=>omega
   case rel=>refine⟨i+1,by go_num,by omega,?_,rfl⟩;rw[HFT.out,List.length_append];go_num
  ·obtain rfl:i=n:=by omega
   have hall:(ls.take i).flatten=ls.flatten:=by rw[List.take_of_length_le (by rw[xM.out];exact Nat.le_refl _)]
   rw[hall]
   have HG0:∀W:World,_:=fun(W:World)=>QE ls.flatten.length W (by have:=Htot.out;omega)
   have mW:=Hj hall
   clear hall
   generalize ls.flatten.length=F at HG0 ⊢
   have HG:=Hj HG0
   clear HG0
   go_wp2_with (first
    | (go_at_call 215;((with_reducible refine(HG.out wr).mono ?_);rintro e w1 ⟨v1,rfl,hown1,dL⟩;have Q5:=Hj hown1;have HB1:=Hj dL;clear hown1 dL))
    | fail)
   have HRl:=Hj (Hl.out.keep (Kz HB1.out))
   go_loopg [27,6] i (fun k s27 s6 w2=>∃(j:Nat),s27=.int .i64 (j:Int)∧j+k=i∧OB w2 wr.heap.size s6 (ls.take j).flatten∧Below wr.heap.size wr w2)
   case atStart=>exact⟨0,rfl,by omega,Q5.out,HB1.out⟩
   case round=>
    obtain⟨j,rfl,hjk,hown,hbel⟩:=hrel
    have cZ:=Hj hown
    have bV:=Hj hbel
    clear hown hbel
    by_cases hj:j<i
    ·obtain ⟨b,o,hA,hb⟩:=Hl.out.2 (by omega)
     obtain⟨v,c1,A',c',hv,hc1,hc2,hrb⟩:=hb j hj
     subst hv
     subst hA
     have c2:=(Kz bV.out) _ _ c1
     have Ug:=Hj (hrb.keep (Kz bV.out))
     have hft:=oz ls j (by rw[xM.out];exact hj)
     have hf1:=Hlen.out (j+1)
     rw[hft,List.length_append] at hf1
     have HFT:=Hj hft
     have Tv:=Hj hf1
     clear hb hrb hft c1 hf1
     have j0:(0:Int)≤(j:Int):=by omega
     have j1:(j:Int)<(i:Int):=by omega
     generalize hx:ls.getD j []=x at*
     clear hx
     generalize hy:(ls.take j).flatten=y at*
     go_wp2_with (first
      | (at_builtin;refine aA rfl (.tmp 31) (.tmp 32) 35 rfl cZ.out rfl (RB.src Tryz.underlying35 (l:=x) Ug.out) rfl ?_ ?_ ?_;rotate_right;intro v2 w2 hown2 bZ jc;have Rz:=Hj hown2;have HB2:=Hj (aS bV.out bZ cZ.out Kv bV.out.size);clear hown2 bZ jc)
      | fail)
     case refine_1=>have:=Tv.out;omega
     case refine_2=>exact bV.out.size
     go_roundg (gk-1)
     case measure=>omega
     case rel=>exact⟨j+1,by go_num,by omega,by rw[HFT.out];exact Rz.out,HB2.out⟩
    ·obtain rfl:j=i:=by omega
     rw[mW.out] at cZ
     go_wp2
     go_ret
     exact⟨_,rfl,cZ.out,bV.out⟩
/-- A snapshot's bytes. -/
def dh (gen:Nat) (text:List UInt8):List UInt8:=dF gen++dF text.length++sV gen text.length text++text
theorem LW (gen:Nat) (text:List UInt8):([dF gen,dF text.length,sV gen text.length text,text]:List (List UInt8)).flatten=dh gen text:=by simp[dh]
theorem eG (gen:Nat) (text:List UInt8):(dh gen text).length=16+text.length:=by
 unfold dh;rw[List.length_append,List.length_append,List.length_append,uz];simp[uy]
/-- A record's bytes. -/
def lu (gen n:Nat) (text:List UInt8):List UInt8:=dF gen++dF n++dF text.length++sV gen n text++text
theorem QF (gen n:Nat) (text:List UInt8):([dF gen,dF n,dF text.length,sV gen n text,text]:List (List UInt8)).flatten=lu gen n text:=by simp[lu]
theorem jy (gen n:Nat) (text:List UInt8):(lu gen n text).length=20+text.length:=by
 unfold lu;rw[List.length_append,List.length_append,List.length_append,List.length_append,uz];simp[uy]
set_option maxHeartbeats 2000000 in
theorem H9 (gen n:Nat) (A:Option Addr) (m c:Nat) (text:List UInt8) (w:World) (hb:RB w A m text) (hmc:m≤c) (hc:c≤maxLen) (hg:gen<4294967296) (hn:n<4294967296) (hm:m≤100000000) (ht:dS w):
  Calls Tryz.prog 157 #[.int .i64 (gen:Int),.int .i64 (n:Int),.slice A m c] w fun e w'=>∃v,e=.returned v∧OB w' w.heap.size v (lu gen n text)∧Below w.heap.size w w':=by
 have HB:=Hj hb
 have HL:=Hj hb.1
 have HC:=Hj (And.intro hmc hc)
 have HT:=Hj ht
 have HM:=Hj hm
 have H1:=Hj (fun(W:World)=>iq gen W hg)
 have H2:=Hj (fun(W:World)=>iq n W hn)
 have H3:=Hj (fun(W:World)=>iq m W (by omega))
 have H4:=Hj (fun(W:World) (hb:RB W A m text) (ht:dS W)=>EX gen n A m c text W hb hmc hc hg hn (by omega) ht)
 have HF:=Hj (QF gen n text)
 clear hb hmc hc hg hn ht hm
 go_enter Tryz.func157,Tryz.ntmps157
 go_wp2_with (first
  | (go_at_call 198;(with_reducible refine(H1.out w).mono ?_);rintro e w1 ⟨rfl,ho1,hb1⟩;have O1:=Hj ho1;have B1:=Hj hb1;clear ho1 hb1)
  | (go_at_call 198;(with_reducible refine(H2.out w1).mono ?_);rintro e w2 ⟨rfl,ho2,hb2⟩;have O2:=Hj ho2;have B2:=Hj (B1.out.trans (hb2.mono B1.out.size));have Po:=Hj (O1.out.below hb2);clear ho2 hb2)
  | (go_at_call 198;(with_reducible refine(H3.out w2).mono ?_);rintro e w3 ⟨rfl,ho3,hb3⟩;have O3:=Hj ho3;have B3:=Hj (B2.out.trans (hb3.mono B2.out.size));have O13:=Hj (Po.out.below hb3);have O23:=Hj (O2.out.below hb3);clear ho3 hb3)
  | (go_at_call 199;(with_reducible refine(H4.out w3 (HB.out.keep (Kz B3.out)) (HT.out.keep (Kz B3.out))).mono ?_);rintro e w4 ⟨q4,rfl,hr4,hq4,hb4⟩;have R4:=Hj hr4;have B4:=Hj (B3.out.trans (hb4.mono B3.out.size));have O14:=Hj (O13.out.below hb4);have O24:=Hj (O23.out.below hb4);have Zy:=Hj (O3.out.below hb4);clear hr4 hb4)
  | fail)
 have D5:=Hj ((Below.refl w4.heap.size w4).alloc Kv (.cells #[.slice (some ⟨w.heap.size,0,none⟩) 4 4,.slice (some ⟨w1.heap.size,0,none⟩) 4 4,.slice (some ⟨w2.heap.size,0,none⟩) 4 4,.slice (some ⟨q4,0,none⟩) 8 32,.slice A m c] 35))
 have B5:=Hj (B4.out.trans (D5.out.mono B4.out.size))
 have EU:CJ (w4.alloc (.cells #[.slice (some ⟨w.heap.size,0,none⟩) 4 4,.slice (some ⟨w1.heap.size,0,none⟩) 4 4,.slice (some ⟨w2.heap.size,0,none⟩) 4 4,.slice (some ⟨q4,0,none⟩) 8 32,.slice A m c] 35)) (some ⟨w4.heap.size,0,none⟩) 5 [dF gen,dF n,dF text.length,sV gen n text,text]:=CJ.lits (vs:=[.slice (some ⟨w.heap.size,0,none⟩) 4 4,.slice (some ⟨w1.heap.size,0,none⟩) 4 4,.slice (some ⟨w2.heap.size,0,none⟩) 4 4,.slice (some ⟨q4,0,none⟩) 8 32,.slice A m c]) (heap_alloc_new w4 _) rfl (fun k hk=>by
  have:k=0∨k=1∨k=2∨k=3∨k=4:=by omega
  rcases this with rfl | rfl | rfl | rfl | rfl
  ·exact ⟨_,rfl,(O14.out.below D5.out).sb⟩
  ·exact ⟨_,rfl,(O24.out.below D5.out).sb⟩
  ·exact ⟨_,rfl,by show SB _ _ (dF text.length);rw[HL.out];exact(Zy.out.below D5.out).sb⟩
  ·exact ⟨_,rfl,SB.qB (R4.out.keep (Kz D5.out)) (by decide) (by decide)⟩
  ·exact ⟨_,rfl,SB.qB (HB.out.keep (Kz B5.out)) HC.out.1 HC.out.2⟩)
 have XT:=Hj (lM _ 5 5 _ _ EU (by decide) (by rw[HF.out,jy];have:=HL.out;have:=HM.out;omega))
 rw[HF.out] at XT
 go_wp2_with (first
  | (go_at_call 169;(with_reducible refine(XT.out).mono ?_);rintro e w6 ⟨v6,rfl,yB,hb6⟩;have O6:=Hj yB;have B6:=Hj (B5.out.trans (hb6.mono B5.out.size));clear yB hb6)
  | fail)
 go_ret
 exact⟨_,rfl,O6.out.mono B5.out.size,B6.out⟩
theorem Below.cu {B:Nat} {a w:World} (h:Below B a.drew w):Below B a w:=⟨h.os,h.tape,h.output,h.size,h.block⟩
/-- Concat over the four parts of a snapshot. -/
theorem cat4 (gen m:Nat) (A:Option Addr) (c:Nat) (text:List UInt8) (w:World) (V1 V2:Value) (q4:Nat) (hL:text.length=m) (hmc:m≤c) (hc:c≤maxLen) (hm:m≤100000000) (h1:SB w V1 (dF gen)) (h2:SB w V2 (dF m)) (h3:RB w (some ⟨q4,0,none⟩) 8 (sV gen m text)) (h4:RB w A m text):
  Calls Tryz.prog 169 #[.slice (some ⟨w.heap.size,0,none⟩) 4 4] (w.alloc (.cells #[V1,V2,.slice (some ⟨q4,0,none⟩) 8 32,.slice A m c] 35)) fun e w'=>∃v,e=.returned v∧OB w' w.heap.size v (dh gen text)∧Below w.heap.size w w':=by
 have D5:=((Below.refl w.heap.size w).alloc Kv (.cells #[V1,V2,.slice (some ⟨q4,0,none⟩) 8 32,.slice A m c] 35))
 have k5:=Kz D5
 have EU:CJ (w.alloc (.cells #[V1,V2,.slice (some ⟨q4,0,none⟩) 8 32,.slice A m c] 35)) (some ⟨w.heap.size,0,none⟩) 4 [dF gen,dF text.length,sV gen text.length text,text]:=CJ.lits (vs:=[V1,V2,.slice (some ⟨q4,0,none⟩) 8 32,.slice A m c]) (heap_alloc_new w _) rfl (fun k hk=>by
  have:k=0∨k=1∨k=2∨k=3:=by omega
  rcases this with rfl | rfl | rfl | rfl
  ·exact ⟨_,rfl,h1.keep k5⟩
  ·exact ⟨_,rfl,by show SB _ _ (dF text.length);rw[hL];exact h2.keep k5⟩
  ·exact ⟨_,rfl,by show SB _ _ (sV gen text.length text);rw[hL];exact SB.qB (h3.keep k5) (by decide) (by decide)⟩
  ·exact ⟨_,rfl,SB.qB (h4.keep k5) hmc hc⟩)
 have hf:=LW gen text
 refine(lM _ 4 4 _ _ EU (by decide) (by rw[hf,eG];omega)).mono ?_
 rw[hf]
 rintro e w6 ⟨v6,rfl,yB,hb6⟩
 exact⟨_,rfl,yB.mono D5.size,D5.trans (hb6.mono D5.size)⟩
set_option maxHeartbeats 2000000 in
theorem l9 (gen slot:Nat) (A:Option Addr) (m c:Nat) (text:List UInt8) (w:World) (hb:RB w A m text) (hmc:m≤c) (hc:c≤maxLen) (hg:gen<4294967296) (hm:m≤100000000) (ht:dS w):
  Calls Tryz.prog 136 #[.agg #[.int .i64 (gen:Int),.int .i64 (slot:Int),.slice A m c]] w fun e w'=>∃v,e=.returned v∧OB w' w.heap.size v (dh gen text)∧Below w.heap.size w w':=by
 have HB:=Hj hb
 have HL:=Hj hb.1
 have HC:=Hj (And.intro hmc hc)
 have HT:=Hj ht
 have HM:=Hj hm
 have H1:=Hj (fun(W:World)=>iq gen W hg)
 have H3:=Hj (fun(W:World)=>iq m W (by omega))
 have H4:=Hj (fun(W:World) (hb:RB W A m text) (ht:dS W)=>EX gen m A m c text W hb hmc hc hg (by omega) (by omega) ht)
 have HCC:=Hj (fun(W:World) (V1 V2:Value) (q4:Nat) (h1:SB W V1 (dF gen)) (h2:SB W V2 (dF m)) (h3:RB W (some ⟨q4,0,none⟩) 8 (sV gen m text)) (h4:RB W A m text)=>cat4 gen m A c text W V1 V2 q4 HL.out hmc hc hm h1 h2 h3 h4)
 have E0:=Hj (heap_alloc_new w (.cells #[.int .i64 (gen:Int),.int .i64 (slot:Int),.slice A m c] 171))
 have B0:=Hj ((Below.refl w.heap.size w).alloc Kv (.cells #[.int .i64 (gen:Int),.int .i64 (slot:Int),.slice A m c] 171))
 clear hb hmc hc hg ht hm
 go_enter Tryz.func136,Tryz.ntmps136
 go_wp2_with fail
 obtain⟨wB,hwB⟩:∃W,W=w.alloc (.cells #[.int .i64 (gen:Int),.int .i64 (slot:Int),.slice A m c] 171):=⟨_,rfl⟩
 rw[←hwB] at E0 B0 ⊢
 have K0:Hid (∀W,Below wB.heap.size wB W→W.cell? ⟨w.heap.size,0,none⟩=some (.int .i64 (gen:Int))∧W.cell? ⟨w.heap.size,2,none⟩=some (.slice A m c)):=Hj fun W h=>by
  have k:=Kz h
  exact⟨k _ _ (Kq 0 E0.out),k _ _ (Kq 2 E0.out)⟩
 obtain⟨c0,c2⟩:=K0.out wB (Below.refl _ _)
 clear hwB
 go_region_held3 (fun w'=>w'.cell? ⟨w.heap.size,0,none⟩=some (.int .i64 (gen:Int))∧w'.cell? ⟨w.heap.size,2,none⟩=some (.slice A m c)) (first | exact⟨by assumption,by assumption⟩ | go_keep)
  (first
   | (go_at_call 198;(with_reducible refine(H1.out wB.drew).mono ?_);rintro e w1 ⟨rfl,ho1,hb1⟩;have B1:Hid (Below wB.heap.size wB w1):=Hj (Below.cu hb1);have O1:Hid (OB w1 wB.heap.size (.slice (some ⟨wB.heap.size,0,none⟩) 4 4) (dF gen)):=Hj ho1;obtain⟨x0,x2⟩:=K0.out w1 B1.out;clear ho1 hb1)
   | (go_at_call 198;(with_reducible refine(H3.out w1).mono ?_);rintro e w2 ⟨rfl,ho2,hb2⟩;have O2:=Hj ho2;have B2:=Hj (B1.out.trans (hb2.mono B1.out.size));have Po:=Hj (O1.out.below hb2);obtain⟨y0,y2⟩:=K0.out w2 B2.out;clear ho2 hb2)
   | (go_at_call 199;(with_reducible refine(H4.out w2 (HB.out.keep (Kz (B0.out.trans (B2.out.mono B0.out.size)))) (HT.out.keep (Kz (B0.out.trans (B2.out.mono B0.out.size))))).mono ?_);rintro e w4 ⟨q4,rfl,hr4,hq4,hb4⟩;have R4:=Hj hr4;have B4:=Hj (B2.out.trans (hb4.mono B2.out.size));have O14:=Hj (Po.out.below hb4);have O24:=Hj (O2.out.below hb4);obtain⟨z0,z2⟩:=K0.out w4 B4.out;have XT:=Hj (HCC.out w4 _ _ _ O14.out.sb O24.out.sb R4.out (HB.out.keep (Kz (B0.out.trans (B4.out.mono B0.out.size)))));clear hr4 hb4)
   | (go_at_call 169;(with_reducible refine XT.out.mono ?_);rintro e w6 ⟨v6,rfl,yB,hb6⟩;obtain⟨u0,u2⟩:=K0.out w6 (B4.out.trans (hb6.mono B4.out.size));have B6:=Hj (B0.out.trans ((B4.out.trans (hb6.mono B4.out.size)).mono B0.out.size));have O6:=Hj (yB.mono (B0.out.trans (B4.out.mono B0.out.size)).size);clear yB hb6))
 all_goals
  go_wp2
  go_ret
  exact⟨_,rfl,O6.out,B6.out⟩
theorem jo {B:Nat} {a w:World} (h:Below B a w):Below B a w.drew:=⟨h.os,h.tape,h.output,h.size,h.block⟩
/-- Concat over an element's three parts. -/
theorem cat3 (tag:Nat) (A:Option Addr) (m c q:Nat) (body:List UInt8) (w:World) (V:Value) (hm:m≤65535) (hmc:m≤c) (hc:c≤maxLen) (h1:RB w (some ⟨q,0,none⟩) 1 [UInt8.ofNat tag]) (h2:SB w V (jm m)) (h3:RB w A m body):
  Calls Tryz.prog 169 #[.slice (some ⟨w.heap.size,0,none⟩) 3 3] (w.alloc (.cells #[.slice (some ⟨q,0,none⟩) 1 1,V,.slice A m c] 35)) fun e w'=>∃v,e=.returned v∧OB w' w.heap.size v (aT tag body)∧Below w.heap.size w w':=by
 have D5:=((Below.refl w.heap.size w).alloc Kv (.cells #[.slice (some ⟨q,0,none⟩) 1 1,V,.slice A m c] 35))
 have k5:=Kz D5
 have hL:body.length=m:=h3.1
 have EU:CJ (w.alloc (.cells #[.slice (some ⟨q,0,none⟩) 1 1,V,.slice A m c] 35)) (some ⟨w.heap.size,0,none⟩) 3 [[UInt8.ofNat tag],jm body.length,body]:=CJ.lits (vs:=[.slice (some ⟨q,0,none⟩) 1 1,V,.slice A m c]) (heap_alloc_new w _) rfl (fun k hk=>by
  have:k=0∨k=1∨k=2:=by omega
  rcases this with rfl | rfl | rfl
  ·exact ⟨_,rfl,SB.qB (h1.keep k5) (by decide) (by decide)⟩
  ·exact ⟨_,rfl,by show SB _ _ (jm body.length);rw[hL];exact h2.keep k5⟩
  ·exact ⟨_,rfl,SB.qB (h3.keep k5) hmc hc⟩)
 have hf:([[UInt8.ofNat tag],jm body.length,body]:List (List UInt8)).flatten=aT tag body:=by simp[aT]
 refine(lM _ 3 3 _ _ EU (by decide) (by rw[hf];have:=lK tag body (by omega);omega)).mono ?_
 rw[hf]
 rintro e w6 ⟨v6,rfl,yB,hb6⟩
 exact⟨_,rfl,yB.mono D5.size,D5.trans (hb6.mono D5.size)⟩
set_option maxHeartbeats 4000000 in
set_option maxRecDepth 100000 in
theorem Iw (tag:Nat) (A:Option Addr) (m c:Nat) (body:List UInt8) (w:World) (ht:Tag (tag:Int)) (htl:tag<256) (hb:RB w A m body) (hmc:m≤c) (hc:c≤maxLen) (hm:m≤65530):
  Calls Tryz.prog 107 #[.agg #[.int .i64 (tag:Int),.slice A m c]] w fun e w'=>∃A' c',e=.returned (.tuple #[.slice A' (aT tag body).length c',.nilIface])∧OB w' w.heap.size (.slice A' (aT tag body).length c') (aT tag body)∧Below w.heap.size w w':=by
 obtain⟨wb,hwb⟩:∃W,W=w.alloc (.cells #[.int .i64 (tag:Int),.slice A m c] 179):=⟨_,rfl⟩
 have hbb:=(Below.refl w.heap.size w).alloc Kv (.cells #[.int .i64 (tag:Int),.slice A m c] 179)
 have hrow:=heap_alloc_new w (.cells #[.int .i64 (tag:Int),.slice A m c] 179)
 rw[←hwb] at hbb hrow
 have BB:=Hj hbb
 have HK:Hid (∀W,Below wb.heap.size wb W→W.cell? ⟨w.heap.size,0,none⟩=some (.int .i64 (tag:Int))∧W.cell? ⟨w.heap.size,1,none⟩=some (.slice A m c)):=Hj fun W hW=>⟨Kz hW _ _ (Kq 0 hrow),Kz hW _ _ (Kq 1 hrow)⟩
 have HKn:=Hj (fun W=>LV (tag:Int) W ht)
 have X0:=Hj (fun W=>H7 m W (by omega))
 have HB:=Hj hb
 have HM:=Hj (And.intro hmc (And.intro hc hm))
 have q1:decide ((m:Int)>65530)=false:=decide_eq_false (by omega)
 have q1':decide (65530<(m:Int))=false:=decide_eq_false (by omega)
 have q1n:decide (65530<m)=false:=decide_eq_false (by omega)
 obtain⟨y,hy⟩:∃y,y=UInt8.ofNat tag:=⟨_,rfl⟩
 have hu:=xg tag
 rw[←hy] at hu
 have hu3:IntKind.u8.wrap (tag:Int)=(y.toNat:Int):=by rw[←hu];simp[IntKind.wrap,IntKind.signed,IntKind.bits]
 have hu2:(y.toNat:Nat)=tag:=by rw[hy,UInt8.toNat_ofNat'];omega
 have HY:=Hj hy
 have HU2:=Hj hu2
 clear ht htl hb hmc hc hm hbb hrow hy hu2
 go_enter Tryz.func107,Tryz.ntmps107
 go_wp2_with (first
  | (go_at_call 168;(rw[←hwb];(with_reducible refine(HKn.out wb).mono ?_);rintro e w1 ⟨rfl,hb1⟩;have B1:=Hj hb1;obtain⟨x0,x1⟩:=HK.out w1 hb1;clear hb1))
  | fail)
 have HB1:Hid (RB w1 A m body):=Hj (HB.out.keep (Kz (BB.out.trans (B1.out.mono BB.out.size))))
 have HRY:Hid (∀W:World,RB (W.alloc (.cells #[.int .u8 (y.toNat:Int)] 5)) (some ⟨W.heap.size,0,none⟩) 1 [y]):=Hj fun W=>by
  have h:=OB.lit W 0 (Nat.zero_le _) [y] 1 rfl (by simp[maxLen])
  obtain⟨A,cap,e,_,_,hr⟩:=OB.form h
  injection e with e1 _ _
  subst e1
  exact hr
 have aae:Hid (∀(W:World) (q:Nat) (V:Value),RB W (some ⟨q,0,none⟩) 1 [y]→SB W V (jm m)→RB W A m body→Calls Tryz.prog 169 #[.slice (some ⟨W.heap.size,0,none⟩) 3 3] (W.alloc (.cells #[.slice (some ⟨q,0,none⟩) 1 1,V,.slice A m c] 35)) fun e w'=>∃v,e=.returned v∧OB w' W.heap.size v (aT tag body)∧Below W.heap.size W w'):=Hj fun W q V h1 h2 h3=>cat3 tag A m c q body W V (by have:=HM.out;omega) HM.out.1 HM.out.2.1 (by rw[←HY.out];exact h1) h2 h3
 have BD:Hid (Below w1.heap.size w1 w1.drew):=Hj (jo (Below.refl _ _))
 have BA:Hid (Below w1.heap.size w1 (w1.alloc (.cells #[.int .u8 (y.toNat:Int)] 5)).drew):=Hj (jo ((Below.refl _ _).alloc Kv _))
 have Vz:Hid (∀W,Below w1.heap.size w1 W→W.cell? ⟨w.heap.size,0,none⟩=some (.int .i64 (tag:Int))∧W.cell? ⟨w.heap.size,1,none⟩=some (.slice A m c)):=Hj fun W hW=>HK.out W (B1.out.trans (hW.mono B1.out.size))
 go_region_held3 (fun w'=>w'.cell? ⟨w.heap.size,0,none⟩=some (.int .i64 (tag:Int))∧w'.cell? ⟨w.heap.size,1,none⟩=some (.slice A m c)) (first | exact⟨by assumption,by assumption⟩ | (exact Vz.out _ BA.out) | go_keep)
  (first
   | (go_at_call 170;(with_reducible refine(X0.out w1.drew).mono ?_);rintro e w2 ⟨A2,c2,rfl,ho2,hb2⟩;have B2:=Hj (BD.out.trans (hb2.mono BD.out.size));obtain⟨y0,y1⟩:=Vz.out w2 B2.out;have hca:=aae.out (w2.alloc (.cells #[.int .u8 (y.toNat:Int)] 5)) w2.heap.size _ (HRY.out w2) (OB.alloc ho2 (.cells #[.int .u8 (y.toNat:Int)] 5)).sb ((HB1.out.keep (Kz B2.out)).keep (Kz ((Below.refl _ w2).alloc Kv _)));rw[show (w2.alloc (.cells #[.int .u8 (y.toNat:Int)] 5)).heap.size=w2.heap.size+1 by simp] at hca;have HCa:=Hj hca;clear ho2 hb2 hca)
   | (go_at_call 170;(with_reducible refine(X0.out (w1.alloc (.cells #[.int .u8 (y.toNat:Int)] 5)).drew).mono ?_);rintro e w2 ⟨A2,c2,rfl,ho2,hb2⟩;have B2:=Hj (BA.out.trans (hb2.mono BA.out.size));obtain⟨y0,y1⟩:=Vz.out w2 B2.out;have hca:=aae.out w2 w1.heap.size _ (((HRY.out w1).keep (Keeps.drew _)).keep (Kz hb2)) ho2.sb (HB1.out.keep (Kz B2.out));have HCa:=Hj hca;clear ho2 hb2 hca)
   | (go_at_call 169;((with_reducible refine HCa.out.mono ?_);rintro e w3 ⟨v3,rfl,ho3,hb3⟩;obtain⟨A3,c3,e3,-,-,-⟩:=ho3.form;subst e3;have O3:=Hj ho3;have B3:Hid (Below w1.heap.size w1 w3):=Hj (by first | exact B2.out.trans (hb3.mono B2.out.size) | exact(B2.out.alloc B2.out.size _).trans (hb3.mono (Cz B2.out.size (by simp))));obtain⟨z0,z1⟩:=Vz.out w3 B3.out;clear ho3 hb3))
   | fail)
 all_goals
  go_wp2
  go_ret2
  refine⟨A3,c3,rfl,OB.mono O3.out ?_,BB.out.trans ((B1.out.trans (B3.out.mono B1.out.size)).mono BB.out.size)⟩
  have h1:=BB.out.size
  have h2:=B1.out.size
  have h3:=B2.out.size
  simp
  omega
def upd {α:Type} (s:Nat→α) (i:Nat) (x:α):Nat→α:=fun j=>if j=i then x else s j
theorem nK {α:Type} (s:Nat→α) (i:Nat) (x:α):upd s i x i=x:=if_pos rfl
theorem upd_ne {α:Type} (s:Nat→α) {i j:Nat} (x:α) (h:j≠i):upd s i x j=s j:=if_neg h
/-- Where records end. -/
def endOf (ts:List (List UInt8)):Nat:=(ts.map fun t=>20+t.length).sum
theorem xC (ts:List (List UInt8)) (t:List UInt8):endOf (ts++[t])=endOf ts+(20+t.length):=by simp[endOf]
theorem QI (ts:List (List UInt8)):20*ts.length≤endOf ts:=by
 induction ts with
 | nil=>simp[endOf]
 | cons a l ih=>simp[endOf] at*;omega
def BM (ts:List (List UInt8)):Prop:=∀t∈ts,t.length≤16384
theorem BM.snoc {ts:List (List UInt8)} {t:List UInt8} (h:BM ts) (ht:t.length≤16384):BM (ts++[t]):=fun x hx=>by
 rcases List.mem_append.1 hx with hx | hx
 ·exact h x hx
 ·rw [List.mem_singleton.1 hx];exact ht
def CV (m:DM) (area at_:Int) (bs:List UInt8):Nat:=if m.dA area at_ bs.length=0 then (if (m.write area at_ bs).dead=true then 25 else 0) else m.dA area at_ bs.length
def rQ (m:DM) (area at_:Int) (bs:List UInt8):DM:=if m.dA area at_ bs.length=0 then (m.write area at_ bs).sync else m.write area at_ bs
def MQ (m:DM) (area:Int):Nat:=if m.jZ area 0=0 then (if (m.cut area 0).dead=true then 25 else 0) else m.jZ area 0
def oL (m:DM) (area:Int):DM:=if m.jZ area 0=0 then (m.cut area 0).sync else m.cut area 0
def Ur (m:DM) (slot:Int) (bs:List UInt8):Nat:=
 if MQ m slot=0 then (if CV (oL m slot) slot 0 bs=0 then MQ (rQ (oL m slot) slot 0 bs) 2 else CV (oL m slot) slot 0 bs) else MQ m slot
def Jz (m:DM) (slot:Int) (bs:List UInt8):DM:=
 if MQ m slot=0 then (if CV (oL m slot) slot 0 bs=0 then oL (rQ (oL m slot) slot 0 bs) 2 else rQ (oL m slot) slot 0 bs) else oL m slot
theorem DM.Ok.rQ {m:DM} (h:m.Ok) (area at_:Int) (bs:List UInt8):(rQ m area at_ bs).Ok:=by
 unfold Go.Proofs.YtdhbpajamlfacaaGreatDoor.rQ
 split
 ·exact (h.write _ _ _).sync
 ·exact h.write _ _ _
theorem DM.Ok.oL {m:DM} (h:m.Ok) (area:Int):(oL m area).Ok:=by
 unfold Go.Proofs.YtdhbpajamlfacaaGreatDoor.oL
 split
 ·exact (h.cut _ _).sync
 ·exact h.cut _ _
theorem DM.Ok.Jz {m:DM} (h:m.Ok) (slot:Int) (bs:List UInt8):(Jz m slot bs).Ok:=by
 unfold Go.Proofs.YtdhbpajamlfacaaGreatDoor.Jz
 split
 ·split
  ·exact ((h.oL _).rQ _ _ _).oL _
  ·exact (h.oL _).rQ _ _ _
 ·exact h.oL _
structure DM.Is (m:DM) (A:Nat→List UInt8):Prop where
 ok:m.Ok
 gone:m.gone=false
 waits:m.waits=[]
 sure:∀i,i<3→m.b i=A i
 seen:∀i,i<3→m.b (3+i)=A i
def After (A:Nat→List UInt8) (c:fC):Nat→List UInt8:=updB A c.area (NK (A c.area) c)
theorem DM.mg (m:DM):m.unit.armed=m.armed:=by
 unfold DM.unit
 split
 ·rfl
 ·split<;>rfl
theorem DM.Ib (m:DM):m.sync.armed=m.armed:=by
 unfold DM.sync
 split
 ·exact m.mg
 ·exact m.mg
theorem DM.L6 (m:DM):m.sync.room=m.room:=by
 unfold DM.sync
 split
 ·exact m.sF
 ·exact m.sF
theorem DM.sW {m:DM} (h:m.dead=false):m.unit.gone=false:=by
 have hg:m.gone=false:=by unfold DM.dead at h;cases hh:m.gone<;>simp[hh] at h ⊢
 unfold DM.unit
 rw[h]
 split
 ·simp_all
 ·split<;>exact hg
theorem DM.Is.unit {m:DM} {A:Nat→List UInt8} (h:m.Is A) (hd:m.dead=false):m.unit.Is A:=
 ⟨h.ok.unit,DM.sW hd,by rw[m.iW];exact h.waits,by rw[m.wC];exact h.sure,by rw[m.wC];exact h.seen⟩
/-- One change, and a sync behind it. -/
theorem DM.Is.step {m:DM} {A:Nat→List UInt8} (h:m.Is A) (c:fC) (ha:c.area<3) (hc:c.pos+c.bytes.length≤1048576) (hd:(m.wait c).dead=false):(m.wait c).sync.Is (After A c):=by
 have hok:=h.ok.NW ha hc
 have hn:∀i,i<3→(m.wait c).b (3+i)=After A c i:=fun i hi=>by
  show updB m.b (3+c.area) _ (3+i)=_
  unfold After
  by_cases e:i=c.area
  ·subst e;rw[dV,dV,h.seen _ hi]
  ·rw [dN _ _ _ _ (by omega),dN _ _ _ _ e,h.seen i hi]
 generalize m.wait c=m1 at*
 refine⟨hok.sync,?_,?_,fun i hi=> ?_,fun i hi=> ?_⟩
 ·unfold DM.sync;rw[hd];exact DM.sW hd
 ·unfold DM.sync;rw[hd];rfl
 ·unfold DM.sync;rw[hd]
  show (if i<3 then m1.unit.b (3+i) else _)=_
  rw[if_pos hi,m1.wC];exact hn i hi
 ·unfold DM.sync;rw[hd]
  show (if 3+i<3 then _ else m1.unit.b (3+i))=_
  rw[if_neg (by omega),m1.wC];exact hn i hi
theorem DM.xE (m:DM) (c:fC):(m.wait c).armed=m.armed:=rfl
theorem DM.mD {m:DM} (h:m.armed=false) (hg:m.gone=false):m.dead=false:=by unfold DM.dead;rw[h,hg];rfl
/-- .. from a disk whose power stays. -/
theorem DM.Is.done {m:DM} {A:Nat→List UInt8} (h:m.Is A) (hr:m.armed=false) (c:fC) (ha:c.area<3) (hc:c.pos+c.bytes.length≤1048576):
  (m.unit.wait c).dead=false∧(m.unit.wait c).sync.Is (After A c)∧(m.unit.wait c).sync.armed=false∧(m.unit.wait c).sync.room=m.room:=by
 have hd:=DM.mD hr h.gone
 have h1:(m.unit.wait c).dead=false:=DM.mD (by rw[DM.xE,DM.mg];exact hr) (DM.sW hd)
 exact⟨h1,(h.unit hd).step c ha hc h1,by rw[DM.Ib,DM.xE,DM.mg];exact hr,by rw[DM.L6];exact m.sF⟩
theorem DM.Is.wr {m:DM} {A:Nat→List UInt8} (h:m.Is A) (hr:m.armed=false) (a:Nat) (ha:a<3) (p:Nat) (hp:(A a).length=p) (bs:List UInt8) (hf:(bs.length:Int)≤m.free):
  CV m a p bs=0∧(rQ m a p bs).Is (After A ⟨a,p,bs,false⟩)∧(rQ m a p bs).armed=false∧(rQ m a p bs).room=m.room:=by
 have hl:(m.b (3+a)).length=p:=by rw[h.seen a ha,hp]
 have eE:m.dA a p bs.length=0:=by
  unfold DM.dA
  rw[if_neg (by rw[Int.toNat_natCast,hl];omega),if_neg (by rw[Int.toNat_natCast,hl];omega),DM.mD hr h.gone]
  rfl
 have hb:p+bs.length≤1048576:=by
  have h1:=h.ok.mO
  unfold DM.free at hf
  have:a=0∨a=1∨a=2:=by omega
  rcases this with rfl | rfl | rfl
  ·change (m.b 3).length=p at hl;omega
  ·change (m.b 4).length=p at hl;omega
  ·change (m.b 5).length=p at hl;omega
 have eM:m.write a p bs=m.unit.wait ⟨a,p,bs,false⟩:=by
  unfold DM.write
  rw[eE,if_pos rfl,Int.toNat_natCast,Int.toNat_natCast]
 obtain⟨h1,h2⟩:=h.done hr ⟨a,p,bs,false⟩ ha hb
 unfold CV rQ
 rw[eE,eM,if_pos rfl,if_pos rfl,h1]
 exact⟨rfl,h2⟩
theorem DM.Is.cl {m:DM} {A:Nat→List UInt8} (h:m.Is A) (hr:m.armed=false) (a:Nat) (ha3:a<3):
  MQ m a=0∧(oL m a).Is (After A ⟨a,0,[],true⟩)∧(oL m a).armed=false∧(oL m a).room=m.room:=by
 have eE:m.jZ a 0=0:=by
  unfold DM.jZ
  rw[if_neg (by omega),DM.mD hr h.gone]
  rfl
 have eM:m.cut a 0=m.unit.wait ⟨a,0,[],true⟩:=by
  unfold DM.cut
  rw[eE,if_pos rfl,Int.toNat_natCast]
  rfl
 obtain⟨h1,h2⟩:=h.done hr ⟨a,0,[],true⟩ ha3 (by show 0+0≤_;omega)
 unfold MQ oL
 rw[eE,eM,if_pos rfl,if_pos rfl,h1]
 exact⟨rfl,h2⟩
theorem zL (A:Nat→List UInt8) (a:Nat):After A ⟨a,0,[],true⟩=updB A a []:=by
 unfold After NK
 rw[if_pos rfl]
 simp
theorem zM (A:Nat→List UInt8) (a p:Nat) (bs:List UInt8) (hp:(A a).length=p):After A ⟨a,p,bs,false⟩=updB A a (A a++bs):=by
 unfold After NK oN
 rw[if_neg (by show ¬(false=true);decide)]
 subst hp
 simp
structure LM where
 gen:Nat
 slot:Nat
 text:List UInt8
 recs:List (List UInt8)
 dead:Bool
structure LM.Ok (L:LM):Prop where
 gen:L.gen≤2147483647
 slot:L.slot=0∨L.slot=1
 text:L.text.length≤1048576
 recs:endOf L.recs≤1048576
/-- A log on areas, by lengths. -/
structure LM.On (L:LM) (A:Nat→List UInt8):Prop where
 gen:L.gen≤2147483647
 slot:L.slot=0∨L.slot=1
 text:L.text.length≤1048576
 recs:(A 2).length=endOf L.recs
 short:BM L.recs
/-- Append: the error's number, the disk, the log behind it. -/
def LM.room (L:LM) (m:DM) (t:List UInt8):Nat:=if L.dead=true then 25 else if 16384<t.length then 3 else if m.free<20+(t.length:Int) then 26 else 0
def LM.dQ (L:LM) (m:DM) (t:List UInt8):Nat:=if L.room m t=0 then (if CV m 2 (endOf L.recs:Int) (lu L.gen L.recs.length t)=0 then 0 else 25) else L.room m t
def LM.iE (L:LM) (m:DM) (t:List UInt8):DM:=if L.room m t=0 then rQ m 2 (endOf L.recs:Int) (lu L.gen L.recs.length t) else m
def LM.app (L:LM) (m:DM) (t:List UInt8):LM:=if L.room m t=0 then (if CV m 2 (endOf L.recs:Int) (lu L.gen L.recs.length t)=0 then {L with recs:=L.recs++[t]} else {L with dead:=true}) else L
/-- Compact. -/
def LM.space (L:LM) (m:DM) (t:List UInt8):Nat:=if L.dead=true then 25 else if 2147483647≤L.gen∨m.free<16+(t.length:Int)-((m.b (3+(1-L.slot))).length:Int) then 26 else 0
def LM.mM (L:LM) (m:DM) (t:List UInt8):Nat:=if L.space m t=0 then (if Ur m ((1-L.slot:Nat):Int) (dh (L.gen+1) t)=0 then 0 else 25) else L.space m t
def LM.lD (L:LM) (m:DM) (t:List UInt8):DM:=if L.space m t=0 then Jz m ((1-L.slot:Nat):Int) (dh (L.gen+1) t) else m
def LM.cp (L:LM) (m:DM) (t:List UInt8):LM:=if L.space m t=0 then (if Ur m ((1-L.slot:Nat):Int) (dh (L.gen+1) t)=0 then ⟨L.gen+1,1-L.slot,t,[],L.dead⟩ else {L with dead:=true}) else L
/-- The log behind an Append and a Compact that were answered nil. -/
def LM.with (L:LM) (t:List UInt8):LM:={L with recs:=L.recs++[t]}
def LM.new (L:LM) (t:List UInt8):LM:=⟨L.gen+1,1-L.slot,t,[],L.dead⟩
theorem sQ {L:LM} {m:DM} {t:List UInt8} (h:L.room m t=0):L.dead=false∧t.length≤16384∧20+(t.length:Int)≤m.free:=by
 unfold LM.room at h
 split at h
 ·cases h
 split at h
 ·cases h
 split at h
 ·cases h
 rename_i h1 h2 h3
 exact⟨Bool.eq_false_iff.2 h1,by omega,by omega⟩
theorem wL {L:LM} {m:DM} {t:List UInt8} (hd:L.dead=false) (ht:t.length≤16384):L.room m t=0∨L.room m t=26:=by
 unfold LM.room
 rw[if_neg (by rw[hd];decide),if_neg (by omega)]
 split<;>simp
theorem oZ {L:LM} {m:DM} {t:List UInt8} (h:L.space m t=0):L.dead=false∧L.gen<2147483647∧16+(t.length:Int)-((m.b (3+(1-L.slot))).length:Int)≤m.free:=by
 unfold LM.space at h
 split at h
 ·cases h
 split at h
 ·cases h
 rename_i h1 h2
 exact⟨Bool.eq_false_iff.2 h1,by omega,by omega⟩
theorem nM {L:LM} {m:DM} {t:List UInt8} (hd:L.dead=false):L.space m t=0∨L.space m t=26:=by
 unfold LM.space
 rw[if_neg (by rw[hd];decide)]
 split<;>simp
theorem On.append {L:LM} {A:Nat→List UInt8} (h:L.On A) (t:List UInt8) (ht:t.length≤16384):(L.with t).On (updB A 2 (A 2++lu L.gen L.recs.length t)):=
 ⟨h.gen,h.slot,h.text,by rw[dV,List.length_append,jy,h.recs];exact(xC _ _).symm,h.short.snoc ht⟩
/-- An Append on a disk on which nothing waits. -/
theorem ug {L:LM} {m:DM} {A:Nat→List UInt8} (h:m.Is A) (ha:m.armed=false) (hL:L.On A) (t:List UInt8) (hr:L.room m t=0):
  L.dQ m t=0∧∃B,(L.iE m t).Is B∧(L.app m t)=L.with t∧(L.with t).On B∧(L.iE m t).armed=false∧(L.iE m t).room=m.room∧B=updB A 2 (A 2++lu L.gen L.recs.length t):=by
 obtain⟨hd,ht,hf⟩:=sQ hr
 have hp:=hL.recs
 obtain⟨h0,hI,ha',hr'⟩:=h.wr ha 2 (by decide) (endOf L.recs) hp (lu L.gen L.recs.length t) (by rw[jy];omega)
 rw[show ((2:Nat):Int)=2 from rfl] at h0 hI ha' hr'
 unfold LM.dQ LM.iE LM.app
 rw[if_pos hr,if_pos hr,if_pos hr,if_pos h0,if_pos h0]
 rw[zM _ _ _ _ hp] at hI
 exact⟨rfl,_,hI,rfl,On.append hL t ht,ha',hr',rfl⟩
theorem Jo {m:DM} {A:Nat→List UInt8} (h:m.Is A):m.free=m.room-((A 0).length:Int)-((A 1).length:Int)-((A 2).length:Int):=by
 unfold DM.free
 rw[←h.seen 0 (by decide),←h.seen 1 (by decide),←h.seen 2 (by decide)]
/-- A Compact on a disk on which nothing waits. -/
theorem qP {L:LM} {m:DM} {A:Nat→List UInt8} (h:m.Is A) (ha:m.armed=false) (hL:L.On A) (t:List UInt8) (hr:L.space m t=0):
  L.mM m t=0∧∃B,(L.lD m t).Is B∧(L.cp m t)=L.new t∧(L.new t).On B∧(L.lD m t).armed=false∧(L.lD m t).room=m.room∧B=updB (updB A (1-L.slot) (dh (L.gen+1) t)) 2 []:=by
 obtain⟨hd,hg,hf⟩:=oZ hr
 obtain⟨S,hSe⟩:∃S,S=1-L.slot:=⟨_,rfl⟩
 have hs:=hL.slot
 have hS':S<2:=by omega
 rw[h.seen (1-L.slot) (by omega),Jo h,←hSe] at hf
 have hroom:=h.ok.mO
 have hS2:S=0∨S=1:=by omega
 have htl:t.length≤1048576:=by rcases hS2 with e | e<;>rw[e] at hf<;>omega
 unfold LM.mM LM.lD LM.cp Ur Jz
 rw[if_pos hr,if_pos hr,if_pos hr,←hSe]
 obtain⟨h0,hI,ha1,hr1⟩:=h.cl ha S (by omega)
 rw[zL] at hI
 have hfree:((dh (L.gen+1) t).length:Int)≤(oL m S).free:=by
  rw[Jo hI,hr1,eG]
  rcases hS2 with e | e
  ·subst e
   rw[dV,dN _ _ _ _ (by decide),dN _ _ _ _ (by decide)]
   simp only[List.length_nil]
   omega
  ·subst e
   rw[dV,dN _ _ _ _ (by decide),dN _ _ _ _ (by decide)]
   simp only[List.length_nil]
   omega
 have e1:(updB A S [] S).length=0:=by rw[dV];rfl
 have e12:updB (updB A S []) S (updB A S [] S++dh (L.gen+1) t)=updB A S (dh (L.gen+1) t):=by
  funext i
  by_cases e:i=S
  ·subst e;rw[dV,dV,dV];rfl
  ·rw [dN _ _ _ _ e,dN _ _ _ _ e,dN _ _ _ _ e]
 obtain⟨hw0,hJ,ha2,hr2⟩:=hI.wr ha1 S (by omega) 0 e1 (dh (L.gen+1) t) hfree
 rw[zM _ _ _ _ e1,e12] at hJ
 obtain⟨hc0,hK,ha3,hr3⟩:=hJ.cl ha2 2 (by decide)
 rw[zL] at hK
 rw[show ((0:Nat):Int)=0 from rfl] at*
 rw[show ((2:Nat):Int)=2 from rfl] at hc0 hK ha3 hr3
 rw[h0,if_pos rfl,if_pos rfl,hw0,if_pos rfl,if_pos rfl,hc0,if_pos rfl]
 exact⟨rfl,_,hK,by rw[if_pos rfl,hSe];rfl,⟨by show L.gen+1≤_;omega,by show 1-L.slot=0∨1-L.slot=1;omega,htl,by rw[dV];rfl,fun x hx=>by cases hx⟩,ha3,hr3.trans (hr2.trans hr1),by rw[hSe]⟩
theorem DM.Is.logOk {m:DM} {A:Nat→List UInt8} {L:LM} (h:m.Is A) (hR:L.On A):L.Ok:=
 ⟨hR.gen,hR.slot,hR.text,by rw[←hR.recs,←h.sure 2 (by decide)];exact h.ok.len _ (by decide)⟩
end Go.Proofs.YtdhbpajamlfacaaGreatDoor
