/- Slices of bytes by their lengths; appends. -/
import Derived.Test.YtdhbpajamlfacaaGreatDoorLe
import Derived.Lib.SlBytesConst
import Derived.Test.YtdhbpajamlfacaaGreatDoorStP
set_option maxHeartbeats 4000000
set_option maxRecDepth 100000
namespace Go.Proofs.YtdhbpajamlfacaaGreatDoor
open Go.RowKit
/-- v owns some n bytes. -/
def LB (w:World) (B:Nat) (v:Value) (n:Nat):Prop:=∃l:List UInt8,l.length=n∧OB w B v l
theorem RB.take {w:World} {A:Option Addr} {n:Nat} {l:List UInt8} (h:RB w A n l) (k:Nat) (hk:k≤n):RB w A k (l.take k):=by
 refine⟨by rw[eu,h.1];omega,fun h0=> ?_⟩
 obtain⟨b,o,e,hc⟩:=h.2 (by omega)
 refine⟨b,o,e,fun i hi=> ?_⟩
 rw[hc i (by omega)]
 simp[hi]
/-- v reads as some n bytes. -/
def LR (w:World) (v:Value) (n:Nat):Prop:=∃A c l,v=.slice A n c∧RB w A n l
theorem LR.of {w:World} {A:Option Addr} {n c:Nat} {l:List UInt8} (h:RB w A n l):LR w (.slice A n c) n:=⟨A,c,l,rfl,h⟩
theorem LR.below {w w':World} {v:Value} {n:Nat} (h:LR w v n) (hb:Bw w w'):LR w' v n:=let ⟨A,c,l,e,h⟩:=h;⟨A,c,l,e,h.keep (Kz hb)⟩
section
variable {w w':World} {B n:Nat} {v:Value}
theorem LB.form (h:LB w B v n):∃A c l,v=.slice A n c∧n≤c∧c≤maxLen∧RB w A n l:=by
 obtain⟨l,rfl,h⟩:=h
 obtain⟨A,c,e,h1,h2,h3⟩:=h.form
 exact⟨A,c,l,e,h1,h2,h3⟩
theorem LB.lr (h:LB w B v n):LR w v n:=let ⟨A,c,l,e,_,_,h⟩:=h.form;⟨A,c,l,e,h⟩
theorem LB.below (h:LB w B v n) (hb:Bw w w'):LB w' B v n:=let ⟨l,e,h⟩:=h;⟨l,e,h.below hb⟩
theorem LB.mono (h:LB w B v n) {C:Nat} (hc:C≤B):LB w C v n:=let ⟨l,e,h⟩:=h;⟨l,e,h.mono hc⟩
theorem LB.ls (h:LB w B v n):LS w (fun q=>B≤q∧q<w.heap.size) v n:=let ⟨_,e,h⟩:=h;LS.of h e
theorem LB.empty (w:World) (hb:B≤w.heap.size):LB (w.alloc (.cells #[] 5)) B (.slice (some ⟨w.heap.size,0,none⟩) 0 0) 0:=⟨[],rfl,ku (aA w _) hb⟩
end
/-- An append of some bytes, by its length. -/
theorem FV {o:Oper} {a:Act} {w0 w:World} {K:Act→World→Prop} {Q:Exit→Act→World→Prop} (s x:Operand)
  (ho:o.op=.call {callee:=.builtin .append,args:=#[s,x],argTypes:=#[35,35]})
  {B n m:Nat} (k:Nat) {v xv:Value} (hb:Below B w0 w) (hB:B≤w.heap.size) (hown:LB w B v n) (hs:a.eval s=v) (hsrc:LR w xv m) (hx:a.eval x=xv) (hk:n+m=k) (hn:k≤1000000000)
  (h:∀A c w',LB w' B (.slice A k c) k→Below B w0 w'→K (a.put o.dst (.slice A k c)) w'):o.wp Tryz.prog a w K Q:=by
 obtain⟨i0,hi,hz0,hz1,hz2⟩:=info_parts xK
 obtain⟨l,hl,hown⟩:=hown
 obtain⟨A,c,r,rfl,hr⟩:=hsrc
 have hlen:(l++r).length=k:=by rw[bP,hl,hr.1,hk]
 refine fE s x 35 35 ho i0 _ 1 Tryz.underlying35 hi hz0 hz1 hz2 rfl (by omega) hs hown _ m (ay r) hx (RB.src Tryz.underlying35 hr) (by unfold maxLen;omega) (by omega) hB fun v' w' h1 h2 _=> ?_
 obtain⟨A',c',rfl,_⟩:=h1.form
 rw[hl,hk,←iQ] at h1
 rw[hl,hk]
 exact h A' c' w' ⟨l++r,hlen,by unfold OB;rw[hlen];exact h1⟩ (bD hb h2 hown Kv hB)
theorem lG {ops:Array Oper} {rest:List Oper} {o:Oper} {a:Act} {w0 w:World} {Q:Exit→Act→World→Prop} (hgd:o.guard=none) (s x:Operand)
  (ho:o.op=.call {callee:=.builtin .append,args:=#[s,x],argTypes:=#[35,35]})
  {B n m:Nat} (k:Nat) {v xv:Value} (hb:Below B w0 w) (hB:B≤w.heap.size) (hown:LB w B v n) (hs:a.eval s=v) (hsrc:LR w xv m) (hx:a.eval x=xv) (hk:n+m=k) (hn:k≤1000000000)
  (h:∀A c w',LB w' B (.slice A k c) k→Below B w0 w'→wpList Tryz.prog ops Q rest (a.put o.dst (.slice A k c)) w'):wpList Tryz.prog ops Q (o::rest) a w:=
 wpList_plain hgd fun _ hK=>FV s x ho k hb hB hown hs hsrc hx hk hn fun A c w' h1 h2=>hK _ _ (h A c w' h1 h2)
theorem Nv {ops:Array Oper} {o:Oper} {a:Act} {w0 w:World} {K:Act→World→Prop} {Q:Exit→Act→World→Prop} {E:Prop} (hgd:o.guard=none) (s x:Operand)
  (ho:o.op=.call {callee:=.builtin .append,args:=#[s,x],argTypes:=#[35,35]})
  {B n m:Nat} (k:Nat) {v xv:Value} (hb:Below B w0 w) (hB:B≤w.heap.size) (hown:LB w B v n) (hs:a.eval s=v) (hsrc:LR w xv m) (hx:a.eval x=xv) (hk:n+m=k) (hn:k≤1000000000)
  (h:∀A c w',LB w' B (.slice A k c) k→Below B w0 w'→K (a.put o.dst (.slice A k c)) w'):if Region.wanted o (yielded ops a.tmps)=true then Oper.wp Tryz.prog o a w K Q else E:=by
 have hw:Region.wanted o (yielded ops a.tmps)=true:=by simp[Region.wanted,hgd]
 rw[aF hw]
 exact FV s x ho k hb hB hown hs hsrc hx hk hn h
theorem LB.lits (w:World) (B:Nat) (hb:B≤w.heap.size) (zs:List Int) (hz:∀z∈zs,0≤z∧z<256) (n:Nat) (hn:n=zs.length) (hm:n≤maxLen):LB (w.alloc (.cells (zs.map (Value.int .u8)).toArray 5)) B (.slice (some ⟨w.heap.size,0,none⟩) n n) n:=by
 have h:=OB.lit w B hb (zs.map fun z=>UInt8.ofNat z.toNat) n (by simp[hn]) (by simp;omega)
 have e:ay (zs.map fun z=>UInt8.ofNat z.toNat)=zs.map (Value.int .u8):=by
  unfold ay
  rw[iH]
  refine List.map_congr_left fun z hz'=> ?_
  have:=hz z hz'
  simp only[Function.comp]
  rw[UInt8.toNat_ofNat']
  congr 1
  omega
 rw[e] at h
 exact⟨_,by simp[hn],h⟩
theorem uq {o:Oper} {a:Act} {w:World} {K:Act→World→Prop} {Q:Exit→Act→World→Prop} (s x:Operand)
  (ho:o.op=.call {callee:=.builtin .append,args:=#[s,x],argTypes:=#[130,130]})
  {base:Nat} {v:Value} {n:Nat} {ws:List Value} (hown:ah w base 35 1 v n ws) (hs:a.eval s=v)
  {xv:Value} {m:Nat} {news:List Value} (hsrc:Src Tryz.prog 1 130 xv m news w) (hx:a.eval x=xv) (hbytes:n+m≤1000001) (hbase:base≤w.heap.size)
  (h:∀v' w',ah w' base 35 1 v' (n+m) (ws++news)→w.grownBy w' v.ownBlock→K (a.put o.dst v') w'):o.wp Tryz.prog a w K Q:=by
 obtain⟨i0,hi,hz0,hz1,hz2⟩:=dO yD
 exact fE s x 130 130 ho i0 _ 24 Tryz.underlying130 hi hz0 hz1 hz2 rfl (by omega) hs hown xv m news hx hsrc (by unfold maxLen;omega) (by omega) hbase fun v' w' h1 h2 _=>h v' w' h1 h2
theorem nT {ops:Array Oper} {rest:List Oper} {o:Oper} {a:Act} {w:World} {Q:Exit→Act→World→Prop} (hgd:o.guard=none) (s x:Operand)
  (ho:o.op=.call {callee:=.builtin .append,args:=#[s,x],argTypes:=#[130,130]})
  {base:Nat} {v:Value} {n:Nat} {ws:List Value} (hown:ah w base 35 1 v n ws) (hs:a.eval s=v)
  {xv:Value} {m:Nat} {news:List Value} (hsrc:Src Tryz.prog 1 130 xv m news w) (hx:a.eval x=xv) (hbytes:n+m≤1000001) (hbase:base≤w.heap.size)
  (h:∀v' w',ah w' base 35 1 v' (n+m) (ws++news)→w.grownBy w' v.ownBlock→wpList Tryz.prog ops Q rest (a.put o.dst v') w'):wpList Tryz.prog ops Q (o::rest) a w:=
 wpList_plain hgd fun _ hK=>uq s x ho hown hs hsrc hx hbytes hbase fun v' w' h1 h2=>hK _ _ (h v' w' h1 h2)
theorem iw {ops:Array Oper} {o:Oper} {a:Act} {w:World} {K:Act→World→Prop} {Q:Exit→Act→World→Prop} {E:Prop} (hgd:o.guard=none) (s x:Operand)
  (ho:o.op=.call {callee:=.builtin .append,args:=#[s,x],argTypes:=#[130,130]})
  {base:Nat} {v:Value} {n:Nat} {ws:List Value} (hown:ah w base 35 1 v n ws) (hs:a.eval s=v)
  {xv:Value} {m:Nat} {news:List Value} (hsrc:Src Tryz.prog 1 130 xv m news w) (hx:a.eval x=xv) (hbytes:n+m≤1000001) (hbase:base≤w.heap.size)
  (h:∀v' w',ah w' base 35 1 v' (n+m) (ws++news)→w.grownBy w' v.ownBlock→K (a.put o.dst v') w'):if Region.wanted o (yielded ops a.tmps)=true then Oper.wp Tryz.prog o a w K Q else E:=by
 have hw:Region.wanted o (yielded ops a.tmps)=true:=by simp[Region.wanted,hgd]
 rw[aF hw]
 exact uq s x ho hown hs hsrc hx hbytes hbase h
/-- A slice of slices as an append's source. -/
theorem yS {w:World} {b:Nat} {A:Option Addr} {n c:Nat} {ws:List Value} (h:ah w b 35 1 (.slice A n c) n ws) (hb:∀x∈ws,∃A' n' c',x=.slice A' n' c'):Src Tryz.prog 1 130 (.slice A n c) n ws w:=by
 have hn:ws.length=n:=by have:=h.1;omega
 have h1:∀u∈ws,u.oneCell'=true:=fun u hu=>by
  obtain⟨A',n',c',e⟩:=hb u hu
  rw[e];rfl
 rcases pF n with h0 | h0
 ·have hw:ws=[]:=mP (by omega)
  subst hw
  rw[h0]
  cases A with
  | none=>exact Src.ofNil w Tryz.underlying130 c
  | some a=>exact Src.ofSlice w Tryz.underlying130 a 0 c [] (by simp) (by simp) (by simp)
 ·obtain ⟨g,o,cap,e,_,_,hc⟩:=h.cells (by omega)
  injection e with e1 _ e3
  subst e1;subst e3
  exact Src.ofSlice w Tryz.underlying130 _ _ c _ (by omega) (fun j u hu=>by rw[addr_add];exact hc j u hu) h1
theorem LR.Pn {w w':World} {S:Nat→Prop} {A:Option Addr} {n c:Nat} (h:LR w (.slice A n c) n) (hf:Fr S w w') (ha:0<n→Off S A):LR w' (.slice A n c) n:=by
 obtain⟨_,_,l,e,h⟩:=h
 cases e
 exact⟨A,c,l,rfl,h.Pn hf ha⟩
theorem oN {w:World} {q base:Nat} (h:w.heap[q]?=some (.cells #[] 35 (0,0))) (hb:base≤q):ah w base 35 1 (.slice (some ⟨q,0,none⟩) 0 0) 0 []:=
 ⟨rfl,.inr ⟨_,0,0,#[],rfl,hb,h,bZ _,by unfold maxLen;omega,by simp,rfl⟩⟩
theorem Jo {w:World} {base:Nat} (hb:base≤w.heap.size):ah (w.alloc (.cells #[] 35)) base 35 1 (.slice (some ⟨w.heap.size,0,none⟩) 0 0) 0 []:=oN (aA w _) hb
theorem yT {W:World} {q:Nat} {A:Option Addr} {n c cp:Nat} (h:W.heap[q]?=some (.cells #[.slice A n c] 35 (0,0))):Src Tryz.prog 1 130 (.slice (some ⟨q,0,none⟩) 1 cp) 1 [.slice A n c] W:=
 Src.ofSlice _ Tryz.underlying130 _ _ cp _ rfl (fun j u hu=>mJ (cs:=#[.slice A n c]) h j u hu) (fun u hu=>by rw[iq.1 hu];rfl)
theorem FW:(Tryz.prog.info? 3).map (fun i=>(i.zero,i.size,i.bytes))=some (some (.int .i64 0),1,8):=by kernel_rfl
def uD (n:Nat):Nat:=if n<128 then 1 else if n<256 then 2 else 3
theorem Zo {n:Nat} (h:n≤65535):(kL n).length=uD n:=by
 unfold kL uD
 by_cases h1:n<128
 ·rw [aF (by omega),aF h1];rfl
 ·rw [aG (by omega),aG h1,List.length_reverse,bP,ug (by omega)]
  by_cases h2:n<256
  ·rw [aF h2,show n / 256=0 by omega,nP];rfl
  ·rw [aG h2,ug (by omega),show n / 256 / 256=0 by omega,nP];rfl
/-- An element's length, of its body's. -/
def dF (n:Nat):Nat:=1+uD n+n
theorem lK (tag:Nat) {b:List UInt8} (h:b.length≤65535):(bG tag b).length=dF b.length:=by
 unfold bG dF
 rw[qV,bP,Zo h]
 omega
theorem jL (n:Nat):dF n≤n+4:=by unfold dF uD;split<;>(try split)<;>omega
def fK (n:Nat):Nat:=(su n).length
theorem l9 (n:Nat):(dY n).length=fK n:=List.length_reverse
theorem Ep:∀(k n:Nat),n<128*256 ^ k→(k=0∨128*256 ^ (k-1)≤n)→fK n=k+1
 | 0,n,h,_=>by unfold fK;rw[lU (by simpa using h)];rfl
 | k+1,n,h,h2=>by
  have h2:128*256 ^ k≤n:=h2.resolve_left (by omega)
  have hp:0<256 ^ k:=Nat.pow_pos (by decide)
  have h3:128≤n:=by omega
  have ih:=Ep k (n / 256) (by rw[Nat.pow_succ,←Nat.mul_assoc] at h;exact Nat.div_lt_of_lt_mul (by omega)) (by
   rcases pF k with e | e
   ·exact .inl e
   ·right
    obtain⟨j,rfl⟩:∃j,k=j+1:=⟨k-1,by omega⟩
    rw[Nat.pow_succ,←Nat.mul_assoc] at h2
    rw[Nat.add_sub_cancel]
    exact(Nat.le_div_iff_mul_le (by omega)).2 h2)
  unfold fK at ih ⊢
  rw[qM h3,qV,ih]
theorem Sl (n:Nat) (w:World) (hn:n≤65535):
  Cl 186 #[.int .i64 (n:Int)] w fun e w'=>∃A,e=.returned (.slice A (uD n) (uD n))∧LB w' w.heap.size (.slice A (uD n) (uD n)) (uD n)∧Bw w w':=by
 have L1:=Hj fun x h=>LB.lits w w.heap.size Kv [x] h 1 rfl (by decide)
 have L2:=Hj fun x y h=>LB.lits w w.heap.size Kv [x,y] h 2 rfl (by decide)
 have L3:=Hj fun x y z h=>LB.lits w w.heap.size Kv [x,y,z] h 3 rfl (by decide)
 have n0:(0:Int)≤(n:Int):=by omega
 unfold uD
 by_cases h1:n<128
 ·rw [aF h1]
  have q1:(n:Int)<128:=by omega
  go_enter Tryz.func186,Tryz.ntmps186
  go_wp2
  go_ret
  exact⟨_,rfl,L1.out _ (by simp;omega),(aj _ w).alloc Kv _⟩
 ·rw [aG h1]
  have q1:¬(n:Int)<128:=by omega
  by_cases h2:n<256
  ·rw [aF h2]
   have q2:(n:Int)<256:=by omega
   go_enter Tryz.func186,Tryz.ntmps186
   go_wp2
   go_ret
   exact⟨_,rfl,L2.out _ _ (by simp;omega),(aj _ w).alloc Kv _⟩
  ·rw [aG h2]
   have q2:¬(n:Int)<256:=by omega
   have q3:(n:Int)<65536:=by omega
   go_enter Tryz.func186,Tryz.ntmps186
   go_wp2
   go_ret
   exact⟨_,rfl,L3.out _ _ _ (by simp;omega),(aj _ w).alloc Kv _⟩
theorem XK (tag:Int) (A:Option Addr) (n c:Nat) (w:World) (ht0:0≤tag) (ht:tag<256) (hb:LR w (.slice A n c) n) (hn:n≤65535):
  Cl 125 #[.int .i64 tag,.slice A n c] w fun e w'=>∃A' c',e=.returned (.slice A' (dF n) c')∧LB w' w.heap.size (.slice A' (dF n) c') (dF n)∧Bw w w':=by
 have O0:=Hj (LB.lits w w.heap.size Kv [tag] (by simp;omega) 1 rfl (by decide))
 have B0:=Hj fun o=>(aj w.heap.size w).alloc Kv o
 have HB:=Hj hb
 have HN:=Hj hn
 have HL:=Hj fun W=>Sl n W hn
 clear hb hn
 have HE:Hid (1+uD n+n=dF n):=Hj rfl
 have HE2:Hid (1+uD n≤4):=Hj (by unfold uD;split<;>(try split)<;>omega)
 generalize dF n=E at*
 generalize uD n=l at*
 go_enter Tryz.func125,Tryz.ntmps125
 go_wp2_with (first
  | (go_at_call 186;((refine(HL.out _).mono ?_);rintro e w1 ⟨A1,rfl,ho1,hb1⟩;have O1:=Hj ho1;have O01:=Hj (O0.out.below hb1);have B1:=Hj ((B0.out _).trans (hb1.mono (B0.out _).size));clear ho1 hb1))
  | (at_builtin;(refine lG rfl (.tmp 7) (.tmp 10) rfl (1+l) B1.out B1.out.size O01.out rfl O1.out.lr rfl rfl (by have:=HE2.out;omega) ?_;intro A2 c2 w2 ho2 hb2;have O2:=Hj ho2;have B2:=Hj hb2;clear ho2 hb2))
  | (at_builtin;(refine lG rfl (.tmp 11) (.tmp 12) rfl E B2.out B2.out.size O2.out rfl (HB.out.below B2.out) rfl HE.out (by have:=HE.out;have:=HE2.out;have:=HN.out;omega) ?_;intro A3 c3 w3 ho3 hb3;have O3:=Hj ho3;have B3:=Hj hb3;clear ho3 hb3))
  | fail)
 go_ret
 exact⟨_,_,rfl,O3.out,B3.out⟩
theorem Zp {n j:Nat} (hj:j<7) (hn:n<128*256 ^ (7-j)):
  ((cZ n).getD j 0).toNat=n / 256 ^ (7-j)∧((cZ n).getD (j+1) 0).toNat=n / 256 ^ (6-j) % 256:=by
 rw[qC n j (by omega),qC n (j+1) (by omega),UInt8.toNat_ofNat',UInt8.toNat_ofNat']
 have e:∀k,2 ^ (8*k)=256 ^ k:=fun k=>by rw[Nat.pow_mul]
 rw[e,e,show 7-(j+1)=6-j by omega]
 refine⟨Nat.mod_eq_of_lt ?_,rfl⟩
 have:n / 256 ^ (7-j)<128:=Nat.div_lt_of_lt_mul (by rw[Nat.mul_comm];exact hn)
 omega
theorem Sv (n:Nat) (w:World) (hn:n<4611686018427387904):
  Cl 143 #[.int .i64 (n:Int)] w fun e w'=>∃A c,e=.returned (.slice A (fK n) c)∧LB w' w.heap.size (.slice A (fK n) c) (fK n)∧Bw w w':=by
 have n1:(n:Int)<4611686018427387904:=by omega
 have n0:(0:Int)≤(n:Int):=by omega
 have HN1:=Hj n1
 have HN:=Hj hn
 have H0:=Hj (OB.lit w w.heap.size Kv [] 0 rfl (by decide))
 have B0:=Hj fun o=>(aj w.heap.size w).alloc Kv o
 obtain⟨z,hz⟩:∃z:Int,z=(n:Int):=⟨_,rfl⟩
 rw[←hz]
 have hu:IntKind.u64.wrap z=z:=by rw[hz];show (n:Int) % 18446744073709551616=_;omega
 have HZ:=Hj hz
 clear hn n1 n0 hz HN1
 go_enter Tryz.func143,Tryz.ntmps143
 go_wp2
 go_loopg [3,5] 8 (fun k s3 s5 wr=>∃(A:Option Addr) (c i:Nat),s3=.slice A i c∧s5=.int .i64 (7-(i:Int))∧i+k=8∧OB wr w.heap.size (.slice A i c) ((cZ n).take i)∧Bw w wr)
 case atStart=>exact⟨_,_,0,rfl,rfl,rfl,H0.out,B0.out _⟩
 case round=>
  obtain⟨A,c,i,rfl,rfl,hik,hown,hbel⟩:=hrel
  have dS:=Hj hown
  have dN:=Hj hbel
  have HIK:=Hj hik
  clear hown hbel
  have hl8:(cZ n).length=8:=by simp[cZ]
  by_cases hi:i<8
  ·have HI:=Hj hi
   have m0:(0:Int)≤7-(i:Int):=by omega
   have m2:IntKind.i64.wrap (8*(7-(i:Int)))=8*(7-(i:Int)):=cO _ (by omega)
   have p0:(0:Int)≤8*(7-(i:Int)):=by omega
   have p1:8*(7-(i:Int))<64:=by omega
   have HT:=Hj (rP n i hi)
   have HTL:Hid (((cZ n).take (i+1)).length=i+1):=Hj (by rw[eu];omega)
   clear hi hik hl8
   go_wp2_with (first
    | (at_builtin;(refine aN rfl (.tmp 13) (.tmp 20) 35 rfl (OB.alloc dS.out _) rfl (Src.lit wr _ [UInt8.ofNat (n / 2 ^ (8*(7-i)))] ?_ 1 1 rfl) rfl ?_ ?_ ?_;rotate_right;intro v2 w2 hown2 dQ jZ;rw[←HT.out] at hown2;obtain⟨A2,c2,hv2,-,-,-⟩:=hown2.form;rw[HTL.out] at hv2;subst hv2;have O2:=Hj hown2;have B2:=Hj (bD ((dN.out).alloc dN.out.size _) dQ (dS.out.alloc _) Kv (by have:=dN.out.size;simp;omega));clear hown2 dQ jZ))
    | fail)
   case refine_1=>rw[oW,HZ.out]
   case refine_2=>simp;have:=HI.out;omega
   case refine_3=>have:=dN.out.size;simp;omega
   go_roundg (gk-1)
   case measure=>have:=HIK.out;have:=HI.out;omega
   case rel=>exact⟨A2,c2,i+1,rfl,by go_num,by have:=HIK.out;have:=HI.out;omega,O2.out,B2.out⟩
  ·obtain rfl:i=8:=by omega
   rw[fO (by omega)] at dS
   clear hi hik HIK
   go_wp2
   have HL8:=Hj hl8
   clear hl8 H0 B0 hu
   go_loopg [3] 7 (fun k s3 wq=>∃(A:Option Addr) (c m:Nat),s3=.slice A m c∧1≤m∧k+1=m∧m≤8∧n<128*256 ^ (m-1)∧OB wq w.heap.size (.slice A m c) ((cZ n).drop (8-m))∧Bw w wq)
   case atStart=>exact⟨_,_,8,rfl,by omega,rfl,by omega,by have:=HN.out;omega,by simpa using dS.out,dN.out⟩
   case round=>
    obtain⟨A,c,m,rfl,hm1,hk,hm8,hn,hown,hbel⟩:=hrel
    obtain⟨A',c',e,hnc,hcm,hr⟩:=hown.form
    have hlen:((cZ n).drop (8-m)).length=m:=by rw[lu,HL8.out];omega
    rw[hlen] at e hnc hr
    cases e
    have LBm:Hid (LB wr w.heap.size (.slice A m c) m):=Hj ⟨_,hlen,hown⟩
    have HB:=Hj hbel
    obtain⟨b,o,rfl,hc⟩:=hr.2 (by omega)
    by_cases h1:m=1
    ·subst h1
     have HE:=Hj (Ep 0 n hn (.inl rfl))
     clear hown hbel hr hc hlen hn
     go_wp2
     go_ret
     rw[HE.out]
     exact⟨_,_,rfl,LBm.out,HB.out⟩
    ·have c0:=hc 0 (by omega)
     have c1:=hc 1 (by omega)
     rw[Nat.add_zero] at c0
     have g0:∀k,((cZ n).drop (8-m)).getD k 0=(cZ n).getD (8-m+k) 0:=fun k=>by simp[List.getD_eq_getElem?_getD,List.getElem?_drop]
     rw[g0] at c0 c1
     obtain⟨v0,v1⟩:=Zp (n:=n) (j:=8-m) (by omega) (by rw[show 7-(8-m)=m-1 by omega];exact hn)
     rw[show 7-(8-m)=m-1 by omega] at v0
     rw[show 6-(8-m)=m-2 by omega] at v1
     rw[show 8-m+0=8-m from rfl] at c0
     generalize (cZ n).getD (8-m) 0=x0 at*
     generalize (cZ n).getD (8-m+1) 0=x1 at*
     have hp:256 ^ (m-1)=256 ^ (m-2)*256:=by rw[←Nat.pow_succ];congr 1;omega
     have hpp:0<256 ^ (m-2):=Nat.pow_pos (by decide)
     have m0:(1:Int)<(m:Int):=by omega
     have HM:=Hj (show m≠1∧m≤8∧gk+1=m from ⟨h1,hm8,hk⟩)
     by_cases hs:n<128*256 ^ (m-2)
     ·have z0:x0.toNat=0:=by rw[v0,hp];exact Nat.div_eq_of_lt (by omega)
      have z1:x1.toNat<128:=by have:n / 256 ^ (m-2)<128:=Nat.div_lt_of_lt_mul (by rw[Nat.mul_comm];exact hs);rw[v1,Nat.mod_eq_of_lt (Nat.lt_trans this (by decide))];exact this
      have y0:(x0.toNat:Int)=0:=by omega
      have y1:(x1.toNat:Int)<128:=by omega
      rw[y0] at c0
      have HD:=Hj (hown.drop 1 (by omega))
      have HS:=Hj hs
      have hT:∀W,(Instr.slice 35 (.slice (some ⟨b,o,none⟩) m c) (some (.int .i64 1)) none none).run Tryz.prog W=.ok (.slice (some ⟨b,o+1,none⟩) (m-1) (c-1)) W:=fun W=>by
       have ht':Tryz.prog.underlying 35=some (.slice (Tryz.prog.elem 35)):=by simp[Program.elem,Tryz.underlying35]
       have he:Tryz.prog.elem 35=5:=by simp[Program.elem,Tryz.underlying35]
       have hz:∀w,(Go.sizeOf 5).run Tryz.prog w=.ok 1 w:=fun w=>by
        obtain⟨i0,hi,hz0,hz1,hz2⟩:=info_parts xK
        simp[sizeOf,typeInfo,hi,hz1]
       rw[run_slice_l W 35 _ _ _ ht' .i64 1 (by omega) (by omega),he,hz]
       simp[Result.andThen,sliced,addr_add]
       omega
      rw[aG (by omega),List.drop_drop] at HD
      clear hown hbel hr hc hlen hn v0 v1 hp hpp hs z0 z1 hnc hcm h1 hm8 hk hm1
      go_wp2
      go_roundg (gk-1)
      case measure=>have:=HM.out;omega
      case rel=>exact⟨_,_,m-1,rfl,by have:=HM.out;omega,by have:=HM.out;omega,by have:=HM.out;omega,by rw[show m-1-1=m-2 by omega];exact HS.out,by rw[show 8-(m-1)=8-m+1 by have:=HM.out;omega];exact HD.out,HB.out⟩
     ·have HE:Hid (fK n=m):=Hj<| by rw[Ep (m-1) n hn (.inr (by rw[show m-1-1=m-2 by omega];omega))];omega
      have x255:((x0.toNat:Int)==255)=false:=by
       have:n / 256 ^ (m-1)<128:=Nat.div_lt_of_lt_mul (by rw[Nat.mul_comm];exact hn)
       rw[gQ];omega
      have x0z:x0.toNat=0→¬(x1.toNat:Int)<128:=fun hz=>by
       rw[v0,hp] at hz
       have hlt:n<256 ^ (m-2)*256:=(Nat.div_eq_zero_iff_lt (by omega)).1 hz
       have:n / 256 ^ (m-2)<256:=Nat.div_lt_of_lt_mul hlt
       have h2:128≤n / 256 ^ (m-2):=(Nat.le_div_iff_mul_le (by omega)).2 (by omega)
       rw[Nat.mod_eq_of_lt this] at v1
       omega
      clear hown hbel hr hc hlen hn v0 v1 hp hpp hs hnc hcm h1 hm8 hk hm1
      by_cases hz:x0.toNat=0
      ·have y0:(x0.toNat:Int)=0:=by omega
       have y1:=x0z hz
       rw[y0] at c0
       clear x0z hz x255
       go_wp2
       go_ret
       rw[HE.out]
       exact⟨_,_,rfl,LBm.out,HB.out⟩
      ·have y0:((x0.toNat:Int)==0)=false:=by rw[gQ];omega
       clear x0z hz
       go_wp2
       go_ret
       rw[HE.out]
       exact⟨_,_,rfl,LBm.out,HB.out⟩
end Go.Proofs.YtdhbpajamlfacaaGreatDoor
