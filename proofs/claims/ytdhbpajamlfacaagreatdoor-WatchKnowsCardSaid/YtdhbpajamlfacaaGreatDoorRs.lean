/- The document's Sum (layer 1), by its length alone: it answers any 32 bytes. -/
import Derived.Test.YtdhbpajamlfacaaGreatDoorRt
import Derived.Lib.SlBytesConst
set_option maxRecDepth 100000
namespace Go.Proofs.YtdhbpajamlfacaaGreatDoor
open Go.RowKit
/-- All loops' bodies, the outer ones first. -/
def kD:Code→List Code
 | .loop c=>c::kD c
 | .seq a b=>kD a++kD b
 | .block _ c=>kD c
 | .scope c=>kD c
 | .cond _ a b=>kD a++kD b
 | _=>[]
def jU (b:Option Code) (i:Nat):Code:=(kD (b.getD .skip)).getD i .skip
/-- The frame: what the loops need stands in it, all else is f. -/
def FR (f:Nat→Value) (s2 s3 s6 s7 s8 s9 mX:Value):Act:=⟨List.toArray (f 0::f 1::s2::s3::f 4::f 5::s6::s7::s8::s9::f 10::f 11::f 12::f 13::f 14::f 15::f 16::mX::f 18::f 19::f 20::f 21::f 22::f 23::f 24::f 25::f 26::f 27::f 28::f 29::f 30::f 31::f 32::f 33::f 34::f 35::f 36::f 37::f 38::f 39::f 40::f 41::f 42::f 43::f 44::f 45::f 46::f 47::f 48::f 49::f 50::f 51::f 52::f 53::f 54::f 55::f 56::f 57::f 58::f 59::f 60::f 61::f 62::f 63::f 64::f 65::f 66::f 67::f 68::f 69::f 70::f 71::f 72::f 73::f 74::f 75::f 76::f 77::f 78::f 79::f 80::f 81::f 82::f 83::f 84::f 85::f 86::f 87::f 88::f 89::f 90::f 91::f 92::f 93::f 94::f 95::f 96::f 97::f 98::f 99::f 100::f 101::f 102::f 103::f 104::f 105::f 106::f 107::f 108::f 109::f 110::f 111::f 112::f 113::f 114::f 115::f 116::f 117::f 118::f 119::f 120::f 121::f 122::f 123::f 124::f 125::f 126::f 127::f 128::f 129::f 130::f 131::f 132::f 133::f 134::f 135::f 136::f 137::f 138::f 139::f 140::f 141::f 142::f 143::f 144::f 145::f 146::f 147::f 148::f 149::f 150::f 151::f 152::f 153::f 154::f 155::f 156::f 157::f 158::f 159::f 160::f 161::f 162::f 163::f 164::f 165::f 166::f 167::f 168::f 169::f 170::f 171::f 172::f 173::f 174::f 175::f 176::f 177::f 178::f 179::f 180::f 181::f 182::f 183::f 184::f 185::f 186::f 187::f 188::f 189::f 190::f 191::f 192::f 193::f 194::f 195::f 196::f 197::f 198::f 199::f 200::f 201::f 202::f 203::f 204::f 205::f 206::f 207::f 208::f 209::f 210::f 211::f 212::f 213::f 214::f 215::f 216::f 217::f 218::f 219::f 220::f 221::f 222::f 223::f 224::f 225::f 226::f 227::f 228::f 229::f 230::f 231::f 232::f 233::f 234::f 235::f 236::f 237::f 238::f 239::f 240::f 241::f 242::f 243::f 244::f 245::f 246::f 247::f 248::f 249::f 250::f 251::f 252::f 253::f 254::f 255::f 256::f 257::f 258::f 259::f 260::f 261::f 262::f 263::f 264::f 265::f 266::f 267::f 268::f 269::f 270::f 271::f 272::f 273::f 274::f 275::f 276::f 277::f 278::f 279::f 280::f 281::f 282::f 283::f 284::f 285::f 286::f 287::f 288::f 289::f 290::f 291::f 292::f 293::f 294::f 295::f 296::f 297::f 298::f 299::f 300::f 301::f 302::f 303::f 304::f 305::f 306::f 307::f 308::f 309::f 310::f 311::f 312::f 313::f 314::f 315::f 316::f 317::f 318::f 319::f 320::[]),[]⟩
def Act.slot (a:Act) (i:Nat):Value:=a.tmps.toList.getD i undef
/-- a is such a frame. -/
def iD (a:Act) (s2 s3 s6 s7 s8 s9 mX:Value):Prop:=a=FR (Act.slot a) s2 s3 s6 s7 s8 s9 mX
theorem pV {B:Nat} {a w:World} (h:Below B a w):Below B a w.drew:=⟨h.os,h.tape,h.output,h.size,h.block⟩
theorem lX {w w':World} {row:Option Nat} (hg:w.grownBy w' row) {p:Addr} {v:Value} (h:w.cell? p=some v) (hne:row≠some p.block):w'.cell? p=some v:=
 (World.cell?_of_block (hg.block p.block (World.block_lt_of_cell? w p h) (fun e=>hne e.symm))).trans h
/-- The cells of ints. -/
def zc (l:List Int):List Value:=l.map (Value.int .i64)
theorem PZ (l:List Int):∀u∈zc l,u.oneCell'=true:=by
 intro u hu
 obtain⟨_,_,rfl⟩:=List.mem_map.1 hu
 rfl
/-- v owns some n ints. -/
def OZ (w:World) (B:Nat) (v:Value) (n:Nat):Prop:=∃l:List Int,l.length=n∧ah w B 3 1 v n (zc l)
theorem OZ.form {w:World} {B n:Nat} {v:Value} (h:OZ w B v n):∃A c,v=.slice A n c:=let ⟨_,_,h⟩:=h;let ⟨A,c,e,_⟩:=ah.form h;⟨A,c,e⟩
theorem OZ.alloc {w:World} {B n:Nat} {v:Value} (h:OZ w B v n) (o:Obj):OZ (w.alloc o) B v n:=let ⟨l,e,h⟩:=h;⟨l,e,h.alloc o⟩
theorem OZ.below {w w':World} {B n:Nat} {v:Value} (h:OZ w B v n) (hb:Below w.heap.size w w'):OZ w' B v n:=let ⟨l,e,h⟩:=h;⟨l,e,h.below hb⟩
theorem OZ.lt {w:World} {B n:Nat} {v:Value} (h:OZ w B v n):∀k,v.ownBlock=some k→B≤k∧k<w.heap.size:=let ⟨_,_,h⟩:=h;h.lt
theorem OZ.cells {w:World} {B n c:Nat} {A:Option Addr} (h:OZ w B (.slice A n c) n) (hn:0<n):∃b o,A=some ⟨b,o,none⟩∧B≤b∧∀k,k<n→∃z,w.cell? ⟨b,o+k,none⟩=some (.int .i64 z):=by
 obtain⟨l,e,h⟩:=h
 obtain⟨g,o,cap,hv,hb,_,hc⟩:=ah.cells h (by simp[zc];omega)
 injection hv with hA _ _
 exact⟨g,o,hA,hb,fun k hk=>⟨l.getD k 0,hc k _ (by simp[zc,e,hk])⟩⟩
theorem OZ.lit (w:World) (B:Nat) (hb:B≤w.heap.size) (l:List Int) (n:Nat) (hn:n=l.length) (hl:l.length≤maxLen):OZ (w.alloc (.cells (zc l).toArray 3)) B (.slice (some ⟨w.heap.size,0,none⟩) n n) n:=by
 subst hn
 have:=ah.made (w:=w.alloc (.cells (zc l).toArray 3)) (base:=B) (n:=w.heap.size) (e:=3) (size:=1) hb (g:=w.heap.size) (cap:=l.length) (len:=l.length) (heap_alloc_new w _) rfl Kv hl (by simp[zc])
 have e:(zc l).toArray.toList.take (l.length*1)=zc l:=by rw[Nat.mul_one];exact List.take_of_length_le (by simp[zc])
 rw[e] at this
 exact⟨l,rfl,this⟩
theorem Src.litz (w:World) (cs:Array Value) (l:List Int) (hcs:cs.toList=zc l) (n c:Nat) (hn:n=l.length):
  Src Tryz.prog 1 263 (.slice (some ⟨w.heap.size,0,none⟩) n c) n (zc l) (w.alloc (.cells cs 3)):=by
 subst hn
 refine Src.ofSlice _ Tryz.underlying263 _ _ c (zc l) (by simp[zc]) (fun j u hu=> ?_) (PZ l)
 rw[←hcs] at hu
 exact World.news_of_block (heap_alloc_new w _) j u hu
theorem Src.Vk (w:World) (z:Int):Src Tryz.prog 1 263 (.slice (some ⟨w.heap.size,0,none⟩) 1 1) 1 (zc [z]) (w.alloc (.cells #[Value.int .i64 z] 3)):=Src.litz w _ [z] rfl 1 1 rfl
theorem Src.ofz {w:World} {b n c:Nat} {l:List Int} {f:Nat×Nat} (hl:l.length=n) (h:w.heap[b]?=some (.cells (zc l).toArray 3 f)):Src Tryz.prog 1 263 (.slice (some ⟨b,0,none⟩) n c) n (zc l) w:=by
 subst hl
 refine Src.ofSlice _ Tryz.underlying263 _ _ c (zc l) (by simp[zc]) (fun j u hu=> ?_) (PZ l)
 rw[addr_add,cell_of_row _ _ _ _ _ _ h,Nat.zero_add,List.getElem?_toArray]
 exact hu
theorem uj {o:Oper} {a:Act} {w:World} {K:Act→World→Prop} {Q:Exit→Act→World→Prop} (s x:Operand) (tx:TypeId)
  (ho:o.op=.call {callee:=.builtin .append,args:=#[s,x],argTypes:=#[263,tx]})
  {B n:Nat} {v:Value} (hown:OZ w B v n) (hs:a.eval s=v)
  {xv:Value} {m:Nat} {r:List Int} (hsrc:Src Tryz.prog 1 tx xv m (zc r) w) (hx:a.eval x=xv)
  (hn:n+m≤10000) (hb:B≤w.heap.size)
  (h:∀A c w',OZ w' B (.slice A (n+m) c) (n+m)→w.grownBy w' v.ownBlock→K (a.put o.dst (.slice A (n+m) c)) w'):o.wp Tryz.prog a w K Q:=by
 obtain⟨i0,hi,hz0,hz1,hz2⟩:=info_parts DU
 obtain⟨l,hl,hown⟩:=hown
 have hm:r.length=m:=by have:=hsrc.newsLen;simp[zc] at this;omega
 refine dU s x 263 tx ho i0 _ 8 Tryz.underlying263 hi hz0 hz1 hz2 rfl (by omega) hs hown xv m (zc r) hx hsrc (by unfold maxLen;omega) (by omega) hb fun v' w' h1 h2 _=> ?_
 obtain⟨A,c,rfl,_⟩:=ah.form h1
 exact h A c w' ⟨l++r,by simp[hl,hm],by rw[show zc (l++r)=zc l++zc r by simp[zc]];exact h1⟩ h2
theorem oP {ops:Array Oper} {o:Oper} {a:Act} {w:World} {K:Act→World→Prop} {Q:Exit→Act→World→Prop} {E:Prop} (hgd:o.guard=none) (s x:Operand) (tx:TypeId)
  (ho:o.op=.call {callee:=.builtin .append,args:=#[s,x],argTypes:=#[263,tx]})
  {B n:Nat} {v:Value} (hown:OZ w B v n) (hs:a.eval s=v)
  {xv:Value} {m:Nat} {r:List Int} (hsrc:Src Tryz.prog 1 tx xv m (zc r) w) (hx:a.eval x=xv)
  (hn:n+m≤10000) (hb:B≤w.heap.size)
  (h:∀A c w',OZ w' B (.slice A (n+m) c) (n+m)→w.grownBy w' v.ownBlock→K (a.put o.dst (.slice A (n+m) c)) w'):
  if Region.wanted o (yielded ops a.tmps)=true then Oper.wp Tryz.prog o a w K Q else E:=by
 have hw:Region.wanted o (yielded ops a.tmps)=true:=by simp[Region.wanted,hgd]
 rw[if_pos hw]
 exact uj s x tx ho hown hs hsrc hx hn hb h
theorem wV {B C n:Nat} {a w w':World} {v:Value} (h:Below B a w) (hg:w.grownBy w' v.ownBlock) (hown:OZ w C v n) (hb:B≤C) (hB:B≤w.heap.size):Below B a w':=
 h.grown hg hB fun k hk=>Cz hb (hown.lt k hk).1
/-- What turn answers. -/
def Vl (x:Int) (n:Nat):Int:=bits .or .i64 (x / 2 ^ n) (bits .and .i64 (wrap64 (x*2 ^ (32-n))) 4294967295)
theorem Xi (x:Int) (n:Nat) (w:World) (h0:0<n) (h:n<32):
  Calls Tryz.prog 255 #[.int .i64 x,.int .i64 (n:Int)] w fun e w'=>e=.returned (.int .i64 (Vl x n))∧w'=w:=by
 have n0:(0:Int)≤(n:Int):=by omega
 have n1:(n:Int)<64:=by omega
 have m0:IntKind.i64.wrap (32-(n:Int))=((32-n:Nat):Int):=by rw[IntWalk.i64_in _ (by omega)];omega
 go_enter Tryz.func255,Tryz.ntmps255
 go_wp2
 go_ret
 exact⟨rfl,rfl⟩
theorem GZ (x:Int) (i:Int) (w:World) (h0:0<i) (h:i<32):
  Calls Tryz.prog 255 #[.int .i64 x,.int .i64 i] w fun e w'=>e=.returned (.int .i64 (Vl x i.toNat))∧w'=w:=by
 obtain⟨n,rfl⟩:=Int.eq_ofNat_of_zero_le (Int.le_of_lt h0)
 exact Xi x n w (by omega) (by omega)
theorem TJ (w:World):Calls Tryz.prog 253 #[] w fun e w'=>e=.returned (.slice (some ⟨w.heap.size,0,none⟩) 64 64)∧OZ w' w.heap.size (.slice (some ⟨w.heap.size,0,none⟩) 64 64) 64∧Below w.heap.size w w':=by
 go_enter Tryz.func253,Tryz.ntmps253
 go_wp2
 go_ret
 exact⟨rfl,OZ.lit w w.heap.size Kv [1116352408,1899447441,3049323471,3921009573,961987163,1508970993,2453635748,2870763221,3624381080,310598401,607225278,1426881987,1925078388,2162078206,2614888103,3248222580,3835390401,4022224774,264347078,604807628,770255983,1249150122,1555081692,1996064986,2554220882,2821834349,2952996808,3210313671,3336571891,3584528711,113926993,338241895,666307205,773529912,1294757372,1396182291,1695183700,1986661051,2177026350,2456956037,2730485921,2820302411,3259730800,3345764771,3516065817,3600352804,4094571909,275423344,430227734,506948616,659060556,883997877,958139571,1322822218,1537002063,1747873779,1955562222,2024104815,2227730452,2361852424,2428436474,2756734187,3204031479,3329325298] 64 rfl (by decide),(Below.refl _ w).alloc Kv _⟩
theorem TK (w:World):Calls Tryz.prog 254 #[] w fun e w'=>e=.returned (.slice (some ⟨w.heap.size,0,none⟩) 8 8)∧∃l:List Int,l.length=8∧w'=w.alloc (.cells (zc l).toArray 3):=by
 go_enter Tryz.func254,Tryz.ntmps254
 go_wp2
 go_ret
 exact⟨rfl,[1779033703,3144134277,1013904242,2773480762,1359893119,2600822924,528734635,1541459225],rfl,rfl⟩
set_option maxHeartbeats 4000000 in
theorem refA (fr:Act) (s2 s6 s7 mX:Value) (ba oa N cap' a:Nat) (all:List UInt8) (w:World) (Q:Exit→Act→World→Prop)
  (hfr:iD fr s2 (.slice (some ⟨ba,oa,none⟩) N cap') s6 s7 (.int .i64 (a:Int)) (.slice (some ⟨w.heap.size,0,none⟩) 0 0) mX) (h10:Act.slot fr 10=.int .i64 0)
  (ha:a+64≤N) (hN:N≤549755814400) (hc:∀k,k<N→w.cell? ⟨ba,oa+k,none⟩=some (.int .u8 ((all.getD k 0).toNat:Int)))
  (hQ:∀(fr':Act) (w':World) (A:Option Addr) (c:Nat),iD fr' s2 (.slice (some ⟨ba,oa,none⟩) N cap') s6 s7 (.int .i64 (a:Int)) (.slice A 16 c) mX→
   OZ w' w.heap.size (.slice A 16 c) 16→Below w.heap.size w w'→Q (.exit 6) fr' w'):
  Code.wp Tryz.prog (.loop (jU Tryz.f217.body 3)) Q fr (w.alloc (.cells #[] 3)):=by
 have HQ:=Hj hQ
 have Hc:=Hj hc
 clear hQ hc
 unfold iD at hfr
 generalize Act.slot fr=f at*
 subst hfr
 unfold FR
 rw[h10]
 conv=>arg 2;arg 1;whnf
 clear h10
 have HN:=Hj hN
 go_loopg [9,10] 16 (fun k s9 s10 wr=>∃(A:Option Addr) (c i:Nat),s9=.slice A i c∧s10=.int .i64 (i:Int)∧i+k=16∧OZ wr w.heap.size (.slice A i c) i∧Below w.heap.size w wr)
 case atStart=>exact⟨_,_,0,rfl,rfl,rfl,OZ.lit w w.heap.size Kv [] 0 rfl (by decide),(Below.refl _ w).alloc Kv _⟩
 case round=>
  obtain⟨A,c,i,rfl,rfl,hik,hown,hbel⟩:=hrel
  have cZ:=Hj hown
  have bV:=Hj hbel
  clear hown hbel
  by_cases hi:i<16
  ·have hbc:∀j,j<4→wr.cell? ⟨ba,oa+(a+4*i+j),none⟩=some (.int .u8 ((all.getD (a+4*i+j) 0).toNat:Int)):=fun j hj=>Kz bV.out _ _ (Hc.out _ (by omega))
   have b0:=hbc 0 (by omega)
   have b1:=hbc 1 (by omega)
   have b2:=hbc 2 (by omega)
   have b3:=hbc 3 (by omega)
   rw[Nat.add_zero] at b0
   clear hbc
   generalize (all.getD (a+4*i) 0).toNat=x0 at*
   generalize (all.getD (a+4*i+1) 0).toNat=x1 at*
   generalize (all.getD (a+4*i+2) 0).toNat=x2 at*
   generalize (all.getD (a+4*i+3) 0).toNat=x3 at*
   go_wp2_with fail
   have m1:IntKind.i64.wrap ((a:Int)+4*(i:Int)+1)=(a:Int)+4*(i:Int)+1:=IntWalk.i64_in _ (by omega)
   have m2:IntKind.i64.wrap ((a:Int)+4*(i:Int)+2)=(a:Int)+4*(i:Int)+2:=IntWalk.i64_in _ (by omega)
   have m3:IntKind.i64.wrap ((a:Int)+4*(i:Int)+3)=(a:Int)+4*(i:Int)+3:=IntWalk.i64_in _ (by omega)
   have p0:(0:Int)≤(a:Int)+4*(i:Int):=by omega
   have p1:(0:Int)≤(a:Int)+4*(i:Int)+1:=by omega
   have p2:(0:Int)≤(a:Int)+4*(i:Int)+2:=by omega
   have p3:(0:Int)≤(a:Int)+4*(i:Int)+3:=by omega
   have q0:(a:Int)+4*(i:Int)<(N:Int):=by omega
   have q1:(a:Int)+4*(i:Int)+1<(N:Int):=by omega
   have q2:(a:Int)+4*(i:Int)+2<(N:Int):=by omega
   have q3:(a:Int)+4*(i:Int)+3<(N:Int):=by omega
   have t0:((a:Int)+4*(i:Int)).toNat=a+4*i:=by omega
   have t1:((a:Int)+4*(i:Int)+1).toNat=a+4*i+1:=by omega
   have t2:((a:Int)+4*(i:Int)+2).toNat=a+4*i+2:=by omega
   have t3:((a:Int)+4*(i:Int)+3).toNat=a+4*i+3:=by omega
   go_region_held3 (fun w'=>w'.cell? ⟨ba,oa+(a+4*i),none⟩=some (.int .u8 (x0:Int))∧w'.cell? ⟨ba,oa+(a+4*i+1),none⟩=some (.int .u8 (x1:Int))∧w'.cell? ⟨ba,oa+(a+4*i+2),none⟩=some (.int .u8 (x2:Int))∧w'.cell? ⟨ba,oa+(a+4*i+3),none⟩=some (.int .u8 (x3:Int))) (go_keep)
    (first | ((refine oP rfl (.tmp 74) (.tmp 104) 263 rfl (cZ.out.alloc _) rfl (Src.Vk wr.drew _) rfl (by omega) (by have:=bV.out.size;simp;omega) ?_;intro A2 c2 w2 hown2 bZ;have hba:ba<w.heap.size:=World.block_lt_of_cell? w _ (Hc.out (a+4*i) (by omega));have P6:=fun(e:(Value.slice A i c).ownBlock=some ba)=>(show False by have:=(cZ.out.lt _ e).1;omega);have k0:=lX bZ (Kz ((Below.refl _ wr).alloc Kv _) _ _ b0) P6;have k1:=lX bZ (Kz ((Below.refl _ wr).alloc Kv _) _ _ b1) P6;have k2:=lX bZ (Kz ((Below.refl _ wr).alloc Kv _) _ _ b2) P6;have k3:=lX bZ (Kz ((Below.refl _ wr).alloc Kv _) _ _ b3) P6;have um:=Hj hown2;have Ey:=Hj bZ;clear hown2 bZ hba P6)))
   clear m1 m2 m3 p0 p1 p2 p3 q0 q1 q2 q3 t0 t1 t2 t3
   go_wp2
   go_roundg (gk-1)
   case measure=>omega
   case rel=>exact⟨A2,c2,i+1,rfl,by go_num,by omega,um.out,wV ((pV bV.out).alloc bV.out.size _) Ey.out (cZ.out.alloc _) Kv (by have:=bV.out.size;simp;omega)⟩
  ·obtain rfl:i=16:=by omega
   go_wp2
   refine HQ.out _ _ A c rfl cZ.out bV.out
set_option maxHeartbeats 4000000 in
theorem refB (fr:Act) (s2 s3 s6 s7 s8 mX:Value) (A0:Option Addr) (c0 B:Nat) (w:World) (Q:Exit→Act→World→Prop)
  (hfr:iD fr s2 s3 s6 s7 s8 (.slice A0 16 c0) mX) (h12:Act.slot fr 12=.int .i64 16)
  (hB:B≤w.heap.size) (hown0:OZ w B (.slice A0 16 c0) 16)
  (hQ:∀(fr':Act) (w':World) (A:Option Addr) (c:Nat),iD fr' s2 s3 s6 s7 s8 (.slice A 64 c) mX→
   OZ w' B (.slice A 64 c) 64→Below B w w'→Q (.exit 8) fr' w'):
  Code.wp Tryz.prog (.loop (jU Tryz.f217.body 4)) Q fr w:=by
 have HQ:=Hj hQ
 have ZA:=Hj hown0
 clear hQ hown0
 unfold iD at hfr
 generalize Act.slot fr=f at*
 subst hfr
 unfold FR
 rw[h12]
 conv=>arg 2;arg 1;whnf
 clear h12
 have HB:=Hj hB
 go_loopg [9,12] 48 (fun k s9 s12 wr=>∃(A:Option Addr) (c i:Nat),s9=.slice A i c∧s12=.int .i64 (i:Int)∧i+k=64∧16≤i∧OZ wr B (.slice A i c) i∧Below B w wr)
 case atStart=>exact⟨_,_,16,rfl,rfl,rfl,Nat.le_refl _,ZA.out,Below.refl _ w⟩
 case round=>
  obtain⟨A,c,i,rfl,rfl,hik,h16,hown,hbel⟩:=hrel
  have cZ:=Hj hown
  have bV:=Hj hbel
  clear hown hbel
  by_cases hi:i<64
  ·obtain ⟨b,o,hA,-,hcl⟩:=cZ.out.cells (by omega)
   subst hA
   obtain⟨x16,e16⟩:=hcl (i-16) (by omega)
   obtain⟨x15,e15⟩:=hcl (i-15) (by omega)
   obtain⟨x7,e7⟩:=hcl (i-7) (by omega)
   obtain⟨x2,e2⟩:=hcl (i-2) (by omega)
   clear hcl
   have m16:IntKind.i64.wrap ((i:Int)-16)=(i:Int)-16:=IntWalk.i64_in _ (by omega)
   have m15:IntKind.i64.wrap ((i:Int)-15)=(i:Int)-15:=IntWalk.i64_in _ (by omega)
   have m7:IntKind.i64.wrap ((i:Int)-7)=(i:Int)-7:=IntWalk.i64_in _ (by omega)
   have m2:IntKind.i64.wrap ((i:Int)-2)=(i:Int)-2:=IntWalk.i64_in _ (by omega)
   have p16:(16:Int)≤(i:Int):=by omega
   have p15:(15:Int)≤(i:Int):=by omega
   have p7:(7:Int)≤(i:Int):=by omega
   have p2:(2:Int)≤(i:Int):=by omega
   have q16:(i:Int)-16<(i:Int):=by omega
   have q15:(i:Int)-15<(i:Int):=by omega
   have q7:(i:Int)-7<(i:Int):=by omega
   have q2:(i:Int)-2<(i:Int):=by omega
   have t16:((i:Int)-16).toNat=i-16:=by omega
   have t15:((i:Int)-15).toNat=i-15:=by omega
   have t7:((i:Int)-7).toNat=i-7:=by omega
   have t2:((i:Int)-2).toNat=i-2:=by omega
   go_wp2_with fail
   go_quiet (fail)
   go_wp2_with (first
    | (go_at_call 255;refine(GZ _ _ _ (by decide) (by decide)).mono ?_;rintro e w' ⟨rfl,rfl⟩)
    | fail)
   replace e16:(wr.drewN nq).cell? ⟨b,o+(i-16),none⟩=some (.int .i64 x16):=e16
   replace e7:(wr.drewN nq).cell? ⟨b,o+(i-7),none⟩=some (.int .i64 x7):=e7
   replace cZ:Hid (OZ (wr.drewN nq) B (.slice (some ⟨b,o,none⟩) i c) i):=cZ
   replace bV:Hid (Below B w (wr.drewN nq)):=Hj (below_drewN bV.out nq)
   clear e15 e2
   generalize wr.drewN nq=wd at*
   refine wp_region_noPanic ?_
   go_region_law
    (first | ((refine oP rfl (.tmp 136) (.tmp 153) 263 rfl (cZ.out.alloc _) rfl (Src.Vk wd.drew _) rfl (by omega) (by have:=bV.out.size;have:=HB.out;simp;omega) ?_;intro A2 c2 w2 hown2 bZ;have um:=Hj hown2;have Ey:=Hj bZ;clear hown2 bZ)))
   all_goals
    refine NoPanic.normal ?_
    clear m16 m15 m7 m2 p16 p15 p7 p2 q16 q15 q7 q2 t16 t15 t7 t2
    go_wp2
    go_roundg (gk-1)
    case measure=>omega
    case rel=>exact⟨A2,c2,i+1,rfl,by go_num,by omega,by omega,um.out,wV ((pV bV.out).alloc (Cz HB.out bV.out.size) _) Ey.out (cZ.out.alloc _) Kv (by have:=bV.out.size;have:=HB.out;simp;omega)⟩
  ·obtain rfl:i=64:=by omega
   go_wp2
   refine HQ.out _ _ A c rfl cZ.out bV.out
/-- Round i's frame: as FR, with slot 18. -/
def wW (a:Act) (s2 s3 s6 s7 s8 s9 mX s18:Value):Prop:=iD a s2 s3 s6 s7 s8 s9 mX∧Act.slot a 18=s18
/-- From that address on there are n ints. -/
def ZC (w:World) (b o n:Nat):Prop:=∀k,k<n→∃z,w.cell? ⟨b,o+k,none⟩=some (.int .i64 z)
theorem P7 (z:Int):∃u:UInt8,z % 256=(u.toNat:Int):=⟨UInt8.ofNat (z % 256).toNat,by rw[UInt8.toNat_ofNat'];omega⟩
theorem zc8 (w:World) (x0 x1 x2 x3 x4 x5 x6 x7:Int):ZC (w.alloc (.cells #[.int .i64 x0,.int .i64 x1,.int .i64 x2,.int .i64 x3,.int .i64 x4,.int .i64 x5,.int .i64 x6,.int .i64 x7] 3)).drew w.heap.size 0 8:=fun k hk=>by
 have h:=cell_of_row (w.alloc (.cells (zc [x0,x1,x2,x3,x4,x5,x6,x7]).toArray 3)) w.heap.size (0+k) _ _ _ (heap_alloc_new w _)
 refine⟨[x0,x1,x2,x3,x4,x5,x6,x7].getD k 0,h.trans ?_⟩
 have hk:k=0∨k=1∨k=2∨k=3∨k=4∨k=5∨k=6∨k=7:=by omega
 rcases hk with rfl | rfl | rfl | rfl | rfl | rfl | rfl | rfl<;>rfl
theorem ZC.keep {w w':World} {b o n:Nat} (h:ZC w b o n) (k:Keeps w w'):ZC w' b o n:=fun i hi=>let ⟨z,e⟩:=h i hi;⟨z,k _ _ e⟩
theorem ZC.fr {w w':World} {b o n g:Nat} (h:ZC w b o n) (f:Fr (·=g) w w') (hne:b≠g):ZC w' b o n:=fun i hi=>let ⟨z,e⟩:=h i hi;⟨z,(f.cell (p:=⟨b,o+i,none⟩) (World.block_lt_of_cell? w _ e) hne).trans e⟩
set_option maxHeartbeats 4000000 in
theorem Ky (fr:Act) (s2 s3 s6 s7 s8 s9 mX:Value) (w:World) (Q:Exit→Act→World→Prop)
  (hfr:wW fr s2 s3 s6 s7 s8 s9 mX (.int .i64 (64:Nat)))
  (hQ:∀(fr':Act),iD fr' s2 s3 s6 s7 s8 s9 mX→Q (.exit 10) fr' w):
  Code.wp Tryz.prog (jU Tryz.f217.body 5) Q fr w:=by
 have HQ:=Hj hQ
 clear hQ
 obtain⟨hfr,h18⟩:=hfr
 unfold iD at hfr
 generalize Act.slot fr=f at*
 subst hfr
 unfold FR
 rw[h18]
 conv=>arg 2;whnf
 clear h18
 go_wp2
 exact HQ.out _ rfl
set_option maxHeartbeats 4000000 in
theorem KD (fr:Act) (s2 s3 s7 s8:Value) (b6 o6 c6 b9 o9 c9 b o c i:Nat) (w:World) (Q:Exit→Act→World→Prop)
  (hfr:wW fr s2 s3 (.slice (some ⟨b6,o6,none⟩) 64 c6) s7 s8 (.slice (some ⟨b9,o9,none⟩) 64 c9) (.slice (some ⟨b,o,none⟩) 8 c) (.int .i64 (i:Int)))
  (hi:i<64) (hk:ZC w b6 o6 64) (hw:ZC w b9 o9 64) (hv:ZC w b o 8)
  (hQ:∀(fr':Act) (w':World) (g:Nat),wW fr' s2 s3 (.slice (some ⟨b6,o6,none⟩) 64 c6) s7 s8 (.slice (some ⟨b9,o9,none⟩) 64 c9) (.slice (some ⟨g,0,none⟩) 8 8) (.int .i64 ((i:Int)+1))→
   ZC w' g 0 8→Below w.heap.size w w'→w.heap.size≤g→Q .normal fr' w'):
  Code.wp Tryz.prog (jU Tryz.f217.body 5) Q fr w:=by
 have HQ:=Hj hQ
 obtain⟨z0,v0⟩:=hv 0 (by omega)
 obtain⟨z1,v1⟩:=hv 1 (by omega)
 obtain⟨z2,v2⟩:=hv 2 (by omega)
 obtain⟨z3,v3⟩:=hv 3 (by omega)
 obtain⟨z4,v4⟩:=hv 4 (by omega)
 obtain⟨z5,v5⟩:=hv 5 (by omega)
 obtain⟨z6,v6⟩:=hv 6 (by omega)
 obtain⟨z7,v7⟩:=hv 7 (by omega)
 obtain⟨kk,hk⟩:=hk i hi
 obtain⟨sk,hw⟩:=hw i hi
 rw[Nat.add_zero] at v0
 clear hQ hv
 obtain⟨hfr,h18⟩:=hfr
 unfold iD at hfr
 generalize Act.slot fr=f at*
 subst hfr
 unfold FR
 rw[h18]
 conv=>arg 2;whnf
 clear h18
 have i0:(0:Int)≤(i:Int):=by omega
 have i1:(i:Int)<64:=by omega
 obtain⟨w0,hw0⟩:∃w0,w0=w:=⟨_,rfl⟩
 have hbel:Below w.heap.size w w0:=by rw[hw0];exact Below.refl _ _
 rw[←hw0] at v0 v1 v2 v3 v4 v5 v6 v7 hk hw
 rw[←hw0]
 clear hw0
 go_wp2_with fail
 go_quiet (fail)
 have hq:∀p,(w0.drewN nq).cell? p=w0.cell? p:=fun _=>rfl
 simp only[←hq] at v0 v1 v2 v3 v4 v5 v6 v7 hk hw
 replace hbel:Below w.heap.size w (w0.drewN nq):=below_drewN hbel nq
 clear hq
 generalize w0.drewN nq=w0 at*
 go_wp2_with fail
 go_quiet (fail)
 have hq:∀p,(w0.drewN nq).cell? p=w0.cell? p:=fun _=>rfl
 simp only[←hq] at v0 v1 v2 v3 v4 v5 v6 v7 hk hw
 replace hbel:Below w.heap.size w (w0.drewN nq):=below_drewN hbel nq
 clear hq
 generalize w0.drewN nq=w0 at*
 go_wp2_with fail
 go_quiet ((go_at_call 255;exact Calls.quiet_of_same (GZ _ _ _ (by decide) (by decide))))
 have hq:∀p,(w0.drewN nq).cell? p=w0.cell? p:=fun _=>rfl
 simp only[←hq] at v0 v1 v2 v3 v4 v5 v6 v7 hk hw
 replace hbel:Below w.heap.size w (w0.drewN nq):=below_drewN hbel nq
 clear hq
 generalize w0.drewN nq=w0 at*
 go_wp2_with fail
 go_quiet ((go_at_call 255;exact Calls.quiet_of_same (GZ _ _ _ (by decide) (by decide))))
 have hq:∀p,(w0.drewN nq).cell? p=w0.cell? p:=fun _=>rfl
 simp only[←hq] at v0 v1 v2 v3 v4 v5 v6 v7 hk hw
 replace hbel:Below w.heap.size w (w0.drewN nq):=below_drewN hbel nq
 clear hq
 generalize w0.drewN nq=w0 at*
 have bV:=Hj hbel
 clear hbel hk hw i0 i1
 go_wp2_with fail
 go_still_tail 28,(by kernel_rfl)
 change wpList _ _ _ _ _ w0.drew
 go_wp2_with fail
 exact HQ.out _ _ w0.heap.size ⟨rfl,rfl⟩ (zc8 w0 _ _ _ _ _ _ _ _) (pV (bV.out.alloc bV.out.size _)) bV.out.size
theorem refC (fr:Act) (s2 s3 s7 s8:Value) (B b6 o6 c6 b9 o9 c9 b o c:Nat) (w:World) (Q:Exit→Act→World→Prop) (hB:B≤w.heap.size) (hb:B≤b)
  (hfr:wW fr s2 s3 (.slice (some ⟨b6,o6,none⟩) 64 c6) s7 s8 (.slice (some ⟨b9,o9,none⟩) 64 c9) (.slice (some ⟨b,o,none⟩) 8 c) (.int .i64 0))
  (hk:ZC w b6 o6 64) (hw:ZC w b9 o9 64) (hv:ZC w b o 8)
  (hQ:∀(fr':Act) (w':World) (b o c:Nat),iD fr' s2 s3 (.slice (some ⟨b6,o6,none⟩) 64 c6) s7 s8 (.slice (some ⟨b9,o9,none⟩) 64 c9) (.slice (some ⟨b,o,none⟩) 8 c)→
   ZC w' b o 8→Below w.heap.size w w'→B≤b→Q (.exit 10) fr' w'):
  Code.wp Tryz.prog (.loop (jU Tryz.f217.body 5)) Q fr w:=by
 refine wp_loop_ghost (fun n a w'=>∃(i b o c:Nat),i+n=64∧wW a s2 s3 (.slice (some ⟨b6,o6,none⟩) 64 c6) s7 s8 (.slice (some ⟨b9,o9,none⟩) 64 c9) (.slice (some ⟨b,o,none⟩) 8 c) (.int .i64 (i:Int))∧
  ZC w' b o 8∧Below w.heap.size w w'∧B≤b) 64 ⟨0,b,o,c,rfl,hfr,hv,Below.refl _ _,hb⟩ ?_
 rintro n a w1 ⟨i,b,o,c,hin,wX,hv1,hbel,hb1⟩
 by_cases hi:i<64
 ·refine KD a s2 s3 s7 s8 b6 o6 c6 b9 o9 c9 b o c i w1 _ wX hi (hk.keep (Kz hbel)) (hw.keep (Kz hbel)) hv1 ?_
  intro fr' w2 g hfr2 hv2 Jh hg
  exact⟨n-1,by omega,i+1,g,0,8,by omega,hfr2,hv2,hbel.trans (Jh.mono hbel.size),by have:=hbel.size;omega⟩
 ·obtain rfl:i=64:=by omega
  exact Ky a _ _ _ _ _ _ _ w1 _ wX (fun fr' h=>hQ fr' _ b o c h hv1 hbel hb1)
def EC (a:Act) (s2 s3 s6 s7 s8 s9 mX s277 s278:Value):Prop:=iD a s2 s3 s6 s7 s8 s9 mX∧Act.slot a 277=s277∧Act.slot a 278=s278
/-- A block of eight ints. -/
def H8 (w:World) (g:Nat):Prop:=∃l:List Int,l.length=8∧w.heap[g]?=some (.cells (zc l).toArray 3 (0,0))
theorem H8.zc {w:World} {g:Nat} (h:H8 w g):ZC w g 0 8:=fun k hk=>let ⟨l,e,h⟩:=h;⟨l.getD k 0,by rw[cell_of_row _ _ _ _ _ _ h];simp[_root_.Go.Proofs.YtdhbpajamlfacaaGreatDoor.zc,e,hk]⟩
theorem H8.lt {w:World} {g:Nat} (h:H8 w g):g<w.heap.size:=let ⟨_,_,h⟩:=h;(Cq h)
theorem H8.keep {w w':World} {g:Nat} (h:H8 w g) (k:w'.heap[g]?=w.heap[g]?):H8 w' g:=let ⟨l,e,h⟩:=h;⟨l,e,k.trans h⟩
set_option maxHeartbeats 4000000 in
theorem KH (fr:Act) (s2 s3 s6 s7 s8 s9 mX:Value) (w:World) (Q:Exit→Act→World→Prop)
  (hfr:EC fr s2 s3 s6 s7 s8 s9 mX (.int .i64 8) (.int .i64 (8:Nat)))
  (hQ:∀(fr':Act),iD fr' s2 s3 s6 s7 s8 s9 mX→Q (.exit 12) fr' w):
  Code.wp Tryz.prog (jU Tryz.f217.body 6) Q fr w:=by
 have HQ:=Hj hQ
 clear hQ
 obtain⟨hfr,h7,h8⟩:=hfr
 unfold iD at hfr
 generalize Act.slot fr=f at*
 subst hfr
 unfold FR
 rw[h7,h8]
 conv=>arg 2;whnf
 clear h7 h8
 go_wp2
 exact HQ.out _ rfl
set_option maxHeartbeats 4000000 in
theorem KI (fr:Act) (s2 s3 s6 s8 s9:Value) (bh b o c i:Nat) (w:World) (Q:Exit→Act→World→Prop)
  (hfr:EC fr s2 s3 s6 (.slice (some ⟨bh,0,none⟩) 8 8) s8 s9 (.slice (some ⟨b,o,none⟩) 8 c) (.int .i64 8) (.int .i64 (i:Int)))
  (hi:i<8) (hv:ZC w b o 8) (hh:H8 w bh)
  (hQ:∀(fr':Act) (w':World),EC fr' s2 s3 s6 (.slice (some ⟨bh,0,none⟩) 8 8) s8 s9 (.slice (some ⟨b,o,none⟩) 8 c) (.int .i64 8) (.int .i64 ((i:Int)+1))→
   H8 w' bh→Fr (·=bh) w w'→Q .normal fr' w'):
  Code.wp Tryz.prog (jU Tryz.f217.body 6) Q fr w:=by
 have HQ:=Hj hQ
 obtain⟨vk,v0⟩:=hv i hi
 obtain⟨sk,h0⟩:=hh.zc i hi
 rw[Nat.zero_add] at h0
 obtain⟨l,hl,hh⟩:=hh
 have f0:w.frozen? ⟨bh,i,none⟩=false:=Kj hh
 have HH:=Hj hh
 have HL:=Hj hl
 clear hQ hv hh hl
 obtain⟨hfr,h7,h8⟩:=hfr
 unfold iD at hfr
 generalize Act.slot fr=f at*
 subst hfr
 unfold FR
 rw[h7,h8]
 conv=>arg 2;whnf
 clear h7 h8
 have i0:(0:Int)≤(i:Int):=by omega
 have i1:(i:Int)<8:=by omega
 go_wp2_with fail
 go_still_tail 12,(by kernel_rfl)
 change wpList _ _ _ _ _ w.drew
 go_wp2
 refine HQ.out _ _ ⟨rfl,rfl,rfl⟩ ?_ ((Fr.refl (·=bh) w).setCell (p:=⟨bh,i,none⟩) (fun _=>rfl) _).drew
 refine⟨l.set i (bits .and .i64 (wrap64 (sk+vk)) 4294967295),by rw[List.length_set];exact HL.out,?_⟩
 refine(heap_setCell_same _ _ _ _ _ _ HH.out).trans ?_
 rw[List.setIfInBounds_toArray]
 simp[zc,List.map_set]
theorem refD (fr:Act) (s2 s3 s6 s8 s9:Value) (bh b o c:Nat) (w:World) (Q:Exit→Act→World→Prop)
  (hfr:EC fr s2 s3 s6 (.slice (some ⟨bh,0,none⟩) 8 8) s8 s9 (.slice (some ⟨b,o,none⟩) 8 c) (.int .i64 8) (.int .i64 0))
  (hne:b≠bh) (hv:ZC w b o 8) (hh:H8 w bh)
  (hQ:∀(fr':Act) (w':World),iD fr' s2 s3 s6 (.slice (some ⟨bh,0,none⟩) 8 8) s8 s9 (.slice (some ⟨b,o,none⟩) 8 c)→H8 w' bh→Fr (·=bh) w w'→Q (.exit 12) fr' w'):
  Code.wp Tryz.prog (.loop (jU Tryz.f217.body 6)) Q fr w:=by
 refine wp_loop_ghost (fun n a w'=>∃(i:Nat),i+n=8∧EC a s2 s3 s6 (.slice (some ⟨bh,0,none⟩) 8 8) s8 s9 (.slice (some ⟨b,o,none⟩) 8 c) (.int .i64 8) (.int .i64 (i:Int))∧
  H8 w' bh∧Fr (·=bh) w w') 8 ⟨0,rfl,hfr,hh,Fr.refl _ _⟩ ?_
 rintro n a w1 ⟨i,hin,wX,hh1,hf1⟩
 by_cases hi:i<8
 ·refine KI a s2 s3 s6 s8 s9 bh b o c i w1 _ wX hi (hv.fr hf1 hne) hh1 ?_
  intro fr' w2 hfr2 hh2 hf2
  exact⟨n-1,by omega,i+1,by omega,hfr2,hh2,hf1.trans hf2 (fun _ _ h=>h)⟩
 ·obtain rfl:i=8:=by omega
  exact KH a _ _ _ _ _ _ _ w1 _ wX (fun fr' h=>hQ fr' _ h hh1 hf1)
set_option maxHeartbeats 4000000 in
theorem KJ (fr:Act) (s2 s9 mX:Value) (bh ba oa N cap b6 o6 c6 a:Nat) (all:List UInt8) (w:World) (Q:Exit→Act→World→Prop)
  (hfr:iD fr s2 (.slice (some ⟨ba,oa,none⟩) N cap) (.slice (some ⟨b6,o6,none⟩) 64 c6) (.slice (some ⟨bh,0,none⟩) 8 8) (.int .i64 (a:Int)) s9 mX)
  (ha:a+64≤N) (hN:N≤549755814400) (hc:∀k,k<N→w.cell? ⟨ba,oa+k,none⟩=some (.int .u8 ((all.getD k 0).toNat:Int)))
  (hk:ZC w b6 o6 64) (hh:H8 w bh)
  (hQ:∀(fr':Act) (w':World) (s9 mX:Value),iD fr' s2 (.slice (some ⟨ba,oa,none⟩) N cap) (.slice (some ⟨b6,o6,none⟩) 64 c6) (.slice (some ⟨bh,0,none⟩) 8 8) (.int .i64 ((a:Int)+64)) s9 mX→
   H8 w' bh→Fr (·=bh) w w'→Q .normal fr' w'):
  Code.wp Tryz.prog (jU Tryz.f217.body 2) Q fr w:=by
 have HQ:=Hj hQ
 have Hc:=Hj hc
 have Hk:=Hj hk
 have Hh:=Hj hh
 clear hQ hc hk hh
 unfold iD at hfr
 generalize Act.slot fr=f at*
 subst hfr
 unfold FR
 conv=>arg 2;whnf
 have hlt:(a:Int)<(N:Int):=by omega
 have HN:=Hj hN
 have Ha:=Hj ha
 clear ha hN
 go_wp2_with fail
 refine refA _ s2 (.slice (some ⟨b6,o6,none⟩) 64 c6) (.slice (some ⟨bh,0,none⟩) 8 8) mX ba oa N cap a all w _ rfl rfl Ha.out HN.out Hc.out ?_
 intro U4 w1 A1 c1 wX hown1 dL
 have zA:=Hj hown1
 have nO:=Hj dL
 clear hown1 dL
 unfold iD at wX
 generalize Act.slot U4=f1 at*
 subst wX
 unfold FR
 go_wp2_with fail
 refine refB _ s2 _ (.slice (some ⟨b6,o6,none⟩) 64 c6) (.slice (some ⟨bh,0,none⟩) 8 8) (.int .i64 (a:Int)) mX A1 c1 w.heap.size w1 _ rfl rfl nO.out.size zA.out ?_
 intro XZ w2 A2 c2 hfr2 hown2 Jh
 obtain⟨b9,o9,e9,-,ZB⟩:=hown2.cells (by decide)
 subst e9
 have TM:=Hj (nO.out.trans Jh)
 have Hw9:=Hj (show ZC w2 b9 o9 64 from ZB)
 clear hown2 Jh ZB zA nO
 have hh2:=Hh.out.keep (TM.out.block bh Hh.out.lt)
 obtain⟨l2,hl2,hrow2⟩:=hh2
 have Hsrc:=fun o=>Hj (Src.ofz (c:=8) hl2 ((Below.heap_alloc w2 o bh (Cq hrow2)).trans hrow2))
 have ZE:=Hj (OZ.lit w2 w2.heap.size Kv [] 0 rfl (by decide))
 clear hrow2 hl2
 unfold iD at hfr2
 generalize Act.slot XZ=f2 at*
 subst hfr2
 unfold FR
 go_wp2_with (first
  | (at_builtin;(refine wpList_plain rfl fun _ hK=>uj (.tmp 155) (.tmp 156) 263 rfl ZE.out rfl (Hsrc _).out rfl (by omega) (by simp) fun A3 c3 w3 hown3 Dy=>hK _ _ ?_))
  | fail)
 have mP:Below w2.heap.size w2 w3:=wV ((Below.refl _ w2).alloc Kv _) Dy ZE.out Kv (by simp)
 obtain⟨b3,o3,e3,hb3,hc3⟩:=hown3.cells (by decide)
 subst e3
 have Xj:=Hj (TM.out.trans (mP.mono TM.out.size))
 have Hk3:=Hj (Kz mP)
 have Hc3:=Hj (show ZC w3 b3 o3 8 from hc3)
 have Hb3:=Hj hb3
 have Hz3:=Hj mP.size
 clear hown3 Dy mP hc3 hb3
 refine refC _ s2 _ (.slice (some ⟨bh,0,none⟩) 8 8) (.int .i64 (a:Int)) w2.heap.size b6 o6 c6 b9 o9 c2 b3 o3 c3 w3 _ Hz3.out Hb3.out ⟨rfl,rfl⟩ (Hk.out.keep (Kz Xj.out)) (Hw9.out.keep Hk3.out) Hc3.out ?_
 intro fr4 w4 b4 o4 c4 ZF hv4 zB hb4
 have Hv4:=Hj hv4
 have ZG:=Hj (Xj.out.trans (zB.mono Xj.out.size))
 have IJ:=Hj (show b4≠bh by have:=TM.out.size;have:=Hh.out.lt;omega)
 clear hv4 zB hb4
 unfold iD at ZF
 generalize Act.slot fr4=f4 at*
 subst ZF
 unfold FR
 go_wp2_with fail
 refine refD _ s2 _ (.slice (some ⟨b6,o6,none⟩) 64 c6) (.int .i64 (a:Int)) _ bh b4 o4 c4 w4 _ ⟨rfl,rfl,rfl⟩ IJ.out Hv4.out (Hh.out.keep (ZG.out.block bh Hh.out.lt)) ?_
 intro Ym w5 ZH hh5 hf5
 have Hh5:=Hj hh5
 have Hf5:=Hj ((Fr.of_below (S:=(·=bh)) ZG.out).trans hf5 (fun _ _ h=>h))
 clear hh5 hf5
 unfold iD at ZH
 generalize Act.slot Ym=f5 at*
 subst ZH
 unfold FR
 have hov:(a:Int)+64≤549755814400:=by have:=HN.out;have:=Ha.out;omega
 go_wp2_with fail
 exact HQ.out _ _ _ _ rfl Hh5.out Hf5.out
set_option maxHeartbeats 4000000 in
theorem KO (fr:Act) (s2 s6 s7 s9 mX:Value) (A:Option Addr) (N cap a:Nat) (w:World) (Q:Exit→Act→World→Prop)
  (hfr:iD fr s2 (.slice A N cap) s6 s7 (.int .i64 (a:Int)) s9 mX) (ha:N≤a)
  (hQ:∀(fr':Act),iD fr' s2 (.slice A N cap) s6 s7 (.int .i64 (a:Int)) s9 mX→Q (.exit 4) fr' w):
  Code.wp Tryz.prog (jU Tryz.f217.body 2) Q fr w:=by
 have HQ:=Hj hQ
 clear hQ
 unfold iD at hfr
 generalize Act.slot fr=f at*
 subst hfr
 unfold FR
 conv=>arg 2;whnf
 have hlt:¬(a:Int)<(N:Int):=by omega
 go_wp2
 exact HQ.out _ rfl
theorem refE (fr:Act) (s2 s9 mX:Value) (bh ba oa N M cap b6 o6 c6:Nat) (all:List UInt8) (w:World) (Q:Exit→Act→World→Prop)
  (hfr:iD fr s2 (.slice (some ⟨ba,oa,none⟩) N cap) (.slice (some ⟨b6,o6,none⟩) 64 c6) (.slice (some ⟨bh,0,none⟩) 8 8) (.int .i64 0) s9 mX)
  (hM:N=64*M) (hN:N≤549755814400) (hc:∀k,k<N→w.cell? ⟨ba,oa+k,none⟩=some (.int .u8 ((all.getD k 0).toNat:Int)))
  (hk:ZC w b6 o6 64) (hba:ba≠bh) (hb6:b6≠bh) (hh:H8 w bh)
  (hQ:∀(fr':Act) (w':World) (s8 s9 mX:Value),iD fr' s2 (.slice (some ⟨ba,oa,none⟩) N cap) (.slice (some ⟨b6,o6,none⟩) 64 c6) (.slice (some ⟨bh,0,none⟩) 8 8) s8 s9 mX→
   H8 w' bh→Fr (·=bh) w w'→Q (.exit 4) fr' w'):
  Code.wp Tryz.prog (.loop (jU Tryz.f217.body 2)) Q fr w:=by
 refine wp_loop_ghost (fun n a w'=>∃(m:Nat) (s9 mX:Value),m+n=M∧iD a s2 (.slice (some ⟨ba,oa,none⟩) N cap) (.slice (some ⟨b6,o6,none⟩) 64 c6) (.slice (some ⟨bh,0,none⟩) 8 8) (.int .i64 ((64*m:Nat):Int)) s9 mX∧
  H8 w' bh∧Fr (·=bh) w w') M ⟨0,s9,mX,by omega,hfr,hh,Fr.refl _ _⟩ ?_
 rintro n a w1 ⟨m,t9,t17,hin,wX,hh1,hf1⟩
 by_cases hm:m<M
 ·refine KJ a s2 t9 t17 bh ba oa N cap b6 o6 c6 (64*m) all w1 _ wX (by omega) hN (fun k hk'=> ?_) (hk.fr hf1 hb6) hh1 ?_
  ·exact (hf1.cell (p:=⟨ba,oa+k,none⟩) (World.block_lt_of_cell? w _ (hc k hk')) hba).trans (hc k hk')
  ·intro fr' w2 u9 u17 hfr2 hh2 hf2
   refine⟨n-1,by omega,m+1,u9,u17,by omega,?_,hh2,hf1.trans hf2 (fun _ _ h=>h)⟩
   rw[show (((64*(m+1):Nat)):Int)=((64*m:Nat):Int)+64 by omega]
   exact hfr2
 ·exact KO a _ _ _ _ _ _ _ _ _ w1 _ wX (by omega) (fun fr' h=>hQ fr' _ _ _ _ h hh1 hf1)
/-- A frame of that many slots. -/
def lF (a:Act):Prop:=a=FR (Act.slot a) (Act.slot a 2) (Act.slot a 3) (Act.slot a 6) (Act.slot a 7) (Act.slot a 8) (Act.slot a 9) (Act.slot a 17)
/-- A block of 32 bytes. -/
def Rh (w:World) (g:Nat):Prop:=∃l:List UInt8,l.length=32∧w.heap[g]?=some (.cells (au l).toArray 297 (0,0))
set_option maxHeartbeats 4000000 in
theorem KQ (fr:Act) (go i k:Nat) (x:Int) (w:World) (Q:Exit→Act→World→Prop)
  (hfr:lF fr) (wG:Act.slot fr 24=.pointer (some ⟨go,0,none⟩)) (h25:Act.slot fr 25=.int .i64 (i:Int)) (xJ:Act.slot fr 26=.int .i64 x) (h27:Act.slot fr 27=.int .i64 (k:Int))
  (hi:i<8) (hk:k<4) (hh:Rh w go)
  (hQ:∀(fr':Act) (w':World),lF fr'→Act.slot fr' 2=Act.slot fr 2→Act.slot fr' 24=.pointer (some ⟨go,0,none⟩)→Act.slot fr' 25=.int .i64 (i:Int)→Act.slot fr' 26=.int .i64 x→Act.slot fr' 27=.int .i64 ((k:Int)+1)→
   Act.slot fr' 296=Act.slot fr 296→Act.slot fr' 297=Act.slot fr 297→Act.slot fr' 298=Act.slot fr 298→Rh w' go→Fr (·=go) w w'→Q .normal fr' w'):
  Code.wp Tryz.prog (jU Tryz.f217.body 8) Q fr w:=by
 obtain⟨l,hl,hrow⟩:=hh
 have HQ:=Hj hQ
 have HR:=Hj hrow
 have HL:=Hj hl
 have f0:w.frozen? ⟨go,4*i+k,none⟩=false:=Kj hrow
 have c0:(w.cell? ⟨go,4*i+k,none⟩)=some (.int .u8 ((l.getD (4*i+k) 0).toNat:Int)):=by
  rw[cell_of_row _ _ _ _ _ _ hrow,List.getElem?_toArray]
  exact jO (by omega)
 clear hQ hrow hl
 generalize (Value.int IntKind.u8 ((l.getD (4*i+k) 0).toNat:Int))=v0 at*
 unfold lF at hfr
 generalize Act.slot fr=f at*
 subst hfr
 unfold FR
 rw[wG,h25,xJ,h27]
 conv=>arg 2;whnf
 clear wG h25 xJ h27
 have i0:(0:Int)≤4*(i:Int)+(k:Int):=by omega
 have i1:4*(i:Int)+(k:Int)<32:=by omega
 have n0:(0:Int)≤24-8*(k:Int):=by omega
 have n1:24-8*(k:Int)<64:=by omega
 go_wp2
 refine HQ.out _ _ rfl rfl rfl rfl rfl rfl rfl rfl rfl ?_ ((Fr.refl (·=go) w).setCell (p:=⟨go,4*i+k,none⟩) (fun _=>rfl) _)
 obtain⟨u,hu⟩:=P7 (x / 2 ^ (24-8*k))
 refine⟨l.set (4*i+k) u,by rw[List.length_set];exact HL.out,?_⟩
 refine(heap_setCell_same _ _ _ _ _ _ HR.out).trans ?_
 rw[hu,List.setIfInBounds_toArray]
 simp[au,List.map_set]
set_option maxHeartbeats 4000000 in
theorem KR (fr:Act) (w:World) (Q:Exit→Act→World→Prop)
  (hfr:lF fr) (h27:Act.slot fr 27=.int .i64 (4:Nat))
  (hQ:∀(fr':Act),lF fr'→Act.slot fr' 2=Act.slot fr 2→Act.slot fr' 24=Act.slot fr 24→
   Act.slot fr' 296=Act.slot fr 296→Act.slot fr' 297=Act.slot fr 297→Act.slot fr' 298=Act.slot fr 298→Q (.exit 16) fr' w):
  Code.wp Tryz.prog (jU Tryz.f217.body 8) Q fr w:=by
 have HQ:=Hj hQ
 clear hQ
 unfold lF at hfr
 generalize Act.slot fr=f at*
 subst hfr
 unfold FR
 rw[h27]
 conv=>arg 2;whnf
 clear h27
 go_wp2
 exact HQ.out _ rfl rfl rfl rfl rfl rfl
theorem refG (fr:Act) (go i:Nat) (x:Int) (w:World) (Q:Exit→Act→World→Prop) (s2 Xk Xl Xm:Value)
  (hfr:lF fr) (h2:Act.slot fr 2=s2) (wG:Act.slot fr 24=.pointer (some ⟨go,0,none⟩)) (h25:Act.slot fr 25=.int .i64 (i:Int)) (xJ:Act.slot fr 26=.int .i64 x) (h27:Act.slot fr 27=.int .i64 0)
  (KU:Act.slot fr 296=Xk) (Bl:Act.slot fr 297=Xl) (Bo:Act.slot fr 298=Xm)
  (hi:i<8) (hh:Rh w go)
  (hQ:∀(fr':Act) (w':World),lF fr'→Act.slot fr' 2=s2→Act.slot fr' 24=.pointer (some ⟨go,0,none⟩)→Act.slot fr' 296=Xk→Act.slot fr' 297=Xl→Act.slot fr' 298=Xm→
   Rh w' go→Fr (·=go) w w'→Q (.exit 16) fr' w'):
  Code.wp Tryz.prog (.loop (jU Tryz.f217.body 8)) Q fr w:=by
 refine wp_loop_ghost (fun n a w'=>∃(k:Nat),k+n=4∧lF a∧Act.slot a 2=s2∧Act.slot a 24=.pointer (some ⟨go,0,none⟩)∧Act.slot a 25=.int .i64 (i:Int)∧Act.slot a 26=.int .i64 x∧Act.slot a 27=.int .i64 (k:Int)∧
  Act.slot a 296=Xk∧Act.slot a 297=Xl∧Act.slot a 298=Xm∧Rh w' go∧Fr (·=go) w w') 4
  ⟨0,rfl,hfr,h2,wG,h25,xJ,h27,KU,Bl,Bo,hh,Fr.refl _ _⟩ ?_
 rintro n a w1 ⟨k,hkn,a0,a2,a24,a25,a26,a27,TN,P8,P9,hr1,hf1⟩
 by_cases hk:k<4
 ·refine KQ a go i k x w1 _ a0 a24 a25 a26 a27 hi hk hr1 ?_
  intro fr' w2 b0 b2 Gx b25 b26 b27 ED EF EG hr2 hf2
  exact⟨n-1,by omega,k+1,by omega,b0,b2.trans a2,Gx,b25,b26,b27,ED.trans TN,EF.trans P8,EG.trans P9,hr2,hf1.trans hf2 (fun _ _ h=>h)⟩
 ·obtain rfl:k=4:=by omega
  exact KR a w1 _ a0 a27 (fun fr' b0 b2 Gx ED EF EG=>hQ fr' w1 b0 (b2.trans a2) (Gx.trans a24) (ED.trans TN) (EF.trans P8) (EG.trans P9) hr1 hf1)
set_option maxHeartbeats 4000000 in
theorem KY (fr:Act) (go bh i:Nat) (w:World) (Q:Exit→Act→World→Prop) (s2:Value)
  (hfr:lF fr) (h2:Act.slot fr 2=s2) (wG:Act.slot fr 24=.pointer (some ⟨go,0,none⟩))
  (KU:Act.slot fr 296=.slice (some ⟨bh,0,none⟩) 8 8) (Bl:Act.slot fr 297=.int .i64 8) (Bo:Act.slot fr 298=.int .i64 (i:Int))
  (hi:i<8) (hh:H8 w bh) (hrow:Rh w go)
  (hQ:∀(fr':Act) (w':World),lF fr'→Act.slot fr' 2=s2→Act.slot fr' 24=.pointer (some ⟨go,0,none⟩)→Act.slot fr' 296=.slice (some ⟨bh,0,none⟩) 8 8→Act.slot fr' 297=.int .i64 8→Act.slot fr' 298=.int .i64 ((i:Int)+1)→
   Rh w' go→Fr (·=go) w w'→Q .normal fr' w'):
  Code.wp Tryz.prog (jU Tryz.f217.body 7) Q fr w:=by
 have HQ:=Hj hQ
 have HR:=Hj hrow
 obtain⟨x,hh⟩:=hh.zc i hi
 rw[Nat.zero_add] at hh
 clear hQ hrow
 unfold lF at hfr
 generalize Act.slot fr=f at*
 subst hfr
 unfold FR
 rw[h2,wG,KU,Bl,Bo]
 conv=>arg 2;whnf
 clear h2 wG KU Bl Bo
 have i0:(0:Int)≤(i:Int):=by omega
 have i1:(i:Int)<8:=by omega
 go_wp2_with fail
 refine refG _ go i x w _ s2 (.slice (some ⟨bh,0,none⟩) 8 8) (.int .i64 8) (.int .i64 (i:Int)) rfl rfl rfl rfl rfl rfl rfl rfl rfl hi HR.out ?_
 intro U4 w1 b0 b2 Gx ED EF EG hr1 hf1
 have Hr1:=Hj hr1
 have Hf1:=Hj hf1
 clear hr1 hf1
 unfold lF at b0
 generalize Act.slot U4=f1 at*
 subst b0
 unfold FR
 rw[b2,Gx,ED,EF,EG]
 clear b2 Gx ED EF EG
 go_wp2_with fail
 exact HQ.out _ _ rfl rfl rfl rfl rfl rfl Hr1.out Hf1.out
set_option maxHeartbeats 4000000 in
theorem KZ (fr:Act) (w:World) (Q:Exit→Act→World→Prop)
  (hfr:lF fr) (Bl:Act.slot fr 297=.int .i64 8) (Bo:Act.slot fr 298=.int .i64 (8:Nat))
  (hQ:∀(fr':Act),lF fr'→Act.slot fr' 2=Act.slot fr 2→Act.slot fr' 24=Act.slot fr 24→Q (.exit 14) fr' w):
  Code.wp Tryz.prog (jU Tryz.f217.body 7) Q fr w:=by
 have HQ:=Hj hQ
 clear hQ
 unfold lF at hfr
 generalize Act.slot fr=f at*
 subst hfr
 unfold FR
 rw[Bl,Bo]
 conv=>arg 2;whnf
 clear Bl Bo
 go_wp2
 exact HQ.out _ rfl rfl rfl
theorem refH (fr:Act) (go bh:Nat) (w:World) (Q:Exit→Act→World→Prop) (s2:Value)
  (hfr:lF fr) (h2:Act.slot fr 2=s2) (wG:Act.slot fr 24=.pointer (some ⟨go,0,none⟩))
  (KU:Act.slot fr 296=.slice (some ⟨bh,0,none⟩) 8 8) (Bl:Act.slot fr 297=.int .i64 8) (Bo:Act.slot fr 298=.int .i64 0)
  (hne:bh≠go) (hh:H8 w bh) (hrow:Rh w go)
  (hQ:∀(fr':Act) (w':World),lF fr'→Act.slot fr' 2=s2→Act.slot fr' 24=.pointer (some ⟨go,0,none⟩)→Rh w' go→Fr (·=go) w w'→Q (.exit 14) fr' w'):
  Code.wp Tryz.prog (.loop (jU Tryz.f217.body 7)) Q fr w:=by
 refine wp_loop_ghost (fun n a w'=>∃(i:Nat),i+n=8∧lF a∧Act.slot a 2=s2∧Act.slot a 24=.pointer (some ⟨go,0,none⟩)∧Act.slot a 296=.slice (some ⟨bh,0,none⟩) 8 8∧Act.slot a 297=.int .i64 8∧Act.slot a 298=.int .i64 (i:Int)∧
  Rh w' go∧Fr (·=go) w w') 8 ⟨0,rfl,hfr,h2,wG,KU,Bl,Bo,hrow,Fr.refl _ _⟩ ?_
 rintro n a w1 ⟨i,hin,a0,a2,a24,TN,P8,P9,hr1,hf1⟩
 by_cases hi:i<8
 ·refine KY a go bh i w1 _ s2 a0 a2 a24 TN P8 P9 hi (hh.keep (hf1.block bh hh.lt hne)) hr1 ?_
  intro fr' w2 b0 b2 Gx ED EF EG hr2 hf2
  exact⟨n-1,by omega,i+1,by omega,b0,b2,Gx,ED,EF,EG,hr2,hf1.trans hf2 (fun _ _ h=>h)⟩
 ·obtain rfl:i=8:=by omega
  exact KZ a w1 _ a0 P8 P9 (fun fr' b0 b2 Gx=>hQ fr' w1 b0 (b2.trans a2) (Gx.trans a24) hr1 hf1)
/-- How many zeros stand behind n bytes and the mark. -/
def jw (n:Nat):Nat:=(64-(n+9) % 64) % 64
theorem zC (r j:Nat) (hj:j≤jw r):((((r:Int)+1+(j:Int))) % 64 !=56)=decide (j<jw r):=by
 unfold jw at*
 by_cases h:j<(64-(r+9) % 64) % 64
 ·rw [decide_eq_true h]
  simp
  omega
 ·rw [decide_eq_false h]
  simp
  omega
set_option maxHeartbeats 4000000 in
theorem La (fr:Act) (A:Option Addr) (cap B n j:Nat) (w:World) (Q:Exit→Act→World→Prop)
  (hfr:lF fr) (h3:Act.slot fr 3=.slice A (n+1+j) cap) (hn:n≤549755813888) (hj:j<jw n) (hB:B≤w.heap.size)
  (hown:LB w B (.slice A (n+1+j) cap) (n+1+j))
  (hQ:∀(fr':Act) (w':World) (A:Option Addr) (cap:Nat),lF fr'→Act.slot fr' 0=Act.slot fr 0→Act.slot fr' 2=Act.slot fr 2→Act.slot fr' 3=.slice A (n+1+(j+1)) cap→
   LB w' B (.slice A (n+1+(j+1)) cap) (n+1+(j+1))→Below B w w'→Q .normal fr' w'):
  Code.wp Tryz.prog (jU Tryz.f217.body 0) Q fr w:=by
 have HQ:=Hj hQ
 obtain⟨l,hl,hown⟩:=hown
 have cZ:=Hj hown
 have Hl:=Hj hl
 have HB:=Hj hB
 clear hQ hown hl hB
 have ht:((((n:Int)+1+(j:Int))) % 64 !=56)=true:=by rw[zC n j (Nat.le_of_lt hj)];exact decide_eq_true hj
 have hp:jw n≤64:=by unfold jw;omega
 unfold lF at hfr
 generalize Act.slot fr=f at*
 subst hfr
 unfold FR
 rw[h3]
 conv=>arg 2;whnf
 clear h3
 go_wp2_with (first
  | (at_builtin;(refine aA rfl (.tmp 38) (.tmp 39) 35 rfl (OB.alloc cZ.out _) rfl (Src.lit w _ [0] rfl 1 1 rfl) rfl ?_ ?_ ?_;rotate_right;intro v4 w4 hown4 hgr4 hat4;obtain⟨A4,cap4,hv4,hc4,hm4,hr4⟩:=hown4.form;rw[show (l++[(0:UInt8)]).length=n+1+(j+1) by rw[List.length_append,Hl.out];rfl] at hv4;subst hv4))
  | fail)
 case refine_1=>have:=Hl.out;simp;omega
 case refine_2=>have:=HB.out;simp;omega
 exact HQ.out _ _ A4 cap4 rfl rfl rfl rfl ⟨_,by rw[List.length_append,Hl.out];rfl,hown4⟩ (aS ((Below.refl _ w).alloc HB.out _) hgr4 (cZ.out.alloc _) Kv (by have:=HB.out;simp;omega))
set_option maxHeartbeats 4000000 in
theorem Lc (fr:Act) (A:Option Addr) (cap n:Nat) (w:World) (Q:Exit→Act→World→Prop)
  (hfr:lF fr) (h3:Act.slot fr 3=.slice A (n+1+jw n) cap) (hn:n≤549755813888)
  (hQ:∀(fr':Act),lF fr'→Act.slot fr' 0=Act.slot fr 0→Act.slot fr' 2=Act.slot fr 2→Act.slot fr' 3=.slice A (n+1+jw n) cap→Q (.exit 0) fr' w):
  Code.wp Tryz.prog (jU Tryz.f217.body 0) Q fr w:=by
 have HQ:=Hj hQ
 clear hQ
 have ht:((((n:Int)+1+(jw n:Int))) % 64 !=56)=false:=by rw[zC n (jw n) (by omega)];exact decide_eq_false (by omega)
 have hp:jw n≤64:=by unfold jw;omega
 generalize jw n=p at*
 unfold lF at hfr
 generalize Act.slot fr=f at*
 subst hfr
 unfold FR
 rw[h3]
 conv=>arg 2;whnf
 clear h3
 go_wp2
 exact HQ.out _ rfl rfl rfl rfl
theorem refP (fr:Act) (A:Option Addr) (cap B n:Nat) (w:World) (Q:Exit→Act→World→Prop) (s0 s2:Value)
  (hfr:lF fr) (h0:Act.slot fr 0=s0) (h2:Act.slot fr 2=s2) (h3:Act.slot fr 3=.slice A (n+1) cap) (hn:n≤549755813888) (hB:B≤w.heap.size)
  (hown:LB w B (.slice A (n+1) cap) (n+1))
  (hQ:∀(fr':Act) (w':World) (A:Option Addr) (cap:Nat),lF fr'→Act.slot fr' 0=s0→Act.slot fr' 2=s2→Act.slot fr' 3=.slice A (n+1+jw n) cap→
   LB w' B (.slice A (n+1+jw n) cap) (n+1+jw n)→Below B w w'→Q (.exit 0) fr' w'):
  Code.wp Tryz.prog (.loop (jU Tryz.f217.body 0)) Q fr w:=by
 refine wp_loop_ghost (fun m a w'=>∃(j:Nat) (A:Option Addr) (cap:Nat),j+m=jw n∧lF a∧Act.slot a 0=s0∧Act.slot a 2=s2∧Act.slot a 3=.slice A (n+1+j) cap∧
  LB w' B (.slice A (n+1+j) cap) (n+1+j)∧Below B w w') (jw n) ⟨0,A,cap,by omega,hfr,h0,h2,h3,hown,Below.refl _ _⟩ ?_
 rintro m a w1 ⟨j,A,cap,hj,a0,a1,a2,a3,ho,hb⟩
 by_cases hlt:j<jw n
 ·refine La a A cap B n j w1 _ a0 a3 hn hlt (Cz hB hb.size) ho ?_
  intro fr' w2 A' cap' b0 b1 b2 b3 ho2 hb2
  exact⟨m-1,by omega,j+1,A',cap',by omega,b0,b1.trans a1,b2.trans a2,b3,ho2,hb.trans hb2⟩
 ·have hj':j=jw n:=by omega
  rw[hj'] at a3 ho
  exact Lc a A cap n w1 _ a0 a3 hn (fun fr' b0 b1 b2 b3=>hQ fr' w1 A cap b0 (b1.trans a1) (b2.trans a2) b3 ho hb)
set_option maxHeartbeats 4000000 in
theorem Ld (fr:Act) (A:Option Addr) (cap B M i:Nat) (z:Int) (w:World) (Q:Exit→Act→World→Prop)
  (hfr:lF fr) (h3:Act.slot fr 3=.slice A (M+i) cap) (h4:Act.slot fr 4=.int .i64 z) (h5:Act.slot fr 5=.int .i64 (7-(i:Int))) (hn:M≤559755813888) (hi:i<8) (hB:B≤w.heap.size)
  (hown:LB w B (.slice A (M+i) cap) (M+i))
  (hQ:∀(fr':Act) (w':World) (A:Option Addr) (cap:Nat),lF fr'→Act.slot fr' 2=Act.slot fr 2→Act.slot fr' 3=.slice A (M+(i+1)) cap→Act.slot fr' 4=.int .i64 z→Act.slot fr' 5=.int .i64 (7-(i:Int)-1)→
   LB w' B (.slice A (M+(i+1)) cap) (M+(i+1))→Below B w w'→Q .normal fr' w'):
  Code.wp Tryz.prog (jU Tryz.f217.body 1) Q fr w:=by
 have HQ:=Hj hQ
 obtain⟨l,hl,hown⟩:=hown
 have cZ:=Hj hown
 have Hl:=Hj hl
 have HB:=Hj hB
 clear hQ hown hl hB
 have m0:(0:Int)≤7-(i:Int):=by omega
 have m2:IntKind.i64.wrap (8*(7-(i:Int)))=8*(7-(i:Int)):=IntWalk.i64_in _ (by omega)
 have n0:(0:Int)≤8*(7-(i:Int)):=by omega
 have n1:8*(7-(i:Int))<64:=by omega
 obtain⟨u,hu⟩:=P7 (z / 2 ^ (8*(7-i)))
 have Hu:=Hj hu
 clear hu
 unfold lF at hfr
 generalize Act.slot fr=f at*
 subst hfr
 unfold FR
 rw[h3,h4,h5]
 conv=>arg 2;whnf
 clear h3 h4 h5
 go_wp2_with (first
  | (at_builtin;(refine aA rfl (.tmp 48) (.tmp 55) 35 rfl (OB.alloc cZ.out _) rfl (Src.lit w _ [u] ?_ 1 1 rfl) rfl ?_ ?_ ?_;rotate_right;intro v2 w2 hown2 bZ jc;obtain⟨A2,cap2,hv2,hc2,hm2,hr2⟩:=hown2.form;rw[show (l++[u]).length=M+(i+1) by rw[List.length_append,Hl.out];rfl] at hv2;subst hv2))
  | fail)
 case refine_1=>rw[Hu.out];rfl
 case refine_2=>have:=Hl.out;simp;omega
 case refine_3=>have:=HB.out;simp;omega
 exact HQ.out _ _ A2 cap2 rfl rfl rfl rfl rfl ⟨_,by rw[List.length_append,Hl.out];rfl,hown2⟩ (aS ((Below.refl _ w).alloc HB.out _) bZ (cZ.out.alloc _) Kv (by have:=HB.out;simp;omega))
set_option maxHeartbeats 4000000 in
theorem Le (fr:Act) (w:World) (Q:Exit→Act→World→Prop)
  (hfr:lF fr) (h5:Act.slot fr 5=.int .i64 (7-((8:Nat):Int)))
  (hQ:∀(fr':Act),lF fr'→Act.slot fr' 2=Act.slot fr 2→Act.slot fr' 3=Act.slot fr 3→Q (.exit 2) fr' w):
  Code.wp Tryz.prog (jU Tryz.f217.body 1) Q fr w:=by
 have HQ:=Hj hQ
 clear hQ
 unfold lF at hfr
 generalize Act.slot fr=f at*
 subst hfr
 unfold FR
 rw[h5]
 conv=>arg 2;whnf
 clear h5
 go_wp2
 exact HQ.out _ rfl rfl rfl
theorem refQ (fr:Act) (A:Option Addr) (cap B M:Nat) (z:Int) (w:World) (Q:Exit→Act→World→Prop) (s2:Value)
  (hfr:lF fr) (h2:Act.slot fr 2=s2) (h3:Act.slot fr 3=.slice A M cap) (h4:Act.slot fr 4=.int .i64 z) (h5:Act.slot fr 5=.int .i64 7) (hn:M≤559755813888) (hB:B≤w.heap.size)
  (hown:LB w B (.slice A M cap) M)
  (hQ:∀(fr':Act) (w':World) (A:Option Addr) (cap:Nat),lF fr'→Act.slot fr' 2=s2→Act.slot fr' 3=.slice A (M+8) cap→
   LB w' B (.slice A (M+8) cap) (M+8)→Below B w w'→Q (.exit 2) fr' w'):
  Code.wp Tryz.prog (.loop (jU Tryz.f217.body 1)) Q fr w:=by
 refine wp_loop_ghost (fun m a w'=>∃(i:Nat) (A:Option Addr) (cap:Nat),i+m=8∧lF a∧Act.slot a 2=s2∧Act.slot a 3=.slice A (M+i) cap∧Act.slot a 4=.int .i64 z∧Act.slot a 5=.int .i64 (7-(i:Int))∧
  LB w' B (.slice A (M+i) cap) (M+i)∧Below B w w') 8 ⟨0,A,cap,rfl,hfr,h2,h3,h4,h5,hown,Below.refl _ _⟩ ?_
 rintro m a w1 ⟨i,A,cap,hi,a0,a2,a3,a4,a5,ho,hb⟩
 by_cases hlt:i<8
 ·refine Ld a A cap B M i z w1 _ a0 a3 a4 a5 hn hlt (Cz hB hb.size) ho ?_
  intro fr' w2 A' cap' b0 b2 b3 b4 b5 ho2 hb2
  exact⟨m-1,by omega,i+1,A',cap',by omega,b0,b2.trans a2,b3,b4,by rw[b5];exact congrArg (Value.int .i64) (by omega),ho2,hb.trans hb2⟩
 ·obtain rfl:i=8:=by omega
  exact Le a w1 _ a0 a5 (fun fr' b0 b2 b3=>hQ fr' w1 A cap b0 (b2.trans a2) (b3.trans a3) ho hb)
def jI:Array Value:=Array.replicate 32 (.int .u8 0)
set_option maxHeartbeats 4000000 in
theorem Pq (A:Option Addr) (n c:Nat) (l:List UInt8) (w:World) (hb:RB w A n l) (hn:n≤549755813888):
  Calls Tryz.prog 217 #[.slice A n c] w fun e w'=>∃L:List UInt8,L.length=32∧e=.returned (.agg (au L).toArray)∧Below w.heap.size w w':=by
 have Hb:=Hj hb
 have Hl:=Hj hb.1
 clear hb
 have ka:∀o p,Keeps w ((w.alloc o).alloc p):=fun o p=>Kz (((Below.refl _ w).alloc Kv o).alloc (by simp) p)
 have hl0:∀o,Hid (OB ((w.alloc o).alloc (.cells (au []).toArray 5)) (w.heap.size+1) (.slice (some ⟨w.heap.size+1,0,none⟩) 0 0) []):=fun o=>by
  have:=OB.lit (w.alloc o) (w.heap.size+1) (by simp) [] 0 rfl (by decide)
  simp only[show (w.alloc o).heap.size=w.heap.size+1 by simp] at this
  exact this
 go_enter Tryz.func217,Tryz.ntmps217
 go_wp2_with (first
  | (at_builtin;(refine aA rfl (.tmp 28) (.tmp 29) 35 rfl (hl0 _).out rfl (RB.src Tryz.underlying35 (Hb.out.keep (ka _ _))) rfl (by have:=Hl.out;simp;omega) (by simp) ?_;intro v1 w1 hown1 jC Xn;rw[List.nil_append] at hown1;obtain⟨A1,cap1,hv1,hc1,hm1,hr1⟩:=hown1.form;rw[Hl.out] at hv1 hc1;subst hv1;have zA:=Hj hown1;have ZI:=Hj jC;have hs1:=Hj (show w.heap.size+2≤w1.heap.size by have:=jC.size;simpa using this);clear hown1 jC Xn hr1))
  | (at_builtin;(refine aA rfl (.tmp 31) (.tmp 32) 35 rfl (zA.out.alloc _) rfl (Src.lit w1 _ [128] rfl 1 1 rfl) rfl (by have:=Hl.out;simp;omega) (by have:=hs1.out;simp;omega) ?_;intro v2 w2 hown2 bZ jc;obtain⟨A2,cap2,hv2,hc2,hm2,hr2⟩:=hown2.form;have Hl2:=Hj (show (l++[(128:UInt8)]).length=n+1 by rw[List.length_append,Hl.out];rfl);rw[Hl2.out] at hv2 hc2;subst hv2;have um:=Hj hown2;have Ey:=Hj bZ;have hs2:=Hj (show w.heap.size+2≤w2.heap.size by have:=bZ.size;have:=hs1.out;simp at*;omega);clear hown2 bZ jc hr2))
  | fail)
 have Hb2:Hid (Below (w.heap.size+1) (w.alloc (.cells jI 297)) w2):=by
  have h1:=aS (B:=w.heap.size+1) ((Below.refl _ _).alloc (by simp) _) ZI.out (hl0 _).out Kv (by simp)
  exact aS (h1.alloc (by have:=hs1.out;omega) _) Ey.out (zA.out.alloc _) Kv (by have:=hs1.out;simp;omega)
 clear ZI Ey zA hl0 ka
 refine refP _ A2 cap2 (w.heap.size+1) n w2 _ (.slice A n c) (.pointer (some ⟨w.heap.size,0,none⟩)) rfl rfl rfl rfl hn (by have:=hs2.out;omega) ⟨_,Hl2.out,um.out⟩ ?_
 intro fr3 w3 A3 cap3 b0 b00 b2 b3 hown3 mP
 have zD:=Hj hown3
 have Hb3:=Hj (Hb2.out.trans mP)
 have Hs3:=Hj (show w.heap.size+2≤w3.heap.size by have:=mP.size;have:=hs2.out;omega)
 clear hown3 mP Hb2 hs2 um Hl2 Hl hs1
 as_aux_lemma=>
  unfold lF at b0
  generalize Act.slot fr3=f3 at*
  subst b0
  unfold FR
  rw[b00,b2,b3]
  clear b00 b2 b3
  have h8:IntKind.i64.wrap ((n:Int)*8)=(n:Int)*8:=by rw[IntWalk.i64_in _ (by omega)]
  have HN:Hid (∃M,n+1+jw n+8=64*M∧n+1+jw n+8≤549755814400):=⟨(n+1+jw n+8) / 64,by unfold jw;omega,by unfold jw;omega⟩
  generalize n+1+jw n=N at*
  go_wp2_with fail
  obtain⟨M,hM,hN⟩:=HN.out
  refine refQ _ A3 cap3 (w.heap.size+1) N ((n:Int)*8) w3 _ (.pointer (some ⟨w.heap.size,0,none⟩)) rfl rfl rfl rfl rfl (by omega) (by have:=Hs3.out;omega) zD.out ?_
  clear h8
  intro fr4 w4 A4 cap4 b0 b2 b3 hown4 zB
  have Hb4:=Hj (Hb3.out.trans zB)
  have ZJ:=Hj (show w.heap.size+2≤w4.heap.size by have:=zB.size;have:=Hs3.out;omega)
  clear zB Hb3 Hs3 zD HN
  as_aux_lemma=>
   unfold lF at b0
   generalize Act.slot fr4=f4 at*
   subst b0
   unfold FR
   rw[b2,b3]
   clear b2 b3
   have HN:=Hj (show 1≤N+8∧N+8≤549755814400 from ⟨by omega,hN⟩)
   have HM:=Hj hM
   clear hM hN
   generalize N+8=N at*
   obtain⟨all,hall,hown4⟩:=hown4
   obtain⟨A5,cap5,hv5,_,_,IG⟩:=hown4.form
   rw[hall] at IG
   injection hv5 with e1 e2 e3
   subst e1
   clear e2 e3
   obtain⟨ba,oa,e5,hc5⟩:=IG.2 (by have:=HN.out.1;omega)
   subst e5
   have Zk:=Hj hc5
   clear IG hc5 hown4 hall
   go_wp2_with (first
    | (go_at_call 253;refine(TJ w4).mono ?_;rintro e w5 ⟨rfl,hown5,Vm⟩;have Vo:=Hj hown5;have Qa:=Hj Vm;clear hown5 Vm)
    | (go_at_call 254;refine(TK w5).mono ?_;rintro e w6 ⟨rfl,l6,hl6,hw6⟩;have Hw6:=Hj hw6;have Hl6:=Hj hl6;clear hw6 hl6)
    | fail)
   have TP:Below w5.heap.size w5 w6:=by rw[Hw6.out];exact(Below.refl _ w5).alloc Kv _
   have hk5:ZC w5 w4.heap.size 0 64:=by
    obtain⟨b',o',e,_,hc⟩:=Vo.out.cells (by decide)
    injection e with e
    injection e with e1 e2
    subst e1;subst e2
    exact hc
   have Qb:H8 w6 w5.heap.size:=⟨l6,Hl6.out,by rw[Hw6.out];exact heap_alloc_new w5 _⟩
   have hlt5:w4.heap.size<w5.heap.size:=let ⟨_,h⟩:=hk5 0 (by decide);World.block_lt_of_cell? w5 _ h
   have hba:ba<w4.heap.size:=World.block_lt_of_cell? w4 _ (Zk.out 0 (by have:=HN.out.1;omega))
   have hb6:Below (w.heap.size+1) (w.alloc (.cells jI 297)) w6:=
    (Hb4.out.trans (Qa.out.mono (by have:=ZJ.out;omega))).trans (TP.mono (by have:=ZJ.out;omega))
   refine refE _ _ _ _ w5.heap.size ba oa N M cap4 w4.heap.size 0 64 all w6 _ rfl HM.out HN.out.2 (fun k hk=>Kz TP _ _ (Kz Qa.out _ _ (Zk.out k hk))) (hk5.keep (Kz TP)) (by omega) (by omega) Qb ?_
   intro fr7 w7 t8 t9 t17 ZK hh7 UY
   have Hh7:=Hj hh7
   have xO:=Hj (hb6.trans (UY.below (B:=w.heap.size+1) (by have:=hb6.size;simp at this;omega) (fun i hi e=>by have:=ZJ.out;omega)))
   have Hs7:=Hj (show w.heap.size+2≤w7.heap.size∧w.heap.size+2≤w5.heap.size by have:=UY.size;have:=ZJ.out;have:=Qb.lt;omega)
   clear hh7 UY hk5 Qb hlt5 hba hb6 Vo Qa Zk Hb4 ZJ Hb TP
   as_aux_lemma=>
    unfold iD at ZK
    generalize Act.slot fr7=f7 at*
    subst ZK
    unfold FR
    have HZ1:Hid (jI.size=32):=by show _=_;rfl
    have HZ2:Hid (jI.all (·.oneCell')=true):=by
     show _=true
     rw[Array.all_eq_true_iff_forall_mem]
     intro y hy
     rw[Array.eq_of_mem_replicate hy]
     rfl
    have HZ3:Hid (jI=(au (List.replicate 32 0)).toArray):=by show _=_;rfl
    go_wp2_with (first
     | (refine wpList_store_row rfl 297 (.tmp 24) (.tmp 295) rfl w7.heap.size jI rfl rfl 297 _ (heap_alloc_new w7 _) (by rw[HZ1.out];exact iL) (by rw[HZ1.out];rfl) HZ2.out ?_)
     | fail)
    refine refH _ w7.heap.size w5.heap.size _ _ (.pointer (some ⟨w.heap.size,0,none⟩)) rfl rfl rfl rfl rfl rfl (by have:=Hh7.out.lt;omega) (Hh7.out.keep ((setRow_other _ _ _ _ (by have:=Hh7.out.lt;omega)).trans (Below.heap_alloc w7 _ _ Hh7.out.lt))) ⟨List.replicate 32 0,by simp,by rw[←HZ3.out];exact setRow_heap _ _ _ _ _ _ (heap_alloc_new w7 _)⟩ ?_
    intro fr8 w8 b0 b2 Gx I7 JH
    have Hz:Hid (w8.heap[w.heap.size]?=some (.cells jI 297 (0,0))):=by
     show _=_
     have h7:=(xO.out.block w.heap.size (by omega)).trans (heap_alloc_new w _)
     have h7':=(Cq h7)
     exact(JH.block _ (by simp[World.setRow];omega) (by have:=Hs7.out;omega)).trans ((setRow_other _ _ _ _ (by have:=Hs7.out;omega)).trans ((Below.heap_alloc w7 _ _ h7').trans h7))
    have Hb8:Hid (Below w.heap.size w w8):=by
     have h1:Below w.heap.size w w7:=((Below.refl _ w).alloc Kv _).trans (xO.out.mono (by omega))
     have h2:=below_setRow (h1.alloc h1.size (Obj.cells jI 297)) (g:=w7.heap.size) h1.size jI
     exact h2.trans (JH.below (B:=w.heap.size) (Cz h1.size (by simp[World.setRow])) (fun i hi e=>by have:=Hs7.out;omega))
    obtain⟨L,hL,I7⟩:=I7
    have pW:=Hj I7
    have HL:=Hj hL
    clear I7 JH hL
    have rJ:Hid ((au L).toArray.size=32):=by
     show _=_
     simp[au,HL.out]
    have HB1:Hid ((au L).toArray.all (·.oneCell')=true):=by
     show _=true
     rw[Array.all_eq_true_iff_forall_mem]
     intro y hy
     exact dY _ y (by simpa using hy)
    obtain⟨cur,hcur⟩:∃cur,cur=(au L).toArray:=⟨_,rfl⟩
    rw[←hcur] at pW rJ HB1
    have jY:=Hj hcur
    clear hcur
    unfold lF at b0
    generalize Act.slot fr8=f8 at*
    subst b0
    unfold FR
    rw[b2,Gx]
    clear b2 Gx
    go_wp2_with (first
     | (refine wpList_load_row rfl 297 (.tmp 24) rfl w7.heap.size rfl 297 cur (0,0) _ pW.out Tryz.underlying297 rfl (by rw[rJ.out];exact iL) ?_)
     | (refine wpList_store_row rfl 297 (.tmp 2) (.tmp 320) rfl w.heap.size cur rfl rfl 297 _ Hz.out (by rw[rJ.out];exact iL) (by rw[rJ.out];rfl) HB1.out ?_)
     | fail)
    refine bodyPost_ret (results_cell_row rfl _ _ w.heap.size 297 cur (0,0) _ rfl (setRow_heap _ _ _ _ _ _ Hz.out) Tryz.underlying297 rfl (by rw[rJ.out];exact iL)) rfl ⟨L,HL.out,by rw[jY.out],?_⟩
    have hb2:=Hb8.out
    exact⟨hb2.os,hb2.tape,hb2.output,by simpa [World.setRow] using hb2.size,fun i hi=>(setRow_other _ _ _ _ (by omega)).trans (hb2.block i hi)⟩
end Go.Proofs.YtdhbpajamlfacaaGreatDoor
