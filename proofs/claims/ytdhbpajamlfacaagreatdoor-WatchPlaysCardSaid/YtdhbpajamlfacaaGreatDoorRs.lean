/- The document's Sum (layer 1), by its length alone: it answers any 32 bytes. -/
import Derived.Test.YtdhbpajamlfacaaGreatDoorRt
import Derived.Lib.SlBytesConst
set_option maxHeartbeats 4000000
set_option maxRecDepth 100000
namespace Go.Proofs.YtdhbpajamlfacaaGreatDoor
open Go.RowKit
/-- All loops' bodies, the outer ones first. -/
def mW:Code→List Code
 | .loop c=>c::mW c
 | .seq a b=>mW a++mW b
 | .block _ c=>mW c
 | .scope c=>mW c
 | .cond _ a b=>mW a++mW b
 | _=>[]
def l7 (b:Option Code) (i:Nat):Code:=(mW (b.getD .skip)).getD i .skip
/-- The frame: what the loops need stands in it, all else is f. -/
def FR (f:Nat→Value) (s2 s3 s6 s7 s8 s9 pO:Value):Act:=⟨List.toArray (f 0::f 1::s2::s3::f 4::f 5::s6::s7::s8::s9::f 10::f 11::f 12::f 13::f 14::f 15::f 16::pO::f 18::f 19::f 20::f 21::f 22::f 23::f 24::f 25::f 26::f 27::f 28::f 29::f 30::f 31::f 32::f 33::f 34::f 35::f 36::f 37::f 38::f 39::f 40::f 41::f 42::f 43::f 44::f 45::f 46::f 47::f 48::f 49::f 50::f 51::f 52::f 53::f 54::f 55::f 56::f 57::f 58::f 59::f 60::f 61::f 62::f 63::f 64::f 65::f 66::f 67::f 68::f 69::f 70::f 71::f 72::f 73::f 74::f 75::f 76::f 77::f 78::f 79::f 80::f 81::f 82::f 83::f 84::f 85::f 86::f 87::f 88::f 89::f 90::f 91::f 92::f 93::f 94::f 95::f 96::f 97::f 98::f 99::f 100::f 101::f 102::f 103::f 104::f 105::f 106::f 107::f 108::f 109::f 110::f 111::f 112::f 113::f 114::f 115::f 116::f 117::f 118::f 119::f 120::f 121::f 122::f 123::f 124::f 125::f 126::f 127::f 128::f 129::f 130::f 131::f 132::f 133::f 134::f 135::f 136::f 137::f 138::f 139::f 140::f 141::f 142::f 143::f 144::f 145::f 146::f 147::f 148::f 149::f 150::f 151::f 152::f 153::f 154::f 155::f 156::f 157::f 158::f 159::f 160::f 161::f 162::f 163::f 164::f 165::f 166::f 167::f 168::f 169::f 170::f 171::f 172::f 173::f 174::f 175::f 176::f 177::f 178::f 179::f 180::f 181::f 182::f 183::f 184::f 185::f 186::f 187::f 188::f 189::f 190::f 191::f 192::f 193::f 194::f 195::f 196::f 197::f 198::f 199::f 200::f 201::f 202::f 203::f 204::f 205::f 206::f 207::f 208::f 209::f 210::f 211::f 212::f 213::f 214::f 215::f 216::f 217::f 218::f 219::f 220::f 221::f 222::f 223::f 224::f 225::f 226::f 227::f 228::f 229::f 230::f 231::f 232::f 233::f 234::f 235::f 236::f 237::f 238::f 239::f 240::f 241::f 242::f 243::f 244::f 245::f 246::f 247::f 248::f 249::f 250::f 251::f 252::f 253::f 254::f 255::f 256::f 257::f 258::f 259::f 260::f 261::f 262::f 263::f 264::f 265::f 266::f 267::f 268::f 269::f 270::f 271::f 272::f 273::f 274::f 275::f 276::f 277::f 278::f 279::f 280::f 281::f 282::f 283::f 284::f 285::f 286::f 287::f 288::f 289::f 290::f 291::f 292::f 293::f 294::f 295::f 296::f 297::f 298::f 299::f 300::f 301::f 302::f 303::f 304::f 305::f 306::f 307::f 308::f 309::f 310::f 311::f 312::f 313::f 314::f 315::f 316::f 317::f 318::f 319::f 320::[]),[]⟩
def Act.slot (a:Act) (i:Nat):Value:=a.tmps.toList.getD i undef
/-- a is such a frame. -/
def jw (a:Act) (s2 s3 s6 s7 s8 s9 pO:Value):Prop:=a=FR (Act.slot a) s2 s3 s6 s7 s8 s9 pO
theorem sO {B:Nat} {a w:World} (h:Below B a w):Below B a w.drew:=⟨h.os,h.tape,h.output,h.size,h.block⟩
theorem oV {w w':World} {row:Option Nat} (hg:w.grownBy w' row) {p:Addr} {v:Value} (h:w.cell? p=some v) (hne:row≠some p.block):w'.cell? p=some v:=
 (World.cell?_of_block (hg.block p.block (iP w p h) (fun e=>hne e.symm))).trans h
/-- The cells of ints. -/
def zc (l:List Int):List Value:=l.map (Value.int .i64)
theorem RQ (l:List Int):∀u∈zc l,u.oneCell'=true:=by
 intro u hu
 obtain⟨_,_,rfl⟩:=bW.1 hu
 rfl
/-- v owns some n ints. -/
def OZ (w:World) (B:Nat) (v:Value) (n:Nat):Prop:=∃l:List Int,l.length=n∧ah w B 3 1 v n (zc l)
theorem OZ.form {w:World} {B n:Nat} {v:Value} (h:OZ w B v n):∃A c,v=.slice A n c:=let ⟨_,_,h⟩:=h;let ⟨A,c,e,_⟩:=ah.form h;⟨A,c,e⟩
theorem OZ.alloc {w:World} {B n:Nat} {v:Value} (h:OZ w B v n) (o:Obj):OZ (w.alloc o) B v n:=let ⟨l,e,h⟩:=h;⟨l,e,h.alloc o⟩
theorem OZ.below {w w':World} {B n:Nat} {v:Value} (h:OZ w B v n) (hb:Bw w w'):OZ w' B v n:=let ⟨l,e,h⟩:=h;⟨l,e,h.below hb⟩
theorem OZ.lt {w:World} {B n:Nat} {v:Value} (h:OZ w B v n):∀k,v.ownBlock=some k→B≤k∧k<w.heap.size:=let ⟨_,_,h⟩:=h;h.lt
theorem OZ.cells {w:World} {B n c:Nat} {A:Option Addr} (h:OZ w B (.slice A n c) n) (hn:0<n):∃b o,A=some ⟨b,o,none⟩∧B≤b∧∀k,k<n→∃z,w.cell? ⟨b,o+k,none⟩=some (.int .i64 z):=by
 obtain⟨l,e,h⟩:=h
 obtain⟨g,o,cap,hv,hb,_,hc⟩:=ah.cells h (by simp[zc];omega)
 injection hv with hA _ _
 exact⟨g,o,hA,hb,fun k hk=>⟨l.getD k 0,hc k _ (by simp[zc,e,hk])⟩⟩
theorem OZ.lit (w:World) (B:Nat) (hb:B≤w.heap.size) (l:List Int) (n:Nat) (hn:n=l.length) (hl:l.length≤maxLen):OZ (w.alloc (.cells (zc l).toArray 3)) B (.slice (some ⟨w.heap.size,0,none⟩) n n) n:=by
 subst hn
 have:=ah.made (w:=w.alloc (.cells (zc l).toArray 3)) (base:=B) (n:=w.heap.size) (e:=3) (size:=1) hb (g:=w.heap.size) (cap:=l.length) (len:=l.length) (aA w _) rfl Kv hl (by simp[zc])
 have e:(zc l).toArray.toList.take (l.length*1)=zc l:=by rw[Nat.mul_one];exact fO (by simp[zc])
 rw[e] at this
 exact⟨l,rfl,this⟩
theorem Src.litz (w:World) (cs:Array Value) (l:List Int) (hcs:cs.toList=zc l) (n c:Nat) (hn:n=l.length):
  Src Tryz.prog 1 263 (.slice (some ⟨w.heap.size,0,none⟩) n c) n (zc l) (w.alloc (.cells cs 3)):=by
 subst hn
 refine Src.ofSlice _ Tryz.underlying263 _ _ c (zc l) (by simp[zc]) (fun j u hu=> ?_) (RQ l)
 rw[←hcs] at hu
 exact mJ (aA w _) j u hu
theorem Src.XG (w:World) (z:Int):Src Tryz.prog 1 263 (.slice (some ⟨w.heap.size,0,none⟩) 1 1) 1 (zc [z]) (w.alloc (.cells #[Value.int .i64 z] 3)):=Src.litz w _ [z] rfl 1 1 rfl
theorem Src.ofz {w:World} {b n c:Nat} {l:List Int} {f:Nat×Nat} (hl:l.length=n) (h:w.heap[b]?=some (.cells (zc l).toArray 3 f)):Src Tryz.prog 1 263 (.slice (some ⟨b,0,none⟩) n c) n (zc l) w:=by
 subst hl
 refine Src.ofSlice _ Tryz.underlying263 _ _ c (zc l) (by simp[zc]) (fun j u hu=> ?_) (RQ l)
 rw[addr_add,bT _ _ _ _ _ _ h,dV,List.getElem?_toArray]
 exact hu
theorem wJ {o:Oper} {a:Act} {w:World} {K:Act→World→Prop} {Q:Exit→Act→World→Prop} (s x:Operand) (tx:TypeId)
  (ho:o.op=.call {callee:=.builtin .append,args:=#[s,x],argTypes:=#[263,tx]})
  {B n:Nat} {v:Value} (hown:OZ w B v n) (hs:a.eval s=v)
  {xv:Value} {m:Nat} {r:List Int} (hsrc:Src Tryz.prog 1 tx xv m (zc r) w) (hx:a.eval x=xv)
  (hn:n+m≤10000) (hb:B≤w.heap.size)
  (h:∀A c w',OZ w' B (.slice A (n+m) c) (n+m)→w.grownBy w' v.ownBlock→K (a.put o.dst (.slice A (n+m) c)) w'):o.wp Tryz.prog a w K Q:=by
 obtain⟨i0,hi,hz0,hz1,hz2⟩:=info_parts FW
 obtain⟨l,hl,hown⟩:=hown
 have hm:r.length=m:=by have:=hsrc.newsLen;simp[zc] at this;omega
 refine fE s x 263 tx ho i0 _ 8 Tryz.underlying263 hi hz0 hz1 hz2 rfl (by omega) hs hown xv m (zc r) hx hsrc (by unfold maxLen;omega) (by omega) hb fun v' w' h1 h2 _=> ?_
 obtain⟨A,c,rfl,_⟩:=ah.form h1
 exact h A c w' ⟨l++r,by simp[hl,hm],by rw[show zc (l++r)=zc l++zc r by simp[zc]];exact h1⟩ h2
theorem rO {ops:Array Oper} {o:Oper} {a:Act} {w:World} {K:Act→World→Prop} {Q:Exit→Act→World→Prop} {E:Prop} (hgd:o.guard=none) (s x:Operand) (tx:TypeId)
  (ho:o.op=.call {callee:=.builtin .append,args:=#[s,x],argTypes:=#[263,tx]})
  {B n:Nat} {v:Value} (hown:OZ w B v n) (hs:a.eval s=v)
  {xv:Value} {m:Nat} {r:List Int} (hsrc:Src Tryz.prog 1 tx xv m (zc r) w) (hx:a.eval x=xv)
  (hn:n+m≤10000) (hb:B≤w.heap.size)
  (h:∀A c w',OZ w' B (.slice A (n+m) c) (n+m)→w.grownBy w' v.ownBlock→K (a.put o.dst (.slice A (n+m) c)) w'):
  if Region.wanted o (yielded ops a.tmps)=true then Oper.wp Tryz.prog o a w K Q else E:=by
 have hw:Region.wanted o (yielded ops a.tmps)=true:=by simp[Region.wanted,hgd]
 rw[aF hw]
 exact wJ s x tx ho hown hs hsrc hx hn hb h
theorem zh {B C n:Nat} {a w w':World} {v:Value} (h:Below B a w) (hg:w.grownBy w' v.ownBlock) (hown:OZ w C v n) (hb:B≤C) (hB:B≤w.heap.size):Below B a w':=
 h.grown hg hB fun k hk=>Cz hb (hown.lt k hk).1
/-- What turn answers. -/
def XH (x:Int) (n:Nat):Int:=bits .or .i64 (x / 2 ^ n) (bits .and .i64 (wrap64 (x*2 ^ (32-n))) 4294967295)
theorem Zh (x:Int) (n:Nat) (w:World) (h0:0<n) (h:n<32):
  Cl 255 #[.int .i64 x,.int .i64 (n:Int)] w fun e w'=>e=.returned (.int .i64 (XH x n))∧w'=w:=by
 have n0:(0:Int)≤(n:Int):=by omega
 have n1:(n:Int)<64:=by omega
 have m0:IntKind.i64.wrap (32-(n:Int))=((32-n:Nat):Int):=by rw[cO _ (by omega)];omega
 go_enter Tryz.func255,Tryz.ntmps255
 go_wp2
 go_ret
 exact⟨rfl,rfl⟩
theorem JE (x:Int) (i:Int) (w:World) (h0:0<i) (h:i<32):
  Cl 255 #[.int .i64 x,.int .i64 i] w fun e w'=>e=.returned (.int .i64 (XH x i.toNat))∧w'=w:=by
 obtain⟨n,rfl⟩:=Int.eq_ofNat_of_zero_le (Int.le_of_lt h0)
 exact Zh x n w (by omega) (by omega)
theorem VK (w:World):Cl 253 #[] w fun e w'=>e=.returned (.slice (some ⟨w.heap.size,0,none⟩) 64 64)∧OZ w' w.heap.size (.slice (some ⟨w.heap.size,0,none⟩) 64 64) 64∧Bw w w':=by
 go_enter Tryz.func253,Tryz.ntmps253
 go_wp2
 go_ret
 exact⟨rfl,OZ.lit w w.heap.size Kv [1116352408,1899447441,3049323471,3921009573,961987163,1508970993,2453635748,2870763221,3624381080,310598401,607225278,1426881987,1925078388,2162078206,2614888103,3248222580,3835390401,4022224774,264347078,604807628,770255983,1249150122,1555081692,1996064986,2554220882,2821834349,2952996808,3210313671,3336571891,3584528711,113926993,338241895,666307205,773529912,1294757372,1396182291,1695183700,1986661051,2177026350,2456956037,2730485921,2820302411,3259730800,3345764771,3516065817,3600352804,4094571909,275423344,430227734,506948616,659060556,883997877,958139571,1322822218,1537002063,1747873779,1955562222,2024104815,2227730452,2361852424,2428436474,2756734187,3204031479,3329325298] 64 rfl (by decide),(aj _ w).alloc Kv _⟩
theorem VL (w:World):Cl 254 #[] w fun e w'=>e=.returned (.slice (some ⟨w.heap.size,0,none⟩) 8 8)∧∃l:List Int,l.length=8∧w'=w.alloc (.cells (zc l).toArray 3):=by
 go_enter Tryz.func254,Tryz.ntmps254
 go_wp2
 go_ret
 exact⟨rfl,[1779033703,3144134277,1013904242,2773480762,1359893119,2600822924,528734635,1541459225],rfl,rfl⟩
theorem refA (fr:Act) (s2 s6 s7 pO:Value) (ba oa N cap' a:Nat) (all:List UInt8) (w:World) (Q:Exit→Act→World→Prop)
  (hfr:jw fr s2 (.slice (some ⟨ba,oa,none⟩) N cap') s6 s7 (.int .i64 (a:Int)) (.slice (some ⟨w.heap.size,0,none⟩) 0 0) pO) (h10:Act.slot fr 10=.int .i64 0)
  (ha:a+64≤N) (hN:N≤549755814400) (hc:∀k,k<N→w.cell? ⟨ba,oa+k,none⟩=some (.int .u8 ((all.getD k 0).toNat:Int)))
  (hQ:∀(fr':Act) (w':World) (A:Option Addr) (c:Nat),jw fr' s2 (.slice (some ⟨ba,oa,none⟩) N cap') s6 s7 (.int .i64 (a:Int)) (.slice A 16 c) pO→
   OZ w' w.heap.size (.slice A 16 c) 16→Bw w w'→Q (.exit 6) fr' w'):
  Code.wp Tryz.prog (.loop (l7 Tryz.f217.body 3)) Q fr (w.alloc (.cells #[] 3)):=by
 have HQ:=Hj hQ
 have Hc:=Hj hc
 clear hQ hc
 unfold jw at hfr
 generalize Act.slot fr=f at*
 subst hfr
 unfold FR
 rw[h10]
 conv=>arg 2;arg 1;whnf
 clear h10
 have HN:=Hj hN
 go_loopg [9,10] 16 (fun k s9 s10 wr=>∃(A:Option Addr) (c i:Nat),s9=.slice A i c∧s10=.int .i64 (i:Int)∧i+k=16∧OZ wr w.heap.size (.slice A i c) i∧Bw w wr)
 case atStart=>exact⟨_,_,0,rfl,rfl,rfl,OZ.lit w w.heap.size Kv [] 0 rfl (by decide),(aj _ w).alloc Kv _⟩
 case round=>
  obtain⟨A,c,i,rfl,rfl,hik,hown,hbel⟩:=hrel
  have dS:=Hj hown
  have dN:=Hj hbel
  clear hown hbel
  by_cases hi:i<16
  ·have hbc:∀j,j<4→wr.cell? ⟨ba,oa+(a+4*i+j),none⟩=some (.int .u8 ((all.getD (a+4*i+j) 0).toNat:Int)):=fun j hj=>Kz dN.out _ _ (Hc.out _ (by omega))
   have b0:=hbc 0 (by omega)
   have b1:=hbc 1 (by omega)
   have b2:=hbc 2 (by omega)
   have b3:=hbc 3 (by omega)
   rw[Nat.add_zero] at b0
   clear hbc
   generalize (all.getD (a+4*i) 0).toNat=x0 at*
   generalize (all.getD (a+4*i+1) 0).toNat=x1 at*
   generalize (all.getD (a+4*i+2) 0).toNat=x2 at*
   generalize (all.getD (a+4*i+3) 0).toNat=x3 at*
   go_wp2_with fail
   have m1:IntKind.i64.wrap ((a:Int)+4*(i:Int)+1)=(a:Int)+4*(i:Int)+1:=cO _ (by omega)
   have m2:IntKind.i64.wrap ((a:Int)+4*(i:Int)+2)=(a:Int)+4*(i:Int)+2:=cO _ (by omega)
   have m3:IntKind.i64.wrap ((a:Int)+4*(i:Int)+3)=(a:Int)+4*(i:Int)+3:=cO _ (by omega)
   have p0:(0:Int)≤(a:Int)+4*(i:Int):=by omega
   have p1:(0:Int)≤(a:Int)+4*(i:Int)+1:=by omega
   have p2:(0:Int)≤(a:Int)+4*(i:Int)+2:=by omega
   have p3:(0:Int)≤(a:Int)+4*(i:Int)+3:=by omega
   have q0:(a:Int)+4*(i:Int)<(N:Int):=by omega
   have q1:(a:Int)+4*(i:Int)+1<(N:Int):=by omega
   have q2:(a:Int)+4*(i:Int)+2<(N:Int):=by omega
   have q3:(a:Int)+4*(i:Int)+3<(N:Int):=by omega
   have t0:((a:Int)+4*(i:Int)).toNat=a+4*i:=by omega
   have t1:((a:Int)+4*(i:Int)+1).toNat=a+4*i+1:=by omega
   have t2:((a:Int)+4*(i:Int)+2).toNat=a+4*i+2:=by omega
   have t3:((a:Int)+4*(i:Int)+3).toNat=a+4*i+3:=by omega
   go_region_held3 (fun w'=>w'.cell? ⟨ba,oa+(a+4*i),none⟩=some (.int .u8 (x0:Int))∧w'.cell? ⟨ba,oa+(a+4*i+1),none⟩=some (.int .u8 (x1:Int))∧w'.cell? ⟨ba,oa+(a+4*i+2),none⟩=some (.int .u8 (x2:Int))∧w'.cell? ⟨ba,oa+(a+4*i+3),none⟩=some (.int .u8 (x3:Int))) (go_keep)
    (first | ((refine rO rfl (.tmp 74) (.tmp 104) 263 rfl (dS.out.alloc _) rfl (Src.XG wr.drew _) rfl (by omega) (by have:=dN.out.size;simp;omega) ?_;intro A2 c2 w2 hown2 dQ;have hba:ba<w.heap.size:=iP w _ (Hc.out (a+4*i) (by omega));have RS:=fun(e:(Value.slice A i c).ownBlock=some ba)=>(show False by have:=(dS.out.lt _ e).1;omega);have k0:=oV dQ (Kz ((aj _ wr).alloc Kv _) _ _ b0) RS;have k1:=oV dQ (Kz ((aj _ wr).alloc Kv _) _ _ b1) RS;have k2:=oV dQ (Kz ((aj _ wr).alloc Kv _) _ _ b2) RS;have k3:=oV dQ (Kz ((aj _ wr).alloc Kv _) _ _ b3) RS;have wK:=Hj hown2;have GK:=Hj dQ;clear hown2 dQ hba RS)))
   clear m1 m2 m3 p0 p1 p2 p3 q0 q1 q2 q3 t0 t1 t2 t3
   go_wp2
   go_roundg (gk-1)
   case measure=>omega
   case rel=>exact⟨A2,c2,i+1,rfl,by go_num,by omega,wK.out,zh ((sO dN.out).alloc dN.out.size _) GK.out (dS.out.alloc _) Kv (by have:=dN.out.size;simp;omega)⟩
  ·obtain rfl:i=16:=by omega
   go_wp2
   refine HQ.out _ _ A c rfl dS.out dN.out
theorem refB (fr:Act) (s2 s3 s6 s7 s8 pO:Value) (A0:Option Addr) (c0 B:Nat) (w:World) (Q:Exit→Act→World→Prop)
  (hfr:jw fr s2 s3 s6 s7 s8 (.slice A0 16 c0) pO) (h12:Act.slot fr 12=.int .i64 16)
  (hB:B≤w.heap.size) (hown0:OZ w B (.slice A0 16 c0) 16)
  (hQ:∀(fr':Act) (w':World) (A:Option Addr) (c:Nat),jw fr' s2 s3 s6 s7 s8 (.slice A 64 c) pO→
   OZ w' B (.slice A 64 c) 64→Below B w w'→Q (.exit 8) fr' w'):
  Code.wp Tryz.prog (.loop (l7 Tryz.f217.body 4)) Q fr w:=by
 have HQ:=Hj hQ
 have Hown0:=Hj hown0
 clear hQ hown0
 unfold jw at hfr
 generalize Act.slot fr=f at*
 subst hfr
 unfold FR
 rw[h12]
 conv=>arg 2;arg 1;whnf
 clear h12
 have HB:=Hj hB
 go_loopg [9,12] 48 (fun k s9 s12 wr=>∃(A:Option Addr) (c i:Nat),s9=.slice A i c∧s12=.int .i64 (i:Int)∧i+k=64∧16≤i∧OZ wr B (.slice A i c) i∧Below B w wr)
 case atStart=>exact⟨_,_,16,rfl,rfl,rfl,bZ _,Hown0.out,aj _ w⟩
 case round=>
  obtain⟨A,c,i,rfl,rfl,hik,h16,hown,hbel⟩:=hrel
  have dS:=Hj hown
  have dN:=Hj hbel
  clear hown hbel
  by_cases hi:i<64
  ·obtain ⟨b,o,hA,-,hcl⟩:=dS.out.cells (by omega)
   subst hA
   obtain⟨x16,e16⟩:=hcl (i-16) (by omega)
   obtain⟨x15,e15⟩:=hcl (i-15) (by omega)
   obtain⟨x7,e7⟩:=hcl (i-7) (by omega)
   obtain⟨x2,e2⟩:=hcl (i-2) (by omega)
   clear hcl
   have m16:IntKind.i64.wrap ((i:Int)-16)=(i:Int)-16:=cO _ (by omega)
   have m15:IntKind.i64.wrap ((i:Int)-15)=(i:Int)-15:=cO _ (by omega)
   have m7:IntKind.i64.wrap ((i:Int)-7)=(i:Int)-7:=cO _ (by omega)
   have m2:IntKind.i64.wrap ((i:Int)-2)=(i:Int)-2:=cO _ (by omega)
   have p16:(16:Int)≤(i:Int):=by omega
   have p15:(15:Int)≤(i:Int):=by omega
   have p7:(7:Int)≤(i:Int):=by omega
   have p2:(2:Int)≤(i:Int):=by omega
   have q16:(i:Int)-16<(i:Int):=by omega
   have q15:(i:Int)-15<(i:Int):=by omega
   have q7:(i:Int)-7<(i:Int):=by omega
   have q2:(i:Int)-2<(i:Int):=by omega
   have t16:((i:Int)-16).toNat=i-16:=by omega
   have t15:((i:Int)-15).toNat=i-15:=by omega
   have t7:((i:Int)-7).toNat=i-7:=by omega
   have t2:((i:Int)-2).toNat=i-2:=by omega
   go_wp2_with fail
   go_quiet (fail)
   go_wp2_with (first
    | (go_at_call 255;refine(JE _ _ _ (by decide) (by decide)).mono ?_;rintro e w' ⟨rfl,rfl⟩)
    | fail)
   replace e16:(wr.drewN nq).cell? ⟨b,o+(i-16),none⟩=some (.int .i64 x16):=e16
   replace e7:(wr.drewN nq).cell? ⟨b,o+(i-7),none⟩=some (.int .i64 x7):=e7
   replace dS:Hid (OZ (wr.drewN nq) B (.slice (some ⟨b,o,none⟩) i c) i):=dS
   replace dN:Hid (Below B w (wr.drewN nq)):=Hj (below_drewN dN.out nq)
   clear e15 e2
   generalize wr.drewN nq=wd at*
   refine wp_region_noPanic ?_
   go_region_law
    (first | ((refine rO rfl (.tmp 136) (.tmp 153) 263 rfl (dS.out.alloc _) rfl (Src.XG wd.drew _) rfl (by omega) (by have:=dN.out.size;have:=HB.out;simp;omega) ?_;intro A2 c2 w2 hown2 dQ;have wK:=Hj hown2;have GK:=Hj dQ;clear hown2 dQ)))
   all_goals
    refine NoPanic.normal ?_
    clear m16 m15 m7 m2 p16 p15 p7 p2 q16 q15 q7 q2 t16 t15 t7 t2
    go_wp2
    go_roundg (gk-1)
    case measure=>omega
    case rel=>exact⟨A2,c2,i+1,rfl,by go_num,by omega,by omega,wK.out,zh ((sO dN.out).alloc (Cz HB.out dN.out.size) _) GK.out (dS.out.alloc _) Kv (by have:=dN.out.size;have:=HB.out;simp;omega)⟩
  ·obtain rfl:i=64:=by omega
   go_wp2
   refine HQ.out _ _ A c rfl dS.out dN.out
/-- Round i's frame: as FR, with slot 18. -/
def zi (a:Act) (s2 s3 s6 s7 s8 s9 pO s18:Value):Prop:=jw a s2 s3 s6 s7 s8 s9 pO∧Act.slot a 18=s18
/-- From that address on there are n ints. -/
def ZC (w:World) (b o n:Nat):Prop:=∀k,k<n→∃z,w.cell? ⟨b,o+k,none⟩=some (.int .i64 z)
theorem RU (z:Int):∃u:UInt8,z % 256=(u.toNat:Int):=⟨UInt8.ofNat (z % 256).toNat,by rw[UInt8.toNat_ofNat'];omega⟩
theorem zc8 (w:World) (x0 x1 x2 x3 x4 x5 x6 x7:Int):ZC (w.alloc (.cells #[.int .i64 x0,.int .i64 x1,.int .i64 x2,.int .i64 x3,.int .i64 x4,.int .i64 x5,.int .i64 x6,.int .i64 x7] 3)).drew w.heap.size 0 8:=fun k hk=>by
 have h:=bT (w.alloc (.cells (zc [x0,x1,x2,x3,x4,x5,x6,x7]).toArray 3)) w.heap.size (0+k) _ _ _ (aA w _)
 refine⟨[x0,x1,x2,x3,x4,x5,x6,x7].getD k 0,h.trans ?_⟩
 have hk:k=0∨k=1∨k=2∨k=3∨k=4∨k=5∨k=6∨k=7:=by omega
 rcases hk with rfl | rfl | rfl | rfl | rfl | rfl | rfl | rfl<;>rfl
theorem ZC.keep {w w':World} {b o n:Nat} (h:ZC w b o n) (k:Keeps w w'):ZC w' b o n:=fun i hi=>let ⟨z,e⟩:=h i hi;⟨z,k _ _ e⟩
theorem ZC.fr {w w':World} {b o n g:Nat} (h:ZC w b o n) (f:Fr (·=g) w w') (hne:b≠g):ZC w' b o n:=fun i hi=>let ⟨z,e⟩:=h i hi;⟨z,(f.cell (p:=⟨b,o+i,none⟩) (iP w _ e) hne).trans e⟩
theorem NM (fr:Act) (s2 s3 s6 s7 s8 s9 pO:Value) (w:World) (Q:Exit→Act→World→Prop)
  (hfr:zi fr s2 s3 s6 s7 s8 s9 pO (.int .i64 (64:Nat)))
  (hQ:∀(fr':Act),jw fr' s2 s3 s6 s7 s8 s9 pO→Q (.exit 10) fr' w):
  Code.wp Tryz.prog (l7 Tryz.f217.body 5) Q fr w:=by
 have HQ:=Hj hQ
 clear hQ
 obtain⟨hfr,h18⟩:=hfr
 unfold jw at hfr
 generalize Act.slot fr=f at*
 subst hfr
 unfold FR
 rw[h18]
 conv=>arg 2;whnf
 clear h18
 go_wp2
 exact HQ.out _ rfl
theorem NQ (fr:Act) (s2 s3 s7 s8:Value) (b6 o6 c6 b9 o9 c9 b o c i:Nat) (w:World) (Q:Exit→Act→World→Prop)
  (hfr:zi fr s2 s3 (.slice (some ⟨b6,o6,none⟩) 64 c6) s7 s8 (.slice (some ⟨b9,o9,none⟩) 64 c9) (.slice (some ⟨b,o,none⟩) 8 c) (.int .i64 (i:Int)))
  (hi:i<64) (hk:ZC w b6 o6 64) (hw:ZC w b9 o9 64) (hv:ZC w b o 8)
  (hQ:∀(fr':Act) (w':World) (g:Nat),zi fr' s2 s3 (.slice (some ⟨b6,o6,none⟩) 64 c6) s7 s8 (.slice (some ⟨b9,o9,none⟩) 64 c9) (.slice (some ⟨g,0,none⟩) 8 8) (.int .i64 ((i:Int)+1))→
   ZC w' g 0 8→Bw w w'→w.heap.size≤g→Q .normal fr' w'):
  Code.wp Tryz.prog (l7 Tryz.f217.body 5) Q fr w:=by
 have HQ:=Hj hQ
 obtain⟨z0,v0⟩:=hv 0 (by omega)
 obtain⟨z1,v1⟩:=hv 1 (by omega)
 obtain⟨z2,v2⟩:=hv 2 (by omega)
 obtain⟨z3,v3⟩:=hv 3 (by omega)
 obtain⟨z4,v4⟩:=hv 4 (by omega)
 obtain⟨z5,v5⟩:=hv 5 (by omega)
 obtain⟨z6,v6⟩:=hv 6 (by omega)
 obtain⟨z7,v7⟩:=hv 7 (by omega)
 obtain⟨kk,hk⟩:=hk i hi
 obtain⟨sk,hw⟩:=hw i hi
 rw[Nat.add_zero] at v0
 clear hQ hv
 obtain⟨hfr,h18⟩:=hfr
 unfold jw at hfr
 generalize Act.slot fr=f at*
 subst hfr
 unfold FR
 rw[h18]
 conv=>arg 2;whnf
 clear h18
 have i0:(0:Int)≤(i:Int):=by omega
 have i1:(i:Int)<64:=by omega
 obtain⟨w0,hw0⟩:∃w0,w0=w:=⟨_,rfl⟩
 have hbel:Bw w w0:=by rw[hw0];exact aj _ _
 rw[←hw0] at v0 v1 v2 v3 v4 v5 v6 v7 hk hw
 rw[←hw0]
 clear hw0
 go_wp2_with fail
 go_quiet (fail)
 have hq:∀p,(w0.drewN nq).cell? p=w0.cell? p:=fun _=>rfl
 simp only[←hq] at v0 v1 v2 v3 v4 v5 v6 v7 hk hw
 replace hbel:Bw w (w0.drewN nq):=below_drewN hbel nq
 clear hq
 generalize w0.drewN nq=w0 at*
 go_wp2_with fail
 go_quiet (fail)
 have hq:∀p,(w0.drewN nq).cell? p=w0.cell? p:=fun _=>rfl
 simp only[←hq] at v0 v1 v2 v3 v4 v5 v6 v7 hk hw
 replace hbel:Bw w (w0.drewN nq):=below_drewN hbel nq
 clear hq
 generalize w0.drewN nq=w0 at*
 go_wp2_with fail
 go_quiet ((go_at_call 255;exact Calls.quiet_of_same (JE _ _ _ (by decide) (by decide))))
 have hq:∀p,(w0.drewN nq).cell? p=w0.cell? p:=fun _=>rfl
 simp only[←hq] at v0 v1 v2 v3 v4 v5 v6 v7 hk hw
 replace hbel:Bw w (w0.drewN nq):=below_drewN hbel nq
 clear hq
 generalize w0.drewN nq=w0 at*
 go_wp2_with fail
 go_quiet ((go_at_call 255;exact Calls.quiet_of_same (JE _ _ _ (by decide) (by decide))))
 have hq:∀p,(w0.drewN nq).cell? p=w0.cell? p:=fun _=>rfl
 simp only[←hq] at v0 v1 v2 v3 v4 v5 v6 v7 hk hw
 replace hbel:Bw w (w0.drewN nq):=below_drewN hbel nq
 clear hq
 generalize w0.drewN nq=w0 at*
 have dN:=Hj hbel
 clear hbel hk hw i0 i1
 go_wp2_with fail
 go_still_tail 28,(by kernel_rfl)
 change wpList _ _ _ _ _ w0.drew
 go_wp2_with fail
 exact HQ.out _ _ w0.heap.size ⟨rfl,rfl⟩ (zc8 w0 _ _ _ _ _ _ _ _) (sO (dN.out.alloc dN.out.size _)) dN.out.size
theorem refC (fr:Act) (s2 s3 s7 s8:Value) (B b6 o6 c6 b9 o9 c9 b o c:Nat) (w:World) (Q:Exit→Act→World→Prop) (hB:B≤w.heap.size) (hb:B≤b)
  (hfr:zi fr s2 s3 (.slice (some ⟨b6,o6,none⟩) 64 c6) s7 s8 (.slice (some ⟨b9,o9,none⟩) 64 c9) (.slice (some ⟨b,o,none⟩) 8 c) (.int .i64 0))
  (hk:ZC w b6 o6 64) (hw:ZC w b9 o9 64) (hv:ZC w b o 8)
  (hQ:∀(fr':Act) (w':World) (b o c:Nat),jw fr' s2 s3 (.slice (some ⟨b6,o6,none⟩) 64 c6) s7 s8 (.slice (some ⟨b9,o9,none⟩) 64 c9) (.slice (some ⟨b,o,none⟩) 8 c)→
   ZC w' b o 8→Bw w w'→B≤b→Q (.exit 10) fr' w'):
  Code.wp Tryz.prog (.loop (l7 Tryz.f217.body 5)) Q fr w:=by
 refine wp_loop_ghost (fun n a w'=>∃(i b o c:Nat),i+n=64∧zi a s2 s3 (.slice (some ⟨b6,o6,none⟩) 64 c6) s7 s8 (.slice (some ⟨b9,o9,none⟩) 64 c9) (.slice (some ⟨b,o,none⟩) 8 c) (.int .i64 (i:Int))∧
  ZC w' b o 8∧Bw w w'∧B≤b) 64 ⟨0,b,o,c,rfl,hfr,hv,aj _ _,hb⟩ ?_
 rintro n a w1 ⟨i,b,o,c,hin,zk,hv1,hbel,hb1⟩
 by_cases hi:i<64
 ·refine NQ a s2 s3 s7 s8 b6 o6 c6 b9 o9 c9 b o c i w1 _ zk hi (hk.keep (Kz hbel)) (hw.keep (Kz hbel)) hv1 ?_
  intro fr' w2 g hfr2 hv2 LZ hg
  exact⟨n-1,by omega,i+1,g,0,8,by omega,hfr2,hv2,hbel.trans (LZ.mono hbel.size),by have:=hbel.size;omega⟩
 ·obtain rfl:i=64:=by omega
  exact NM a _ _ _ _ _ _ _ w1 _ zk (fun fr' h=>hQ fr' _ b o c h hv1 hbel hb1)
def GL (a:Act) (s2 s3 s6 s7 s8 s9 pO s277 s278:Value):Prop:=jw a s2 s3 s6 s7 s8 s9 pO∧Act.slot a 277=s277∧Act.slot a 278=s278
/-- A block of eight ints. -/
def H8 (w:World) (g:Nat):Prop:=∃l:List Int,l.length=8∧w.heap[g]?=some (.cells (zc l).toArray 3 (0,0))
theorem H8.zc {w:World} {g:Nat} (h:H8 w g):ZC w g 0 8:=fun k hk=>let ⟨l,e,h⟩:=h;⟨l.getD k 0,by rw[bT _ _ _ _ _ _ h];simp[_root_.Go.Proofs.YtdhbpajamlfacaaGreatDoor.zc,e,hk]⟩
theorem H8.lt {w:World} {g:Nat} (h:H8 w g):g<w.heap.size:=let ⟨_,_,h⟩:=h;(Cq h)
theorem H8.keep {w w':World} {g:Nat} (h:H8 w g) (k:w'.heap[g]?=w.heap[g]?):H8 w' g:=let ⟨l,e,h⟩:=h;⟨l,e,k.trans h⟩
theorem NR (fr:Act) (s2 s3 s6 s7 s8 s9 pO:Value) (w:World) (Q:Exit→Act→World→Prop)
  (hfr:GL fr s2 s3 s6 s7 s8 s9 pO (.int .i64 8) (.int .i64 (8:Nat)))
  (hQ:∀(fr':Act),jw fr' s2 s3 s6 s7 s8 s9 pO→Q (.exit 12) fr' w):
  Code.wp Tryz.prog (l7 Tryz.f217.body 6) Q fr w:=by
 have HQ:=Hj hQ
 clear hQ
 obtain⟨hfr,h7,h8⟩:=hfr
 unfold jw at hfr
 generalize Act.slot fr=f at*
 subst hfr
 unfold FR
 rw[h7,h8]
 conv=>arg 2;whnf
 clear h7 h8
 go_wp2
 exact HQ.out _ rfl
theorem NS (fr:Act) (s2 s3 s6 s8 s9:Value) (bh b o c i:Nat) (w:World) (Q:Exit→Act→World→Prop)
  (hfr:GL fr s2 s3 s6 (.slice (some ⟨bh,0,none⟩) 8 8) s8 s9 (.slice (some ⟨b,o,none⟩) 8 c) (.int .i64 8) (.int .i64 (i:Int)))
  (hi:i<8) (hv:ZC w b o 8) (hh:H8 w bh)
  (hQ:∀(fr':Act) (w':World),GL fr' s2 s3 s6 (.slice (some ⟨bh,0,none⟩) 8 8) s8 s9 (.slice (some ⟨b,o,none⟩) 8 c) (.int .i64 8) (.int .i64 ((i:Int)+1))→
   H8 w' bh→Fr (·=bh) w w'→Q .normal fr' w'):
  Code.wp Tryz.prog (l7 Tryz.f217.body 6) Q fr w:=by
 have HQ:=Hj hQ
 obtain⟨vk,v0⟩:=hv i hi
 obtain⟨sk,h0⟩:=hh.zc i hi
 rw[dV] at h0
 obtain⟨l,hl,hh⟩:=hh
 have f0:w.frozen? ⟨bh,i,none⟩=false:=Kj hh
 have HH:=Hj hh
 have HL:=Hj hl
 clear hQ hv hh hl
 obtain⟨hfr,h7,h8⟩:=hfr
 unfold jw at hfr
 generalize Act.slot fr=f at*
 subst hfr
 unfold FR
 rw[h7,h8]
 conv=>arg 2;whnf
 clear h7 h8
 have i0:(0:Int)≤(i:Int):=by omega
 have i1:(i:Int)<8:=by omega
 go_wp2_with fail
 go_still_tail 12,(by kernel_rfl)
 change wpList _ _ _ _ _ w.drew
 go_wp2
 refine HQ.out _ _ ⟨rfl,rfl,rfl⟩ ?_ ((Fr.refl (·=bh) w).setCell (p:=⟨bh,i,none⟩) (fun _=>rfl) _).drew
 refine⟨l.set i (bits .and .i64 (wrap64 (sk+vk)) 4294967295),by rw[List.length_set];exact HL.out,?_⟩
 refine(aI _ _ _ _ _ _ HH.out).trans ?_
 rw[List.setIfInBounds_toArray]
 simp[zc,List.map_set]
theorem refD (fr:Act) (s2 s3 s6 s8 s9:Value) (bh b o c:Nat) (w:World) (Q:Exit→Act→World→Prop)
  (hfr:GL fr s2 s3 s6 (.slice (some ⟨bh,0,none⟩) 8 8) s8 s9 (.slice (some ⟨b,o,none⟩) 8 c) (.int .i64 8) (.int .i64 0))
  (hne:b≠bh) (hv:ZC w b o 8) (hh:H8 w bh)
  (hQ:∀(fr':Act) (w':World),jw fr' s2 s3 s6 (.slice (some ⟨bh,0,none⟩) 8 8) s8 s9 (.slice (some ⟨b,o,none⟩) 8 c)→H8 w' bh→Fr (·=bh) w w'→Q (.exit 12) fr' w'):
  Code.wp Tryz.prog (.loop (l7 Tryz.f217.body 6)) Q fr w:=by
 refine wp_loop_ghost (fun n a w'=>∃(i:Nat),i+n=8∧GL a s2 s3 s6 (.slice (some ⟨bh,0,none⟩) 8 8) s8 s9 (.slice (some ⟨b,o,none⟩) 8 c) (.int .i64 8) (.int .i64 (i:Int))∧
  H8 w' bh∧Fr (·=bh) w w') 8 ⟨0,rfl,hfr,hh,Fr.refl _ _⟩ ?_
 rintro n a w1 ⟨i,hin,zk,hh1,hf1⟩
 by_cases hi:i<8
 ·refine NS a s2 s3 s6 s8 s9 bh b o c i w1 _ zk hi (hv.fr hf1 hne) hh1 ?_
  intro fr' w2 hfr2 hh2 hf2
  exact⟨n-1,by omega,i+1,by omega,hfr2,hh2,hf1.trans hf2 (fun _ _ h=>h)⟩
 ·obtain rfl:i=8:=by omega
  exact NR a _ _ _ _ _ _ _ w1 _ zk (fun fr' h=>hQ fr' _ h hh1 hf1)
theorem NT (fr:Act) (s2 s9 pO:Value) (bh ba oa N cap b6 o6 c6 a:Nat) (all:List UInt8) (w:World) (Q:Exit→Act→World→Prop)
  (hfr:jw fr s2 (.slice (some ⟨ba,oa,none⟩) N cap) (.slice (some ⟨b6,o6,none⟩) 64 c6) (.slice (some ⟨bh,0,none⟩) 8 8) (.int .i64 (a:Int)) s9 pO)
  (ha:a+64≤N) (hN:N≤549755814400) (hc:∀k,k<N→w.cell? ⟨ba,oa+k,none⟩=some (.int .u8 ((all.getD k 0).toNat:Int)))
  (hk:ZC w b6 o6 64) (hh:H8 w bh)
  (hQ:∀(fr':Act) (w':World) (s9 pO:Value),jw fr' s2 (.slice (some ⟨ba,oa,none⟩) N cap) (.slice (some ⟨b6,o6,none⟩) 64 c6) (.slice (some ⟨bh,0,none⟩) 8 8) (.int .i64 ((a:Int)+64)) s9 pO→
   H8 w' bh→Fr (·=bh) w w'→Q .normal fr' w'):
  Code.wp Tryz.prog (l7 Tryz.f217.body 2) Q fr w:=by
 have HQ:=Hj hQ
 have Hc:=Hj hc
 have Hk:=Hj hk
 have Hh:=Hj hh
 clear hQ hc hk hh
 unfold jw at hfr
 generalize Act.slot fr=f at*
 subst hfr
 unfold FR
 conv=>arg 2;whnf
 have hlt:(a:Int)<(N:Int):=by omega
 have HN:=Hj hN
 have Ha:=Hj ha
 clear ha hN
 go_wp2_with fail
 refine refA _ s2 (.slice (some ⟨b6,o6,none⟩) 64 c6) (.slice (some ⟨bh,0,none⟩) 8 8) pO ba oa N cap a all w _ rfl rfl Ha.out HN.out Hc.out ?_
 intro Xt w1 A1 c1 zk hown1 eP
 have Ce:=Hj hown1
 have qB:=Hj eP
 clear hown1 eP
 unfold jw at zk
 generalize Act.slot Xt=f1 at*
 subst zk
 unfold FR
 go_wp2_with fail
 refine refB _ s2 _ (.slice (some ⟨b6,o6,none⟩) 64 c6) (.slice (some ⟨bh,0,none⟩) 8 8) (.int .i64 (a:Int)) pO A1 c1 w.heap.size w1 _ rfl rfl qB.out.size Ce.out ?_
 intro fr2 w2 A2 c2 hfr2 hown2 LZ
 obtain⟨b9,o9,e9,-,Uu⟩:=hown2.cells (by decide)
 subst e9
 have VN:=Hj (qB.out.trans LZ)
 have Hw9:=Hj (show ZC w2 b9 o9 64 from Uu)
 clear hown2 LZ Uu Ce qB
 have hh2:=Hh.out.keep (VN.out.block bh Hh.out.lt)
 obtain⟨l2,hl2,hrow2⟩:=hh2
 have Hsrc:=fun o=>Hj (Src.ofz (c:=8) hl2 ((Below.heap_alloc w2 o bh (Cq hrow2)).trans hrow2))
 have Hlit:=Hj (OZ.lit w2 w2.heap.size Kv [] 0 rfl (by decide))
 clear hrow2 hl2
 unfold jw at hfr2
 generalize Act.slot fr2=f2 at*
 subst hfr2
 unfold FR
 go_wp2_with (first
  | (at_builtin;(refine wpList_plain rfl fun _ hK=>wJ (.tmp 155) (.tmp 156) 263 rfl Hlit.out rfl (Hsrc _).out rfl (by omega) (by simp) fun A3 c3 w3 hown3 FK=>hK _ _ ?_))
  | fail)
 have pG:Bw w2 w3:=zh ((aj _ w2).alloc Kv _) FK Hlit.out Kv (by simp)
 obtain⟨b3,o3,e3,hb3,hc3⟩:=hown3.cells (by decide)
 subst e3
 have Zi:=Hj (VN.out.trans (pG.mono VN.out.size))
 have Hk3:=Hj (Kz pG)
 have Hc3:=Hj (show ZC w3 b3 o3 8 from hc3)
 have Hb3:=Hj hb3
 have Hz3:=Hj pG.size
 clear hown3 FK pG hc3 hb3
 refine refC _ s2 _ (.slice (some ⟨bh,0,none⟩) 8 8) (.int .i64 (a:Int)) w2.heap.size b6 o6 c6 b9 o9 c2 b3 o3 c3 w3 _ Hz3.out Hb3.out ⟨rfl,rfl⟩ (Hk.out.keep (Kz Zi.out)) (Hw9.out.keep Hk3.out) Hc3.out ?_
 intro fr4 w4 b4 o4 c4 hfr4 hv4 Ci hb4
 have Hv4:=Hj hv4
 have Hbw4:=Hj (Zi.out.trans (Ci.mono Zi.out.size))
 have Lj:=Hj (show b4≠bh by have:=VN.out.size;have:=Hh.out.lt;omega)
 clear hv4 Ci hb4
 unfold jw at hfr4
 generalize Act.slot fr4=f4 at*
 subst hfr4
 unfold FR
 go_wp2_with fail
 refine refD _ s2 _ (.slice (some ⟨b6,o6,none⟩) 64 c6) (.int .i64 (a:Int)) _ bh b4 o4 c4 w4 _ ⟨rfl,rfl,rfl⟩ Lj.out Hv4.out (Hh.out.keep (Hbw4.out.block bh Hh.out.lt)) ?_
 intro fr5 w5 hfr5 hh5 hf5
 have Hh5:=Hj hh5
 have Hf5:=Hj ((Fr.of_below (S:=(·=bh)) Hbw4.out).trans hf5 (fun _ _ h=>h))
 clear hh5 hf5
 unfold jw at hfr5
 generalize Act.slot fr5=f5 at*
 subst hfr5
 unfold FR
 have hov:(a:Int)+64≤549755814400:=by have:=HN.out;have:=Ha.out;omega
 go_wp2_with fail
 exact HQ.out _ _ _ _ rfl Hh5.out Hf5.out
theorem NU (fr:Act) (s2 s6 s7 s9 pO:Value) (A:Option Addr) (N cap a:Nat) (w:World) (Q:Exit→Act→World→Prop)
  (hfr:jw fr s2 (.slice A N cap) s6 s7 (.int .i64 (a:Int)) s9 pO) (ha:N≤a)
  (hQ:∀(fr':Act),jw fr' s2 (.slice A N cap) s6 s7 (.int .i64 (a:Int)) s9 pO→Q (.exit 4) fr' w):
  Code.wp Tryz.prog (l7 Tryz.f217.body 2) Q fr w:=by
 have HQ:=Hj hQ
 clear hQ
 unfold jw at hfr
 generalize Act.slot fr=f at*
 subst hfr
 unfold FR
 conv=>arg 2;whnf
 have hlt:¬(a:Int)<(N:Int):=by omega
 go_wp2
 exact HQ.out _ rfl
theorem refE (fr:Act) (s2 s9 pO:Value) (bh ba oa N M cap b6 o6 c6:Nat) (all:List UInt8) (w:World) (Q:Exit→Act→World→Prop)
  (hfr:jw fr s2 (.slice (some ⟨ba,oa,none⟩) N cap) (.slice (some ⟨b6,o6,none⟩) 64 c6) (.slice (some ⟨bh,0,none⟩) 8 8) (.int .i64 0) s9 pO)
  (hM:N=64*M) (hN:N≤549755814400) (hc:∀k,k<N→w.cell? ⟨ba,oa+k,none⟩=some (.int .u8 ((all.getD k 0).toNat:Int)))
  (hk:ZC w b6 o6 64) (hba:ba≠bh) (hb6:b6≠bh) (hh:H8 w bh)
  (hQ:∀(fr':Act) (w':World) (s8 s9 pO:Value),jw fr' s2 (.slice (some ⟨ba,oa,none⟩) N cap) (.slice (some ⟨b6,o6,none⟩) 64 c6) (.slice (some ⟨bh,0,none⟩) 8 8) s8 s9 pO→
   H8 w' bh→Fr (·=bh) w w'→Q (.exit 4) fr' w'):
  Code.wp Tryz.prog (.loop (l7 Tryz.f217.body 2)) Q fr w:=by
 refine wp_loop_ghost (fun n a w'=>∃(m:Nat) (s9 pO:Value),m+n=M∧jw a s2 (.slice (some ⟨ba,oa,none⟩) N cap) (.slice (some ⟨b6,o6,none⟩) 64 c6) (.slice (some ⟨bh,0,none⟩) 8 8) (.int .i64 ((64*m:Nat):Int)) s9 pO∧
  H8 w' bh∧Fr (·=bh) w w') M ⟨0,s9,pO,by omega,hfr,hh,Fr.refl _ _⟩ ?_
 rintro n a w1 ⟨m,t9,t17,hin,zk,hh1,hf1⟩
 by_cases hm:m<M
 ·refine NT a s2 t9 t17 bh ba oa N cap b6 o6 c6 (64*m) all w1 _ zk (by omega) hN (fun k hk'=> ?_) (hk.fr hf1 hb6) hh1 ?_
  ·exact (hf1.cell (p:=⟨ba,oa+k,none⟩) (iP w _ (hc k hk')) hba).trans (hc k hk')
  ·intro fr' w2 u9 u17 hfr2 hh2 hf2
   refine⟨n-1,by omega,m+1,u9,u17,by omega,?_,hh2,hf1.trans hf2 (fun _ _ h=>h)⟩
   rw[show (((64*(m+1):Nat)):Int)=((64*m:Nat):Int)+64 by omega]
   exact hfr2
 ·exact NU a _ _ _ _ _ _ _ _ _ w1 _ zk (by omega) (fun fr' h=>hQ fr' _ _ _ _ h hh1 hf1)
/-- A frame of that many slots. -/
def ou (a:Act):Prop:=a=FR (Act.slot a) (Act.slot a 2) (Act.slot a 3) (Act.slot a 6) (Act.slot a 7) (Act.slot a 8) (Act.slot a 9) (Act.slot a 17)
/-- A block of 32 bytes. -/
def Uw (w:World) (g:Nat):Prop:=∃l:List UInt8,l.length=32∧w.heap[g]?=some (.cells (ay l).toArray 297 (0,0))
theorem NV (fr:Act) (go i k:Nat) (x:Int) (w:World) (Q:Exit→Act→World→Prop)
  (hfr:ou fr) (yM:Act.slot fr 24=pt go) (h25:Act.slot fr 25=.int .i64 (i:Int)) (Zj:Act.slot fr 26=.int .i64 x) (h27:Act.slot fr 27=.int .i64 (k:Int))
  (hi:i<8) (hk:k<4) (hh:Uw w go)
  (hQ:∀(fr':Act) (w':World),ou fr'→Act.slot fr' 2=Act.slot fr 2→Act.slot fr' 24=pt go→Act.slot fr' 25=.int .i64 (i:Int)→Act.slot fr' 26=.int .i64 x→Act.slot fr' 27=.int .i64 ((k:Int)+1)→
   Act.slot fr' 296=Act.slot fr 296→Act.slot fr' 297=Act.slot fr 297→Act.slot fr' 298=Act.slot fr 298→Uw w' go→Fr (·=go) w w'→Q .normal fr' w'):
  Code.wp Tryz.prog (l7 Tryz.f217.body 8) Q fr w:=by
 obtain⟨l,hl,hrow⟩:=hh
 have HQ:=Hj hQ
 have HR:=Hj hrow
 have HL:=Hj hl
 have f0:w.frozen? ⟨go,4*i+k,none⟩=false:=Kj hrow
 have c0:(w.cell? ⟨go,4*i+k,none⟩)=some (.int .u8 ((l.getD (4*i+k) 0).toNat:Int)):=by
  rw[bT _ _ _ _ _ _ hrow,List.getElem?_toArray]
  exact lS (by omega)
 clear hQ hrow hl
 generalize (Value.int IntKind.u8 ((l.getD (4*i+k) 0).toNat:Int))=v0 at*
 unfold ou at hfr
 generalize Act.slot fr=f at*
 subst hfr
 unfold FR
 rw[yM,h25,Zj,h27]
 conv=>arg 2;whnf
 clear yM h25 Zj h27
 have i0:(0:Int)≤4*(i:Int)+(k:Int):=by omega
 have i1:4*(i:Int)+(k:Int)<32:=by omega
 have n0:(0:Int)≤24-8*(k:Int):=by omega
 have n1:24-8*(k:Int)<64:=by omega
 go_wp2
 refine HQ.out _ _ rfl rfl rfl rfl rfl rfl rfl rfl rfl ?_ ((Fr.refl (·=go) w).setCell (p:=⟨go,4*i+k,none⟩) (fun _=>rfl) _)
 obtain⟨u,hu⟩:=RU (x / 2 ^ (24-8*k))
 refine⟨l.set (4*i+k) u,by rw[List.length_set];exact HL.out,?_⟩
 refine(aI _ _ _ _ _ _ HR.out).trans ?_
 rw[hu,List.setIfInBounds_toArray]
 simp[ay,List.map_set]
theorem NW (fr:Act) (w:World) (Q:Exit→Act→World→Prop)
  (hfr:ou fr) (h27:Act.slot fr 27=.int .i64 (4:Nat))
  (hQ:∀(fr':Act),ou fr'→Act.slot fr' 2=Act.slot fr 2→Act.slot fr' 24=Act.slot fr 24→
   Act.slot fr' 296=Act.slot fr 296→Act.slot fr' 297=Act.slot fr 297→Act.slot fr' 298=Act.slot fr 298→Q (.exit 16) fr' w):
  Code.wp Tryz.prog (l7 Tryz.f217.body 8) Q fr w:=by
 have HQ:=Hj hQ
 clear hQ
 unfold ou at hfr
 generalize Act.slot fr=f at*
 subst hfr
 unfold FR
 rw[h27]
 conv=>arg 2;whnf
 clear h27
 go_wp2
 exact HQ.out _ rfl rfl rfl rfl rfl rfl
theorem refG (fr:Act) (go i:Nat) (x:Int) (w:World) (Q:Exit→Act→World→Prop) (s2 Zk Zl Zm:Value)
  (hfr:ou fr) (h2:Act.slot fr 2=s2) (yM:Act.slot fr 24=pt go) (h25:Act.slot fr 25=.int .i64 (i:Int)) (Zj:Act.slot fr 26=.int .i64 x) (h27:Act.slot fr 27=.int .i64 0)
  (NY:Act.slot fr 296=Zk) (En:Act.slot fr 297=Zl) (Eo:Act.slot fr 298=Zm)
  (hi:i<8) (hh:Uw w go)
  (hQ:∀(fr':Act) (w':World),ou fr'→Act.slot fr' 2=s2→Act.slot fr' 24=pt go→Act.slot fr' 296=Zk→Act.slot fr' 297=Zl→Act.slot fr' 298=Zm→
   Uw w' go→Fr (·=go) w w'→Q (.exit 16) fr' w'):
  Code.wp Tryz.prog (.loop (l7 Tryz.f217.body 8)) Q fr w:=by
 refine wp_loop_ghost (fun n a w'=>∃(k:Nat),k+n=4∧ou a∧Act.slot a 2=s2∧Act.slot a 24=pt go∧Act.slot a 25=.int .i64 (i:Int)∧Act.slot a 26=.int .i64 x∧Act.slot a 27=.int .i64 (k:Int)∧
  Act.slot a 296=Zk∧Act.slot a 297=Zl∧Act.slot a 298=Zm∧Uw w' go∧Fr (·=go) w w') 4
  ⟨0,rfl,hfr,h2,yM,h25,Zj,h27,NY,En,Eo,hh,Fr.refl _ _⟩ ?_
 rintro n a w1 ⟨k,hkn,a0,a2,a24,a25,a26,a27,VO,RY,RZ,hr1,hf1⟩
 by_cases hk:k<4
 ·refine NV a go i k x w1 _ a0 a24 a25 a26 a27 hi hk hr1 ?_
  intro fr' w2 b0 b2 Jt b25 b26 b27 GN GR GU hr2 hf2
  exact⟨n-1,by omega,k+1,by omega,b0,b2.trans a2,Jt,b25,b26,b27,GN.trans VO,GR.trans RY,GU.trans RZ,hr2,hf1.trans hf2 (fun _ _ h=>h)⟩
 ·obtain rfl:k=4:=by omega
  exact NW a w1 _ a0 a27 (fun fr' b0 b2 Jt GN GR GU=>hQ fr' w1 b0 (b2.trans a2) (Jt.trans a24) (GN.trans VO) (GR.trans RY) (GU.trans RZ) hr1 hf1)
theorem NZ (fr:Act) (go bh i:Nat) (w:World) (Q:Exit→Act→World→Prop) (s2:Value)
  (hfr:ou fr) (h2:Act.slot fr 2=s2) (yM:Act.slot fr 24=pt go)
  (NY:Act.slot fr 296=.slice (some ⟨bh,0,none⟩) 8 8) (En:Act.slot fr 297=.int .i64 8) (Eo:Act.slot fr 298=.int .i64 (i:Int))
  (hi:i<8) (hh:H8 w bh) (hrow:Uw w go)
  (hQ:∀(fr':Act) (w':World),ou fr'→Act.slot fr' 2=s2→Act.slot fr' 24=pt go→Act.slot fr' 296=.slice (some ⟨bh,0,none⟩) 8 8→Act.slot fr' 297=.int .i64 8→Act.slot fr' 298=.int .i64 ((i:Int)+1)→
   Uw w' go→Fr (·=go) w w'→Q .normal fr' w'):
  Code.wp Tryz.prog (l7 Tryz.f217.body 7) Q fr w:=by
 have HQ:=Hj hQ
 have HR:=Hj hrow
 obtain⟨x,hh⟩:=hh.zc i hi
 rw[dV] at hh
 clear hQ hrow
 unfold ou at hfr
 generalize Act.slot fr=f at*
 subst hfr
 unfold FR
 rw[h2,yM,NY,En,Eo]
 conv=>arg 2;whnf
 clear h2 yM NY En Eo
 have i0:(0:Int)≤(i:Int):=by omega
 have i1:(i:Int)<8:=by omega
 go_wp2_with fail
 refine refG _ go i x w _ s2 (.slice (some ⟨bh,0,none⟩) 8 8) (.int .i64 8) (.int .i64 (i:Int)) rfl rfl rfl rfl rfl rfl rfl rfl rfl hi HR.out ?_
 intro Xt w1 b0 b2 Jt GN GR GU hr1 hf1
 have Hr1:=Hj hr1
 have Hf1:=Hj hf1
 clear hr1 hf1
 unfold ou at b0
 generalize Act.slot Xt=f1 at*
 subst b0
 unfold FR
 rw[b2,Jt,GN,GR,GU]
 clear b2 Jt GN GR GU
 go_wp2_with fail
 exact HQ.out _ _ rfl rfl rfl rfl rfl rfl Hr1.out Hf1.out
theorem N8 (fr:Act) (w:World) (Q:Exit→Act→World→Prop)
  (hfr:ou fr) (En:Act.slot fr 297=.int .i64 8) (Eo:Act.slot fr 298=.int .i64 (8:Nat))
  (hQ:∀(fr':Act),ou fr'→Act.slot fr' 2=Act.slot fr 2→Act.slot fr' 24=Act.slot fr 24→Q (.exit 14) fr' w):
  Code.wp Tryz.prog (l7 Tryz.f217.body 7) Q fr w:=by
 have HQ:=Hj hQ
 clear hQ
 unfold ou at hfr
 generalize Act.slot fr=f at*
 subst hfr
 unfold FR
 rw[En,Eo]
 conv=>arg 2;whnf
 clear En Eo
 go_wp2
 exact HQ.out _ rfl rfl rfl
theorem refH (fr:Act) (go bh:Nat) (w:World) (Q:Exit→Act→World→Prop) (s2:Value)
  (hfr:ou fr) (h2:Act.slot fr 2=s2) (yM:Act.slot fr 24=pt go)
  (NY:Act.slot fr 296=.slice (some ⟨bh,0,none⟩) 8 8) (En:Act.slot fr 297=.int .i64 8) (Eo:Act.slot fr 298=.int .i64 0)
  (hne:bh≠go) (hh:H8 w bh) (hrow:Uw w go)
  (hQ:∀(fr':Act) (w':World),ou fr'→Act.slot fr' 2=s2→Act.slot fr' 24=pt go→Uw w' go→Fr (·=go) w w'→Q (.exit 14) fr' w'):
  Code.wp Tryz.prog (.loop (l7 Tryz.f217.body 7)) Q fr w:=by
 refine wp_loop_ghost (fun n a w'=>∃(i:Nat),i+n=8∧ou a∧Act.slot a 2=s2∧Act.slot a 24=pt go∧Act.slot a 296=.slice (some ⟨bh,0,none⟩) 8 8∧Act.slot a 297=.int .i64 8∧Act.slot a 298=.int .i64 (i:Int)∧
  Uw w' go∧Fr (·=go) w w') 8 ⟨0,rfl,hfr,h2,yM,NY,En,Eo,hrow,Fr.refl _ _⟩ ?_
 rintro n a w1 ⟨i,hin,a0,a2,a24,VO,RY,RZ,hr1,hf1⟩
 by_cases hi:i<8
 ·refine NZ a go bh i w1 _ s2 a0 a2 a24 VO RY RZ hi (hh.keep (hf1.block bh hh.lt hne)) hr1 ?_
  intro fr' w2 b0 b2 Jt GN GR GU hr2 hf2
  exact⟨n-1,by omega,i+1,by omega,b0,b2,Jt,GN,GR,GU,hr2,hf1.trans hf2 (fun _ _ h=>h)⟩
 ·obtain rfl:i=8:=by omega
  exact N8 a w1 _ a0 RY RZ (fun fr' b0 b2 Jt=>hQ fr' w1 b0 (b2.trans a2) (Jt.trans a24) hr1 hf1)
/-- How many zeros stand behind n bytes and the mark. -/
def kR (n:Nat):Nat:=(64-(n+9) % 64) % 64
theorem Cj (r j:Nat) (hj:j≤kR r):((((r:Int)+1+(j:Int))) % 64 !=56)=decide (j<kR r):=by
 unfold kR at*
 by_cases h:j<(64-(r+9) % 64) % 64
 ·rw [aZ h]
  simp
  omega
 ·rw [aQ h]
  simp
  omega
theorem N9 (fr:Act) (A:Option Addr) (cap B n j:Nat) (w:World) (Q:Exit→Act→World→Prop)
  (hfr:ou fr) (h3:Act.slot fr 3=.slice A (n+1+j) cap) (hn:n≤549755813888) (hj:j<kR n) (hB:B≤w.heap.size)
  (hown:LB w B (.slice A (n+1+j) cap) (n+1+j))
  (hQ:∀(fr':Act) (w':World) (A:Option Addr) (cap:Nat),ou fr'→Act.slot fr' 0=Act.slot fr 0→Act.slot fr' 2=Act.slot fr 2→Act.slot fr' 3=.slice A (n+1+(j+1)) cap→
   LB w' B (.slice A (n+1+(j+1)) cap) (n+1+(j+1))→Below B w w'→Q .normal fr' w'):
  Code.wp Tryz.prog (l7 Tryz.f217.body 0) Q fr w:=by
 have HQ:=Hj hQ
 obtain⟨l,hl,hown⟩:=hown
 have dS:=Hj hown
 have Hl:=Hj hl
 have HB:=Hj hB
 clear hQ hown hl hB
 have ht:((((n:Int)+1+(j:Int))) % 64 !=56)=true:=by rw[Cj n j (Nat.le_of_lt hj)];exact aZ hj
 have hp:kR n≤64:=by unfold kR;omega
 unfold ou at hfr
 generalize Act.slot fr=f at*
 subst hfr
 unfold FR
 rw[h3]
 conv=>arg 2;whnf
 clear h3
 go_wp2_with (first
  | (at_builtin;(refine aN rfl (.tmp 38) (.tmp 39) 35 rfl (OB.alloc dS.out _) rfl (Src.lit w _ [0] rfl 1 1 rfl) rfl ?_ ?_ ?_;rotate_right;intro v4 w4 hown4 hgr4 hat4;obtain⟨A4,cap4,hv4,hc4,hm4,hr4⟩:=hown4.form;rw[show (l++[(0:UInt8)]).length=n+1+(j+1) by rw[bP,Hl.out];rfl] at hv4;subst hv4))
  | fail)
 case refine_1=>have:=Hl.out;simp;omega
 case refine_2=>have:=HB.out;simp;omega
 exact HQ.out _ _ A4 cap4 rfl rfl rfl rfl ⟨_,by rw[bP,Hl.out];rfl,hown4⟩ (bD ((aj _ w).alloc HB.out _) hgr4 (dS.out.alloc _) Kv (by have:=HB.out;simp;omega))
theorem Oa (fr:Act) (A:Option Addr) (cap n:Nat) (w:World) (Q:Exit→Act→World→Prop)
  (hfr:ou fr) (h3:Act.slot fr 3=.slice A (n+1+kR n) cap) (hn:n≤549755813888)
  (hQ:∀(fr':Act),ou fr'→Act.slot fr' 0=Act.slot fr 0→Act.slot fr' 2=Act.slot fr 2→Act.slot fr' 3=.slice A (n+1+kR n) cap→Q (.exit 0) fr' w):
  Code.wp Tryz.prog (l7 Tryz.f217.body 0) Q fr w:=by
 have HQ:=Hj hQ
 clear hQ
 have ht:((((n:Int)+1+(kR n:Int))) % 64 !=56)=false:=by rw[Cj n (kR n) (by omega)];exact aQ (by omega)
 have hp:kR n≤64:=by unfold kR;omega
 generalize kR n=p at*
 unfold ou at hfr
 generalize Act.slot fr=f at*
 subst hfr
 unfold FR
 rw[h3]
 conv=>arg 2;whnf
 clear h3
 go_wp2
 exact HQ.out _ rfl rfl rfl rfl
theorem refP (fr:Act) (A:Option Addr) (cap B n:Nat) (w:World) (Q:Exit→Act→World→Prop) (s0 s2:Value)
  (hfr:ou fr) (h0:Act.slot fr 0=s0) (h2:Act.slot fr 2=s2) (h3:Act.slot fr 3=.slice A (n+1) cap) (hn:n≤549755813888) (hB:B≤w.heap.size)
  (hown:LB w B (.slice A (n+1) cap) (n+1))
  (hQ:∀(fr':Act) (w':World) (A:Option Addr) (cap:Nat),ou fr'→Act.slot fr' 0=s0→Act.slot fr' 2=s2→Act.slot fr' 3=.slice A (n+1+kR n) cap→
   LB w' B (.slice A (n+1+kR n) cap) (n+1+kR n)→Below B w w'→Q (.exit 0) fr' w'):
  Code.wp Tryz.prog (.loop (l7 Tryz.f217.body 0)) Q fr w:=by
 refine wp_loop_ghost (fun m a w'=>∃(j:Nat) (A:Option Addr) (cap:Nat),j+m=kR n∧ou a∧Act.slot a 0=s0∧Act.slot a 2=s2∧Act.slot a 3=.slice A (n+1+j) cap∧
  LB w' B (.slice A (n+1+j) cap) (n+1+j)∧Below B w w') (kR n) ⟨0,A,cap,by omega,hfr,h0,h2,h3,hown,aj _ _⟩ ?_
 rintro m a w1 ⟨j,A,cap,hj,a0,a1,a2,a3,ho,hb⟩
 by_cases hlt:j<kR n
 ·refine N9 a A cap B n j w1 _ a0 a3 hn hlt (Cz hB hb.size) ho ?_
  intro fr' w2 A' cap' b0 b1 b2 b3 ho2 hb2
  exact⟨m-1,by omega,j+1,A',cap',by omega,b0,b1.trans a1,b2.trans a2,b3,ho2,hb.trans hb2⟩
 ·have hj':j=kR n:=by omega
  rw[hj'] at a3 ho
  exact Oa a A cap n w1 _ a0 a3 hn (fun fr' b0 b1 b2 b3=>hQ fr' w1 A cap b0 (b1.trans a1) (b2.trans a2) b3 ho hb)
theorem Ob (fr:Act) (A:Option Addr) (cap B M i:Nat) (z:Int) (w:World) (Q:Exit→Act→World→Prop)
  (hfr:ou fr) (h3:Act.slot fr 3=.slice A (M+i) cap) (h4:Act.slot fr 4=.int .i64 z) (h5:Act.slot fr 5=.int .i64 (7-(i:Int))) (hn:M≤559755813888) (hi:i<8) (hB:B≤w.heap.size)
  (hown:LB w B (.slice A (M+i) cap) (M+i))
  (hQ:∀(fr':Act) (w':World) (A:Option Addr) (cap:Nat),ou fr'→Act.slot fr' 2=Act.slot fr 2→Act.slot fr' 3=.slice A (M+(i+1)) cap→Act.slot fr' 4=.int .i64 z→Act.slot fr' 5=.int .i64 (7-(i:Int)-1)→
   LB w' B (.slice A (M+(i+1)) cap) (M+(i+1))→Below B w w'→Q .normal fr' w'):
  Code.wp Tryz.prog (l7 Tryz.f217.body 1) Q fr w:=by
 have HQ:=Hj hQ
 obtain⟨l,hl,hown⟩:=hown
 have dS:=Hj hown
 have Hl:=Hj hl
 have HB:=Hj hB
 clear hQ hown hl hB
 have m0:(0:Int)≤7-(i:Int):=by omega
 have m2:IntKind.i64.wrap (8*(7-(i:Int)))=8*(7-(i:Int)):=cO _ (by omega)
 have n0:(0:Int)≤8*(7-(i:Int)):=by omega
 have n1:8*(7-(i:Int))<64:=by omega
 obtain⟨u,hu⟩:=RU (z / 2 ^ (8*(7-i)))
 have Hu:=Hj hu
 clear hu
 unfold ou at hfr
 generalize Act.slot fr=f at*
 subst hfr
 unfold FR
 rw[h3,h4,h5]
 conv=>arg 2;whnf
 clear h3 h4 h5
 go_wp2_with (first
  | (at_builtin;(refine aN rfl (.tmp 48) (.tmp 55) 35 rfl (OB.alloc dS.out _) rfl (Src.lit w _ [u] ?_ 1 1 rfl) rfl ?_ ?_ ?_;rotate_right;intro v2 w2 hown2 dQ jZ;obtain⟨A2,cap2,hv2,hc2,hm2,hr2⟩:=hown2.form;rw[show (l++[u]).length=M+(i+1) by rw[bP,Hl.out];rfl] at hv2;subst hv2))
  | fail)
 case refine_1=>rw[Hu.out];rfl
 case refine_2=>have:=Hl.out;simp;omega
 case refine_3=>have:=HB.out;simp;omega
 exact HQ.out _ _ A2 cap2 rfl rfl rfl rfl rfl ⟨_,by rw[bP,Hl.out];rfl,hown2⟩ (bD ((aj _ w).alloc HB.out _) dQ (dS.out.alloc _) Kv (by have:=HB.out;simp;omega))
theorem Oc (fr:Act) (w:World) (Q:Exit→Act→World→Prop)
  (hfr:ou fr) (h5:Act.slot fr 5=.int .i64 (7-((8:Nat):Int)))
  (hQ:∀(fr':Act),ou fr'→Act.slot fr' 2=Act.slot fr 2→Act.slot fr' 3=Act.slot fr 3→Q (.exit 2) fr' w):
  Code.wp Tryz.prog (l7 Tryz.f217.body 1) Q fr w:=by
 have HQ:=Hj hQ
 clear hQ
 unfold ou at hfr
 generalize Act.slot fr=f at*
 subst hfr
 unfold FR
 rw[h5]
 conv=>arg 2;whnf
 clear h5
 go_wp2
 exact HQ.out _ rfl rfl rfl
theorem refQ (fr:Act) (A:Option Addr) (cap B M:Nat) (z:Int) (w:World) (Q:Exit→Act→World→Prop) (s2:Value)
  (hfr:ou fr) (h2:Act.slot fr 2=s2) (h3:Act.slot fr 3=.slice A M cap) (h4:Act.slot fr 4=.int .i64 z) (h5:Act.slot fr 5=.int .i64 7) (hn:M≤559755813888) (hB:B≤w.heap.size)
  (hown:LB w B (.slice A M cap) M)
  (hQ:∀(fr':Act) (w':World) (A:Option Addr) (cap:Nat),ou fr'→Act.slot fr' 2=s2→Act.slot fr' 3=.slice A (M+8) cap→
   LB w' B (.slice A (M+8) cap) (M+8)→Below B w w'→Q (.exit 2) fr' w'):
  Code.wp Tryz.prog (.loop (l7 Tryz.f217.body 1)) Q fr w:=by
 refine wp_loop_ghost (fun m a w'=>∃(i:Nat) (A:Option Addr) (cap:Nat),i+m=8∧ou a∧Act.slot a 2=s2∧Act.slot a 3=.slice A (M+i) cap∧Act.slot a 4=.int .i64 z∧Act.slot a 5=.int .i64 (7-(i:Int))∧
  LB w' B (.slice A (M+i) cap) (M+i)∧Below B w w') 8 ⟨0,A,cap,rfl,hfr,h2,h3,h4,h5,hown,aj _ _⟩ ?_
 rintro m a w1 ⟨i,A,cap,hi,a0,a2,a3,a4,a5,ho,hb⟩
 by_cases hlt:i<8
 ·refine Ob a A cap B M i z w1 _ a0 a3 a4 a5 hn hlt (Cz hB hb.size) ho ?_
  intro fr' w2 A' cap' b0 b2 b3 b4 b5 ho2 hb2
  exact⟨m-1,by omega,i+1,A',cap',by omega,b0,b2.trans a2,b3,b4,by rw[b5];exact bJ (Value.int .i64) (by omega),ho2,hb.trans hb2⟩
 ·obtain rfl:i=8:=by omega
  exact Oc a w1 _ a0 a5 (fun fr' b0 b2 b3=>hQ fr' w1 A cap b0 (b2.trans a2) (b3.trans a3) ho hb)
def lJ:Array Value:=Array.replicate 32 (.int .u8 0)
theorem Rl (A:Option Addr) (n c:Nat) (l:List UInt8) (w:World) (hb:RB w A n l) (hn:n≤549755813888):
  Cl 217 #[.slice A n c] w fun e w'=>∃L:List UInt8,L.length=32∧e=.returned (.agg (ay L).toArray)∧Bw w w':=by
 have Hb:=Hj hb
 have Hl:=Hj hb.1
 clear hb
 have ka:∀o p,Keeps w ((w.alloc o).alloc p):=fun o p=>Kz (((aj _ w).alloc Kv o).alloc (by simp) p)
 have hl0:∀o,Hid (OB ((w.alloc o).alloc (.cells (ay []).toArray 5)) (w.heap.size+1) (.slice (some ⟨w.heap.size+1,0,none⟩) 0 0) []):=fun o=>by
  have:=OB.lit (w.alloc o) (w.heap.size+1) (by simp) [] 0 rfl (by decide)
  simp only[show (w.alloc o).heap.size=w.heap.size+1 by simp] at this
  exact this
 go_enter Tryz.func217,Tryz.ntmps217
 go_wp2_with (first
  | (at_builtin;(refine aN rfl (.tmp 28) (.tmp 29) 35 rfl (hl0 _).out rfl (RB.src Tryz.underlying35 (Hb.out.keep (ka _ _))) rfl (by have:=Hl.out;simp;omega) (by simp) ?_;intro v1 w1 hown1 kU Zn;rw[fP] at hown1;obtain⟨A1,cap1,hv1,hc1,hm1,hr1⟩:=hown1.form;rw[Hl.out] at hv1 hc1;subst hv1;have Ce:=Hj hown1;have Hgr1:=Hj kU;have hs1:=Hj (show w.heap.size+2≤w1.heap.size by have:=kU.size;simpa using this);clear hown1 kU Zn hr1))
  | (at_builtin;(refine aN rfl (.tmp 31) (.tmp 32) 35 rfl (Ce.out.alloc _) rfl (Src.lit w1 _ [128] rfl 1 1 rfl) rfl (by have:=Hl.out;simp;omega) (by have:=hs1.out;simp;omega) ?_;intro v2 w2 hown2 dQ jZ;obtain⟨A2,cap2,hv2,hc2,hm2,hr2⟩:=hown2.form;have Hl2:=Hj (show (l++[(128:UInt8)]).length=n+1 by rw[bP,Hl.out];rfl);rw[Hl2.out] at hv2 hc2;subst hv2;have wK:=Hj hown2;have GK:=Hj dQ;have hs2:=Hj (show w.heap.size+2≤w2.heap.size by have:=dQ.size;have:=hs1.out;simp at*;omega);clear hown2 dQ jZ hr2))
  | fail)
 have Hb2:Hid (Below (w.heap.size+1) (w.alloc (.cells lJ 297)) w2):=by
  have h1:=bD (B:=w.heap.size+1) ((aj _ _).alloc (by simp) _) Hgr1.out (hl0 _).out Kv (by simp)
  exact bD (h1.alloc (by have:=hs1.out;omega) _) GK.out (Ce.out.alloc _) Kv (by have:=hs1.out;simp;omega)
 clear Hgr1 GK Ce hl0 ka
 refine refP _ A2 cap2 (w.heap.size+1) n w2 _ (.slice A n c) (pt w.heap.size) rfl rfl rfl rfl hn (by have:=hs2.out;omega) ⟨_,Hl2.out,wK.out⟩ ?_
 intro fr3 w3 A3 cap3 b0 b00 b2 b3 hown3 pG
 have Cm:=Hj hown3
 have Hb3:=Hj (Hb2.out.trans pG)
 have Hs3:=Hj (show w.heap.size+2≤w3.heap.size by have:=pG.size;have:=hs2.out;omega)
 clear hown3 pG Hb2 hs2 wK Hl2 Hl hs1
 as_aux_lemma=>
  unfold ou at b0
  generalize Act.slot fr3=f3 at*
  subst b0
  unfold FR
  rw[b00,b2,b3]
  clear b00 b2 b3
  have h8:IntKind.i64.wrap ((n:Int)*8)=(n:Int)*8:=by rw[cO _ (by omega)]
  have HN:Hid (∃M,n+1+kR n+8=64*M∧n+1+kR n+8≤549755814400):=⟨(n+1+kR n+8) / 64,by unfold kR;omega,by unfold kR;omega⟩
  generalize n+1+kR n=N at*
  go_wp2_with fail
  obtain⟨M,hM,hN⟩:=HN.out
  refine refQ _ A3 cap3 (w.heap.size+1) N ((n:Int)*8) w3 _ (pt w.heap.size) rfl rfl rfl rfl rfl (by omega) (by have:=Hs3.out;omega) Cm.out ?_
  clear h8
  intro fr4 w4 A4 cap4 b0 b2 b3 hown4 Ci
  have Hb4:=Hj (Hb3.out.trans Ci)
  have Hs4:=Hj (show w.heap.size+2≤w4.heap.size by have:=Ci.size;have:=Hs3.out;omega)
  clear Ci Hb3 Hs3 Cm HN
  as_aux_lemma=>
   unfold ou at b0
   generalize Act.slot fr4=f4 at*
   subst b0
   unfold FR
   rw[b2,b3]
   clear b2 b3
   have HN:=Hj (show 1≤N+8∧N+8≤549755814400 from ⟨by omega,hN⟩)
   have HM:=Hj hM
   clear hM hN
   generalize N+8=N at*
   obtain⟨all,hall,hown4⟩:=hown4
   obtain⟨A5,cap5,hv5,_,_,Le⟩:=hown4.form
   rw[hall] at Le
   injection hv5 with e1 e2 e3
   subst e1
   clear e2 e3
   obtain⟨ba,oa,e5,hc5⟩:=Le.2 (by have:=HN.out.1;omega)
   subst e5
   have Hc5:=Hj hc5
   clear Le hc5 hown4 hall
   go_wp2_with (first
    | (go_at_call 253;refine(VK w4).mono ?_;rintro e w5 ⟨rfl,hown5,XI⟩;have XJ:=Hj hown5;have Si:=Hj XI;clear hown5 XI)
    | (go_at_call 254;refine(VL w5).mono ?_;rintro e w6 ⟨rfl,l6,hl6,hw6⟩;have Hw6:=Hj hw6;have Hl6:=Hj hl6;clear hw6 hl6)
    | fail)
   have VQ:Bw w5 w6:=by rw[Hw6.out];exact(aj _ w5).alloc Kv _
   have hk5:ZC w5 w4.heap.size 0 64:=by
    obtain⟨b',o',e,_,hc⟩:=XJ.out.cells (by decide)
    injection e with e
    injection e with e1 e2
    subst e1;subst e2
    exact hc
   have Sj:H8 w6 w5.heap.size:=⟨l6,Hl6.out,by rw[Hw6.out];exact aA w5 _⟩
   have hlt5:w4.heap.size<w5.heap.size:=let ⟨_,h⟩:=hk5 0 (by decide);iP w5 _ h
   have hba:ba<w4.heap.size:=iP w4 _ (Hc5.out 0 (by have:=HN.out.1;omega))
   have hb6:Below (w.heap.size+1) (w.alloc (.cells lJ 297)) w6:=
    (Hb4.out.trans (Si.out.mono (by have:=Hs4.out;omega))).trans (VQ.mono (by have:=Hs4.out;omega))
   refine refE _ _ _ _ w5.heap.size ba oa N M cap4 w4.heap.size 0 64 all w6 _ rfl HM.out HN.out.2 (fun k hk=>Kz VQ _ _ (Kz Si.out _ _ (Hc5.out k hk))) (hk5.keep (Kz VQ)) (by omega) (by omega) Sj ?_
   intro fr7 w7 t8 t9 t17 hfr7 hh7 Xj
   have Hh7:=Hj hh7
   have zY:=Hj (hb6.trans (Xj.below (B:=w.heap.size+1) (by have:=hb6.size;simp at this;omega) (fun i hi e=>by have:=Hs4.out;omega)))
   have Hs7:=Hj (show w.heap.size+2≤w7.heap.size∧w.heap.size+2≤w5.heap.size by have:=Xj.size;have:=Hs4.out;have:=Sj.lt;omega)
   clear hh7 Xj hk5 Sj hlt5 hba hb6 XJ Si Hc5 Hb4 Hs4 Hb VQ
   as_aux_lemma=>
    unfold jw at hfr7
    generalize Act.slot fr7=f7 at*
    subst hfr7
    unfold FR
    have HZ1:Hid (lJ.size=32):=by show _=_;rfl
    have HZ2:Hid (lJ.all (·.oneCell')=true):=by
     show _=true
     rw[yg]
     intro y hy
     rw[Array.eq_of_mem_replicate hy]
     rfl
    have HZ3:Hid (lJ=(ay (List.replicate 32 0)).toArray):=by show _=_;rfl
    go_wp2_with (first
     | (refine wpList_store_row rfl 297 (.tmp 24) (.tmp 295) rfl w7.heap.size lJ rfl rfl 297 _ (aA w7 _) (by rw[HZ1.out];exact jK) (by rw[HZ1.out];rfl) HZ2.out ?_)
     | fail)
    refine refH _ w7.heap.size w5.heap.size _ _ (pt w.heap.size) rfl rfl rfl rfl rfl rfl (by have:=Hh7.out.lt;omega) (Hh7.out.keep ((setRow_other _ _ _ _ (by have:=Hh7.out.lt;omega)).trans (Below.heap_alloc w7 _ _ Hh7.out.lt))) ⟨List.replicate 32 0,by simp,by rw[←HZ3.out];exact setRow_heap _ _ _ _ _ _ (aA w7 _)⟩ ?_
    intro fr8 w8 b0 b2 Jt wI Nh
    have Hz:Hid (w8.heap[w.heap.size]?=some (.cells lJ 297 (0,0))):=by
     show _=_
     have h7:=(zY.out.block w.heap.size (by omega)).trans (aA w _)
     have h7':=(Cq h7)
     exact(Nh.block _ (by simp[World.setRow];omega) (by have:=Hs7.out;omega)).trans ((setRow_other _ _ _ _ (by have:=Hs7.out;omega)).trans ((Below.heap_alloc w7 _ _ h7').trans h7))
    have Hb8:Hid (Bw w w8):=by
     have h1:Bw w w7:=((aj _ w).alloc Kv _).trans (zY.out.mono (by omega))
     have h2:=below_setRow (h1.alloc h1.size (Obj.cells lJ 297)) (g:=w7.heap.size) h1.size lJ
     exact h2.trans (Nh.below (B:=w.heap.size) (Cz h1.size (by simp[World.setRow])) (fun i hi e=>by have:=Hs7.out;omega))
    obtain⟨L,hL,wI⟩:=wI
    have sQ:=Hj wI
    have HL:=Hj hL
    clear wI Nh hL
    have uM:Hid ((ay L).toArray.size=32):=by
     show _=_
     simp[ay,HL.out]
    have HB1:Hid ((ay L).toArray.all (·.oneCell')=true):=by
     show _=true
     rw[yg]
     intro y hy
     exact fQ _ y (by simpa using hy)
    obtain⟨cur,hcur⟩:∃cur,cur=(ay L).toArray:=⟨_,rfl⟩
    rw[←hcur] at sQ uM HB1
    have mF:=Hj hcur
    clear hcur
    unfold ou at b0
    generalize Act.slot fr8=f8 at*
    subst b0
    unfold FR
    rw[b2,Jt]
    clear b2 Jt
    go_wp2_with (first
     | (refine wpList_load_row rfl 297 (.tmp 24) rfl w7.heap.size rfl 297 cur (0,0) _ sQ.out Tryz.underlying297 rfl (by rw[uM.out];exact jK) ?_)
     | (refine wpList_store_row rfl 297 (.tmp 2) (.tmp 320) rfl w.heap.size cur rfl rfl 297 _ Hz.out (by rw[uM.out];exact jK) (by rw[uM.out];rfl) HB1.out ?_)
     | fail)
    refine bg (results_cell_row rfl _ _ w.heap.size 297 cur (0,0) _ rfl (setRow_heap _ _ _ _ _ _ Hz.out) Tryz.underlying297 rfl (by rw[uM.out];exact jK)) rfl ⟨L,HL.out,by rw[mF.out],?_⟩
    have hb2:=Hb8.out
    exact⟨hb2.os,hb2.tape,hb2.output,by simpa [World.setRow] using hb2.size,fun i hi=>(setRow_other _ _ _ _ (by omega)).trans (hb2.block i hi)⟩
end Go.Proofs.YtdhbpajamlfacaaGreatDoor
