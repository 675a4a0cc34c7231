/- Words on memory that the walks share: a slice of bytes reads as a list; a slice of such slices; frames. No program in sight. -/
import Derived.WalkKit
import Derived.OrdersHeld
import Derived.Deep.RegionHeld3
import Derived.WalkLawsBesides
import Derived.WalkSpells
import Derived.Deep.QuietTactic
import Derived.BigQuiet
import Derived.Lib.Hide
import Derived.Deep.AppendSrc
import Derived.Deep.AppendLies
import Derived.Laws.BytesArg
import Derived.Test.YtdhbpajamlfacaaGreatDoorRows
namespace Go.Proofs.YtdhbpajamlfacaaGreatDoor
open Go.RowKit
@[reducible,match_pattern] def pt (g:Nat):Value:=.pointer (some ⟨g,0,none⟩)
@[reducible] def Cl:=Calls Tryz.prog
@[reducible] def Bw (w w':World):=Below w.heap.size w w'
theorem aj:type_of% @Below.refl:=@Below.refl
theorem bP:type_of% @List.length_append:=@List.length_append
theorem aX:type_of% @List.length_map:=@List.length_map
theorem aB:type_of% @And.intro:=@And.intro
theorem fJ:type_of% @List.getElem?_eq_getElem:=@List.getElem?_eq_getElem
theorem qV:type_of% @List.length_cons:=@List.length_cons
theorem nG:type_of% @List.getD_eq_getElem?_getD:=@List.getD_eq_getElem?_getD
theorem bW:type_of% @List.mem_map:=@List.mem_map
theorem bZ:type_of% @Nat.le_refl:=@Nat.le_refl
theorem fA:type_of% @List.getElem?_eq_some_iff:=@List.getElem?_eq_some_iff
theorem dK:type_of% @List.getElem?_map:=@List.getElem?_map
theorem dP:type_of% @Nat.lt_of_lt_of_le:=@Nat.lt_of_lt_of_le
theorem cO:type_of% @IntWalk.i64_in:=@IntWalk.i64_in
theorem fO:type_of% @List.take_of_length_le:=@List.take_of_length_le
theorem dI:type_of% @List.map_append:=@List.map_append
theorem eu:type_of% @List.length_take:=@List.length_take
theorem gJ:type_of% @List.mem_of_getElem?:=@List.mem_of_getElem?
theorem gK:type_of% @List.mem_cons_of_mem:=@List.mem_cons_of_mem
theorem fP:type_of% @List.nil_append:=@List.nil_append
theorem iP:type_of% @World.block_lt_of_cell?:=@World.block_lt_of_cell?
theorem bU:type_of% @Nat.zero_le:=@Nat.zero_le
theorem mO:type_of% @List.take_succ_eq_append_getElem:=@List.take_succ_eq_append_getElem
theorem bV:type_of% @Below.drew:=@Below.drew
theorem mP:type_of% @List.eq_nil_of_length_eq_zero:=@List.eq_nil_of_length_eq_zero
theorem iq:type_of% @List.mem_singleton:=@List.mem_singleton
theorem jT:type_of% @List.mem_iff_getElem?:=@List.mem_iff_getElem?
theorem dV:type_of% @Nat.zero_add:=@Nat.zero_add
theorem KD:type_of% @List.cons_append:=@List.cons_append
theorem jA:type_of% @Bool.and_eq_true:=@Bool.and_eq_true
theorem kZ:type_of% @List.length_filter_le:=@List.length_filter_le
theorem mQ:type_of% @List.append_assoc:=@List.append_assoc
theorem lu:type_of% @List.length_drop:=@List.length_drop
theorem iO:type_of% @List.mem_append:=@List.mem_append
theorem Xe:type_of% @List.length_nil:=@List.length_nil
theorem mJ:type_of% @World.news_of_block:=@World.news_of_block
theorem pY:type_of% @Array.length_toList:=@Array.length_toList
theorem jB:type_of% @List.mem_filter:=@List.mem_filter
theorem iH:type_of% @List.map_map:=@List.map_map
theorem qg:type_of% @List.map_cons:=@List.map_cons
theorem lC:type_of% @List.foldl_cons:=@List.foldl_cons
theorem tJ:type_of% @List.getElem?_append_left:=@List.getElem?_append_left
theorem fC:type_of% @List.mem_cons:=@List.mem_cons
theorem kG:type_of% @ByteArray.ext:=@ByteArray.ext
theorem pF:type_of% @Nat.eq_zero_or_pos:=@Nat.eq_zero_or_pos
theorem yg:type_of% @Array.all_eq_true_iff_forall_mem:=@Array.all_eq_true_iff_forall_mem
theorem qh:type_of% @ByteArray.toList_eq:=@ByteArray.toList_eq
theorem rE:type_of% @List.take_append_drop:=@List.take_append_drop
theorem rF:type_of% @Array.getElem?_toList:=@Array.getElem?_toList
theorem vW:type_of% @List.getElem?_append_right:=@List.getElem?_append_right
theorem aI:type_of% @heap_setCell_same:=@heap_setCell_same
theorem aA:type_of% @heap_alloc_new:=@heap_alloc_new
theorem aQ:type_of% @decide_eq_false:=@decide_eq_false
theorem aZ:type_of% @decide_eq_true:=@decide_eq_true
theorem bg:type_of% @bodyPost_ret:=@bodyPost_ret
theorem bT:type_of% @cell_of_row:=@cell_of_row
theorem eG:type_of% @results_tmp2:=@results_tmp2
theorem fM:type_of% @results_none:=@results_none
theorem gQ:type_of% @beq_eq_false_iff_ne:=@beq_eq_false_iff_ne
theorem aF:type_of% @if_pos:=@if_pos
theorem aG:type_of% @if_neg:=@if_neg
theorem bJ:type_of% @congrArg:=@congrArg
theorem lD:type_of% @decide_eq_true_iff:=@decide_eq_true_iff
theorem rG:type_of% @of_decide_eq_true:=@of_decide_eq_true
theorem vX:type_of% @of_decide_eq_false:=@of_decide_eq_false
theorem kH:type_of% @frozen_of_row:=@frozen_of_row
theorem bC {a b:Bool} (h:a=b):Ending.returned (.bool a)=.returned (.bool b):=by rw[h]
theorem tK {k:IntKind} {a b:Int} (h:a=b):Ending.returned (.int k a)=.returned (.int k b):=by rw[h]
/-- The slice header (A, n) reads as the bytes l. -/
def RB (w:World) (A:Option Addr) (n:Nat) (l:List UInt8):Prop:=
 l.length=n∧(0<n→∃b o,A=some ⟨b,o,none⟩∧∀k,k<n→w.cell? ⟨b,o+k,none⟩=some (.int .u8 (l.getD k 0).toNat))
/-- A slice value reads as the bytes l. -/
def SB (w:World) (v:Value) (l:List UInt8):Prop:=
 ∃A c,v=.slice A l.length c∧l.length≤c∧c≤maxLen∧RB w A l.length l
/-- The slice header (A, n) reads as a list of bytes' slices. -/
def EO (w:World) (A:Option Addr) (n:Nat) (ls:List (List UInt8)):Prop:=
 ls.length=n∧(0<n→∃b o,A=some ⟨b,o,none⟩∧∀k,k<n→∃v,w.cell? ⟨b,o+k,none⟩=some v∧SB w v (ls.getD k []))
/-- All cells that w has, w' has too, with the same values. -/
def Keeps (w w':World):Prop:=∀p v,w.cell? p=some v→w'.cell? p=some v
theorem Keeps.trans {a b c:World} (h:Keeps a b) (k:Keeps b c):Keeps a c:=fun p v x=>k p v (h p v x)
theorem Keeps.of_below {w w':World} (h:Bw w w'):Keeps w w':=fun p _ x=>(h.cell (iP w p x)).trans x
theorem Hj {p:Prop} (h:p):Hid p:=Lib.hid h
theorem Kz {w w':World} (h:Bw w w'):Keeps w w':=Keeps.of_below h
theorem Kq {w:World} {g:Nat} (j:Nat) {cs:Array Value} {t:TypeId} {fr:Nat×Nat} (h:w.heap[g]?=some (.cells cs t fr)):w.cell? ⟨g,j,none⟩=cs[j]?:=bT _ _ j _ _ _ h
theorem Kj {w:World} {g j:Nat} {cs:Array Value} {t:TypeId} (h:w.heap[g]?=some (.cells cs t (0,0))):w.frozen? ⟨g,j,none⟩=false:=kH _ _ _ _ _ h
theorem Kv {n:Nat}:n≤n:=bZ n
theorem Cz {a b c:Nat} (h:a≤b) (k:b≤c):a≤c:=Nat.le_trans h k
theorem Cq {α:Type} {a:Array α} {i:Nat} {x:α} (h:a[i]?=some x):i<a.size:=(Array.getElem?_eq_some_iff.1 h).1
theorem Keeps.drewN (w:World) (n:Nat):Keeps w (w.drewN n):=fun _ _ h=>h
theorem Keeps.drew (w:World):Keeps w w.drew:=fun _ _ h=>h
theorem RB.keep {w w':World} {A n l} (h:RB w A n l) (k:Keeps w w'):RB w' A n l:=
 ⟨h.1,fun hn=>let ⟨b,o,e,hc⟩:=h.2 hn;⟨b,o,e,fun i hi=>k _ _ (hc i hi)⟩⟩
theorem SB.keep {w w':World} {v l} (h:SB w v l) (k:Keeps w w'):SB w' v l:=
 let ⟨A,c,e,h1,h2,h3⟩:=h;⟨A,c,e,h1,h2,h3.keep k⟩
theorem EO.keep {w w':World} {A n ls} (h:EO w A n ls) (k:Keeps w w'):EO w' A n ls:=
 ⟨h.1,fun hn=>let ⟨b,o,e,hc⟩:=h.2 hn;⟨b,o,e,fun i hi=>let ⟨v,h1,h2⟩:=hc i hi;⟨v,k _ _ h1,h2.keep k⟩⟩⟩
theorem below_drewN {B:Nat} {a w:World} (h:Below B a w) (n:Nat):Below B a (w.drewN n):=⟨h.os,h.tape,h.output,h.size,h.block⟩
theorem RB.nil (w:World) (A:Option Addr):RB w A 0 []:=⟨rfl,fun h=>absurd h (by omega)⟩
theorem SB.nil (w:World):SB w (.slice none 0 0) []:=⟨none,0,rfl,bZ _,by unfold maxLen;omega,RB.nil _ _⟩
theorem SB.tN {w:World} {A n c l} (h:RB w A n l) (hc:n≤c) (hm:c≤maxLen):SB w (.slice A n c) l:=by
 obtain⟨rfl,h2⟩:=h
 exact⟨A,c,rfl,hc,hm,rfl,h2⟩
/-- The cells of bytes. -/
def ay (l:List UInt8):List Value:=l.map fun b=>Value.int .u8 b.toNat
theorem aV (l:List UInt8):(ay l).length=l.length:=by simp[ay]
theorem iQ (l r:List UInt8):ay (l++r)=ay l++ay r:=by simp[ay]
theorem fQ (l:List UInt8):∀u∈ay l,u.oneCell'=true:=by
 intro u hu
 obtain⟨_,_,rfl⟩:=bW.1 hu
 rfl
theorem lS {l:List UInt8} {k:Nat} (h:k<l.length):(ay l)[k]?=some (.int .u8 (l.getD k 0).toNat):=by
 simp[ay,h]
theorem addr_add (b o k:Nat):(⟨b,o,none⟩:Addr).add k=⟨b,o+k,none⟩:=by unfold Addr.add;split<;>simp_all
theorem RB.news {w:World} {b o n:Nat} {l:List UInt8} (hl:l.length=n) (h:∀k,k<n→w.cell? ⟨b,o+k,none⟩=some (.int .u8 (l.getD k 0).toNat)):
  ∀j u,(ay l)[j]?=some u→w.cell? ((⟨b,o,none⟩:Addr).add j)=some u:=by
 intro j u hu
 have hj:j<l.length:=by
  rcases Nat.lt_or_ge j l.length with h' | h'
  ·exact h'
  ·rw [List.getElem?_eq_none (by rw[aV];exact h')] at hu;cases hu
 rw[addr_add,h j (by omega),←hu,lS hj]
/-- What an append's second argument yields: a slice that reads as bytes. -/
theorem RB.src {P:Program} {w:World} {tx e':TypeId} (hk:P.underlying tx=some (.slice e')) {A:Option Addr} {n c:Nat} {l:List UInt8} (h:RB w A n l):
  Src P 1 tx (.slice A n c) n (ay l) w:=by
 rcases pF n with h0 | h0
 ·subst h0
  have:l=[]:=mP h.1
  subst this
  cases A with
  | none=>exact Src.ofNil w hk c
  | some a=>exact Src.ofSlice w hk a 0 c [] (by simp) (by simp) (by simp)
 ·obtain ⟨b,o,rfl,hc⟩:=h.2 h0
  exact Src.ofSlice w hk _ n c (ay l) (by rw[aV,h.1,Nat.mul_one]) (RB.news h.1 hc) (fQ l)
/-- A row of the call's own reads as bytes. -/
theorem RB.rW {w:World} {base e n c:Nat} {A:Option Addr} {l:List UInt8} (h:w.ownsRow base e 1 (.slice A n c) n (ay l)):RB w A n l:=by
 have hl:l.length=n:=by have:=h.1;rw[aV] at this;omega
 refine⟨hl,fun hn=> ?_⟩
 obtain⟨g,cap,hv,_,_⟩:=h.form hn
 injection hv with hA _ _
 subst hA
 refine⟨g,0,rfl,fun k hk=> ?_⟩
 have:=h.cells (g:=g) rfl k _ (lS (l:=l) (by omega))
 rwa [addr_add] at this
/-- bytes to string -/
theorem iD {P:Program} {src e:TypeId} (hs:P.underlying src=some (.slice e)) (he:P.underlying e=some (.int .u8)) {dst:TypeId} (hd:P.underlying dst=some .string)
  {w:World} {A:Option Addr} {n c:Nat} {l:List UInt8} (h:RB w A n l):(convert src dst (.slice A n c)).run P w=.ok (.string ⟨l.toArray⟩) w:=by
 rcases pF n with h0 | h0
 ·subst h0
  have:l=[]:=mP h.1
  subst this
  cases A with
  | none=>exact run_convert_bytes_nil w src e hs he 0 c dst hd
  | some a=>
   rw[run_convert_bytes_string w src dst e _ 0 c hs he hd,run_bytesToString w a 0 c [] (by simp[loadCells,loadCellsFrom])]
   rfl
 ·obtain ⟨b,o,rfl,hc⟩:=h.2 h0
  have:=run_convert_bytes_arg (P:=P) w src e hs he b o n c (l.map fun x=>(x.toNat:Int)) (by simp[h.1]) (fun i hi=>by
   rw[hc i hi]
   have:i<l.length:=by have:=h.1;omega
   simp[this]) dst hd
  rw[this]
  have e:(l.map fun x:UInt8=>(x.toNat:Int)).map (fun n=>UInt8.ofNat n.toNat)=l:=by
   rw[iH]
   conv=>rhs;rw[←List.map_id l]
   exact List.map_congr_left fun x _=>by simp
  unfold strOfNums
  rw[e]
theorem PS (l:List UInt8):(⟨l.toArray⟩:ByteArray).toList=l:=qh _
theorem qj {P:Program} {f:FuncId} {args:Array Value} {w:World} {a n:Nat} {v:Value}
  (h:Calls P f args (w.drewN (a+n)) fun e w'=>e=.returned v∧w'=w.drewN (a+n)):
  Calls P f args (w.drewN (a+n)) fun e w''=>e=.returned v∧∃m,w''=w.drewN (a+m):=
 h.mono fun _ _ ⟨he,hm⟩=>⟨he,n,hm⟩
/-- w' is w but for the blocks S and for new ones. -/
structure Fr (S:Nat→Prop) (w w':World):Prop where
 os:w'.os=w.os
 tape:w'.tape=w.tape
 output:w'.output=w.output
 size:w.heap.size≤w'.heap.size
 block:∀k,k<w.heap.size→¬S k→w'.heap[k]?=w.heap[k]?
theorem Fr.refl (S:Nat→Prop) (w:World):Fr S w w:=⟨rfl,rfl,rfl,bZ _,fun _ _ _=>rfl⟩
theorem Fr.trans {S S':Nat→Prop} {a b c:World} (h:Fr S a b) (k:Fr S' b c) (hs:∀i,i<a.heap.size→S' i→S i):Fr S a c:=
 ⟨k.os.trans h.os,k.tape.trans h.tape,k.output.trans h.output,Cz h.size k.size,fun i hi hn=>
  (k.block i (dP hi h.size) (fun x=>hn (hs i hi x))).trans (h.block i hi hn)⟩
theorem Fr.mono {S S':Nat→Prop} {a b:World} (h:Fr S a b) (hs:∀i,i<a.heap.size→S i→S' i):Fr S' a b:=
 ⟨h.os,h.tape,h.output,h.size,fun i hi hn=>h.block i hi fun x=>hn (hs i hi x)⟩
theorem Fr.of_below {S:Nat→Prop} {w w':World} (h:Bw w w'):Fr S w w':=⟨h.os,h.tape,h.output,h.size,fun i hi _=>h.block i hi⟩
theorem Fr.bF {w w':World} {row:Option Nat} (h:w.grownBy w' row):Fr (fun k=>some k=row) w w':=⟨h.os,h.tape,h.output,h.size,h.block⟩
theorem Fr.below {S:Nat→Prop} {w w':World} (h:Fr S w w') {B:Nat} (hB:B≤w.heap.size) (hs:∀i,i<w.heap.size→S i→B≤i):Below B w w':=
 ⟨h.os,h.tape,h.output,h.size,fun k hk=>h.block k (by omega) fun x=>by have:=hs k (by omega) x;omega⟩
theorem Fr.drew {S:Nat→Prop} {a w:World} (h:Fr S a w):Fr S a w.drew:=⟨h.os,h.tape,h.output,h.size,h.block⟩
theorem Fr.alloc {S:Nat→Prop} {a w:World} (h:Fr S a w) (o:Obj):Fr S a (w.alloc o):=
 ⟨h.os,h.tape,h.output,Cz h.size (by simp),fun i hi hn=>(Below.heap_alloc w o i (dP hi h.size)).trans (h.block i hi hn)⟩
theorem Fr.setCell {S:Nat→Prop} {a w:World} (h:Fr S a w) {p:Addr} (hp:p.block<a.heap.size→S p.block) (u:Value):Fr S a (w.setCell p u):=
 ⟨h.os,h.tape,h.output,by simpa [World.setCell] using h.size,fun i hi hn=>(Below.heap_setCell w p u i (by rintro rfl;exact hn (hp hi))).trans (h.block i hi hn)⟩
theorem Fr.cell {S:Nat→Prop} {w w':World} (h:Fr S w w') {p:Addr} (hp:p.block<w.heap.size) (hn:¬S p.block):w'.cell? p=w.cell? p:=World.cell?_of_block (h.block p.block hp hn)
/-- v is nil and holds nothing, or it lies in one block from base on, that is not frozen: n elements xs, room for more up to its capacity. -/
def ah (w:World) (base:Nat) (e:TypeId) (size:Nat) (v:Value) (n:Nat) (xs:List Value):Prop:=
 xs.length=n*size∧
 ((v=.slice none 0 0∧n=0)∨
  ∃g o cap cur,v=.slice (some ⟨g,o,none⟩) n cap∧base≤g∧w.heap[g]?=some (.cells cur e (0,0))∧n≤cap∧cap≤maxLen∧o+cap*size≤cur.size∧(cur.toList.drop o).take (n*size)=xs)
section
variable {P:Program} {w:World} {base:Nat} {e:TypeId} {size:Nat} {v:Value} {n:Nat} {xs:List Value}
theorem ah.nil (w:World) (base:Nat) (e:TypeId) (size:Nat):ah w base e size (.slice none 0 0) 0 []:=⟨by simp,.inl ⟨rfl,rfl⟩⟩
theorem ah.rW (h:w.ownsRow base e size v n xs):ah w base e size v n xs:=by
 refine⟨h.1,?_⟩
 rcases h.2 with h0 | ⟨g,cap,cur,h1,h2,h3,h4,h5,h6,h7⟩
 ·exact .inl h0
 ·exact .inr ⟨g,0,cap,cur,h1,h2,h3,h4,h5,by omega,by simpa using h7⟩
theorem ah.lt (h:ah w base e size v n xs):∀k,v.ownBlock=some k→base≤k∧k<w.heap.size:=by
 intro k hk
 rcases h.2 with ⟨rfl,_⟩ | ⟨g,o,cap,cur,rfl,hb,hg,_⟩
 ·simp [Value.ownBlock] at hk
 ·simp [Value.ownBlock] at hk
  subst hk
  exact⟨hb,(Cq hg)⟩
theorem ah.mono (h:ah w base e size v n xs) {b':Nat} (hb:∀k,v.ownBlock=some k→b'≤k):ah w b' e size v n xs:=by
 refine⟨h.1,?_⟩
 rcases h.2 with h0 | ⟨g,o,cap,cur,h1,h2,h3⟩
 ·exact .inl h0
 ·exact .inr ⟨g,o,cap,cur,h1,hb g (by rw[h1];rfl),h3⟩
theorem ah.eY (h:ah w base e size v n xs) {w':World} (hk:∀k,v.ownBlock=some k→w'.heap[k]?=w.heap[k]?):ah w' base e size v n xs:=by
 refine⟨h.1,?_⟩
 rcases h.2 with h0 | ⟨g,o,cap,cur,h1,h2,h3,h4⟩
 ·exact .inl h0
 ·exact .inr ⟨g,o,cap,cur,h1,h2,by rw[hk g (by rw[h1];rfl)];exact h3,h4⟩
theorem ah.kept (h:ah w base e size v n xs) {S:Nat→Prop} {w':World} (hf:Fr S w w') (hn:∀k,v.ownBlock=some k→¬S k):ah w' base e size v n xs:=
 h.eY fun k hk=>hf.block k (h.lt k hk).2 (hn k hk)
theorem ah.below (h:ah w base e size v n xs) {w':World} (hf:Bw w w'):ah w' base e size v n xs:=
 h.eY fun k hk=>hf.block k (h.lt k hk).2
theorem ah.alloc (h:ah w base e size v n xs) (o:Obj):ah (w.alloc o) base e size v n xs:=h.below ((aj _ _).alloc Kv o)
theorem ah.drew (h:ah w base e size v n xs):ah w.drew base e size v n xs:=h
/-- The cells that it holds. -/
theorem ah.cells (h:ah w base e size v n xs) (hn:0<xs.length):∃g o cap,v=.slice (some ⟨g,o,none⟩) n cap∧base≤g∧g<w.heap.size∧∀j u,xs[j]?=some u→w.cell? ⟨g,o+j,none⟩=some u:=by
 rcases h.2 with ⟨_,h0⟩ | ⟨g,o,cap,cur,h1,h2,h3,h4,h5,h6,h7⟩
 ·have:=h.1;rw[h0] at this;omega
 ·refine ⟨g,o,cap,h1,h2,(Cq h3),fun j u hu=> ?_⟩
  rw[bT w g (o+j) cur e (0,0) h3]
  rw[←h7,List.getElem?_take] at hu
  split at hu
  ·rw [List.getElem?_drop] at hu
   simpa using hu
  ·cases hu
theorem ah.form (h:ah w base e size v n xs):∃A cap,v=.slice A n cap∧n≤cap∧cap≤maxLen:=by
 rcases h.2 with ⟨h1,h0⟩ | ⟨g,o,cap,cur,h1,h2,h3,h4,h5,h6,h7⟩
 ·exact ⟨none,0,by rw[h1,h0],by omega,by unfold maxLen;omega⟩
 ·exact ⟨_,cap,h1,h4,h5⟩
/-- A block that the call has just made: from its head on. -/
theorem ah.made (hb:base≤n) {g cap len:Nat} {cur:Array Value} (hg:w.heap[n]?=some (.cells cur e (0,0))) (_hgn:g=n) (hl:len≤cap) (hm:cap≤maxLen) (hs:cap*size≤cur.size):
  ah w base e size (.slice (some ⟨g,0,none⟩) len cap) len (cur.toList.take (len*size)):=by
 subst _hgn
 refine⟨?_,.inr ⟨g,0,cap,cur,rfl,hb,hg,hl,hm,by omega,by simp⟩⟩
 rw[eu,pY]
 exact Nat.min_eq_left (Cz (Nat.mul_le_mul_right _ hl) hs)
theorem qW (t tx ty:TypeId) (i:TypeInfo) (ht:P.underlying t=some (.slice e)) (hi:P.info? e=some i)
  (g o sLen sCap:Nat) (cur:Array Value) (hg:w.heap[g]?=some (.cells cur e (0,0)))
  (x:Value) (m:Nat) (news:List Value) (hs:Src P i.size tx x m news w)
  (hroom:sLen+m≤sCap) (hfit:o+sLen*i.size+news.length≤cur.size):
  (Builtin.append_ #[t,tx] ty #[.slice (some ⟨g,o,none⟩) sLen sCap,x]).run P w=
   .ok (.slice (some ⟨g,o,none⟩) (sLen+m) sCap) (w.setRow g (cur.toList.take (o+sLen*i.size)++news++cur.toList.drop (o+sLen*i.size+news.length)).toArray):=by
 have hst:=run_storeCells_at (P:=P) g (o+sLen*i.size) e news 0 cur w hg (by simpa using hfit) hs.one
 simp only[Nat.add_zero] at hst
 rcases hs.kind with ⟨e',hk⟩ | hk<;>simp[Builtin.append_,run_underlying ht,run_underlying hk,sizeOf,typeInfo,hi,hs.len,hroom,hs.cells,Addr.add_lit,hst]
theorem xq (t tx ty:TypeId) (i:TypeInfo) (z:Value) (bytes:Nat) (ht:P.underlying t=some (.slice e)) (hi:P.info? e=some i) (hz:i.zero=some z)
  (hsize:i.size=size) (hby:i.bytes=bytes) (hzs:z.cells.size=size) (hsz:0<size) (hown:ah w base e size v n xs)
  (x:Value) (m:Nat) (news:List Value) (hs:Src P size tx x m news w)
  (h63:n+m≤maxLen) (hbytes:(n+m)*bytes≤140737488355328) (hbase:base≤w.heap.size):
  ∃v' w',(Builtin.append_ #[t,tx] ty #[v,x]).run P w=.ok v' w'∧ah w' base e size v' (n+m) (xs++news)∧w.grownBy w' v.ownBlock∧
   (v'.ownBlock=v.ownBlock∨v'.ownBlock=some w.heap.size):=by
 subst hsize
 subst hby
 have hl:=hs.newsLen
 have hlen:(xs++news).length=(n+m)*i.size:=by rw[bP,hown.1,hl,Nat.add_mul]
 have grown:∀(old:Nat),∀(row:Option Nat),
   ah (w.drew.alloc (.cells ((xs++news).toArray++Builtin.zeroCells z.cells (grownCap w (n+m) old e-(n+m))) e)) base e i.size
    (.slice (some ⟨w.heap.size,0,none⟩) (n+m) (grownCap w (n+m) old e)) (n+m) (xs++news)∧
   w.grownBy (w.drew.alloc (.cells ((xs++news).toArray++Builtin.zeroCells z.cells (grownCap w (n+m) old e-(n+m))) e)) row:=by
  intro old row
  have hge:=grownCap_ge w (n+m) old e
  have hcm:grownCap w (n+m) old e≤maxLen:=grownCap_le_maxLen w (n+m) old e h63
  refine⟨⟨hlen,.inr ⟨w.heap.size,0,_,_,rfl,hbase,aA w.drew _,hge,hcm,?_,?_⟩⟩,⟨rfl,rfl,rfl,by simp,fun k hk _=>heap_alloc_old w.drew _ hk⟩⟩
  ·have:((xs++news).toArray++Builtin.zeroCells z.cells (grownCap w (n+m) old e-(n+m))).size=grownCap w (n+m) old e*i.size:=by
    rw[Array.size_append,size_zeroCells,hzs,List.size_toArray,hlen,←Nat.add_mul]
    congr 1
    omega
   omega
  ·simp only[Array.toList_append,List.drop_zero]
   rw[←hlen]
   exact List.take_left
 have h63':((n+m:Nat):Int)≤9223372036854775807:=by unfold maxLen at h63;omega
 rcases hown.2 with ⟨rfl,rfl⟩ | ⟨g,o,cap,cur,rfl,hbg,hg,hnc,hcm,hcs,htake⟩
 ·have hx:xs=[]:=mP (by simpa using hown.1)
  subst hx
  by_cases hm:m=0
  ·subst hm
   have hn:news=[]:=mP (by simpa using hl)
   subst hn
   refine⟨.slice none 0 0,w,?_,ah.nil w base e i.size,⟨rfl,rfl,rfl,bZ _,fun _ _ _=>rfl⟩,.inl rfl⟩
   rcases hs.kind with ⟨e',hk⟩ | hk<;>simp[Builtin.append_,run_underlying ht,run_underlying hk,sizeOf,typeInfo,hi,hs.len,hs.cells]
  ·have hr:=run_append_grow_src (P:=P) w t tx ty e i z ht hi hz none 0 0 [] (by simp[Builtin.firstCells]) x m news hs (by omega) h63' (growslice_fits (by omega) hbytes)
   have hgr:=grown 0 (Value.ownBlock (.slice none 0 0))
   exact⟨_,_,hr,hgr.1,hgr.2,.inr rfl⟩
 ·by_cases hroom:n+m≤cap
  ·have hfit:o+n*i.size+news.length≤cur.size:=by
    rw[hl,Nat.add_assoc,←Nat.add_mul]
    exact Cz (Nat.add_le_add_left (Nat.mul_le_mul_right _ hroom) _) hcs
   have hr:=qW (P:=P) (w:=w) t tx ty i ht hi g o n cap cur hg x m news hs hroom hfit
   refine⟨_,_,hr,⟨hlen,.inr ⟨g,o,cap,_,rfl,hbg,setRow_heap w g cur _ e _ hg,hroom,hcm,?_,?_⟩⟩,⟨rfl,rfl,rfl,by simp,fun k _ hk=>setRow_other w g k _ (fun e=>hk (by simp[Value.ownBlock,e]))⟩,.inl rfl⟩
   ·simp only[List.size_toArray,List.length_append,List.length_take,List.length_drop,Array.length_toList]
    omega
   ·rw [←htake,←hlen,List.toList_toArray]
    have h1:(cur.toList.take (o+n*i.size)).drop o=(cur.toList.drop o).take (n*i.size):=by
     rw[List.drop_take];congr 1;omega
    rw[mQ,List.drop_append_of_le_length (by rw[eu,pY];omega),h1,←mQ,htake]
    exact List.take_left
  ·have holds:∀j u,xs[j]?=some u→w.cell? ⟨g,o+j,none⟩=some u:=by
    intro j u hu
    obtain⟨g',o',cap',hv,_,_,hc⟩:=hown.cells (by have:=(fA.1 hu).1;omega)
    injection hv with hv _ _
    injection hv with hv
    injection hv with hv1 hv2
    subst hv1;subst hv2
    exact hc j u hu
   have hfo:=run_firstCells_some (P:=P) w.drew i.size n ⟨g,o,none⟩ n cap xs hown.1 (by intro j u hu;rw[addr_add];simpa using holds j u hu)
   have hr:=run_append_grow_src (P:=P) w t tx ty e i z ht hi hz (some ⟨g,o,none⟩) n cap xs hfo x m news hs (by omega) h63' (growslice_fits (by omega) hbytes)
   have hgr:=grown cap (Value.ownBlock (.slice (some ⟨g,o,none⟩) n cap))
   exact⟨_,_,hr,hgr.1,hgr.2,.inr rfl⟩
theorem fE {o:Oper} {a:Act} {K:Act→World→Prop} {Q:Exit→Act→World→Prop} (s x:Operand) (t tx:TypeId)
  (ho:o.op=.call {callee:=.builtin .append,args:=#[s,x],argTypes:=#[t,tx]})
  (i:TypeInfo) (z:Value) (bytes:Nat) (ht:P.underlying t=some (.slice e)) (hi:P.info? e=some i) (hz:i.zero=some z)
  (hsize:i.size=size) (hby:i.bytes=bytes) (hzs:z.cells.size=size) (hsz:0<size) (hs:a.eval s=v) (hown:ah w base e size v n xs)
  (xv:Value) (m:Nat) (news:List Value) (hx:a.eval x=xv) (hsrc:Src P size tx xv m news w)
  (h63:n+m≤maxLen) (hbytes:(n+m)*bytes≤140737488355328) (hbase:base≤w.heap.size)
  (h:∀v' w',ah w' base e size v' (n+m) (xs++news)→w.grownBy w' v.ownBlock→(v'.ownBlock=v.ownBlock∨v'.ownBlock=some w.heap.size)→K (a.put o.dst v') w'):o.wp P a w K Q:=by
 obtain⟨v',w',hr,h2,h3,h4⟩:=xq (P:=P) t tx o.type i z bytes ht hi hz hsize hby hzs hsz hown xv m news hsrc h63 hbytes hbase
 unfold Oper.wp execOp
 simp only[ho,resolve,invoke,builtin,Sem.run_bind,Sem.run_pure,Result.andThen_ok,List.map_toArray,List.map_cons,List.map_nil,hs,hx,hr]
 exact h v' w' h2 h3 h4
theorem dw {ops:Array Oper} {rest:List Oper} {o:Oper} {a:Act} {Q:Exit→Act→World→Prop} (hgd:o.guard=none) (s x:Operand) (t tx:TypeId)
  (ho:o.op=.call {callee:=.builtin .append,args:=#[s,x],argTypes:=#[t,tx]})
  (i:TypeInfo) (z:Value) (bytes:Nat) (ht:P.underlying t=some (.slice e)) (hi:P.info? e=some i) (hz:i.zero=some z)
  (hsize:i.size=size) (hby:i.bytes=bytes) (hzs:z.cells.size=size) (hsz:0<size) (hs:a.eval s=v) (hown:ah w base e size v n xs)
  (xv:Value) (m:Nat) (news:List Value) (hx:a.eval x=xv) (hsrc:Src P size tx xv m news w)
  (h63:n+m≤maxLen) (hbytes:(n+m)*bytes≤140737488355328) (hbase:base≤w.heap.size)
  (h:∀v' w',ah w' base e size v' (n+m) (xs++news)→w.grownBy w' v.ownBlock→(v'.ownBlock=v.ownBlock∨v'.ownBlock=some w.heap.size)→wpList P ops Q rest (a.put o.dst v') w'):wpList P ops Q (o::rest) a w:=
 wpList_plain hgd fun _ hK=>fE s x t tx ho i z bytes ht hi hz hsize hby hzs hsz hs hown xv m news hx hsrc h63 hbytes hbase fun v' w' h2 h3 h4=>hK _ _ (h v' w' h2 h3 h4)
theorem dA {ops:Array Oper} {o:Oper} {a:Act} {K:Act→World→Prop} {Q:Exit→Act→World→Prop} {E:Prop} (hgd:o.guard=none) (s x:Operand) (t tx:TypeId)
  (ho:o.op=.call {callee:=.builtin .append,args:=#[s,x],argTypes:=#[t,tx]})
  (i:TypeInfo) (z:Value) (bytes:Nat) (ht:P.underlying t=some (.slice e)) (hi:P.info? e=some i) (hz:i.zero=some z)
  (hsize:i.size=size) (hby:i.bytes=bytes) (hzs:z.cells.size=size) (hsz:0<size) (hs:a.eval s=v) (hown:ah w base e size v n xs)
  (xv:Value) (m:Nat) (news:List Value) (hx:a.eval x=xv) (hsrc:Src P size tx xv m news w)
  (h63:n+m≤maxLen) (hbytes:(n+m)*bytes≤140737488355328) (hbase:base≤w.heap.size)
  (h:∀v' w',ah w' base e size v' (n+m) (xs++news)→w.grownBy w' v.ownBlock→(v'.ownBlock=v.ownBlock∨v'.ownBlock=some w.heap.size)→K (a.put o.dst v') w'):
  if Region.wanted o (yielded ops a.tmps)=true then Oper.wp P o a w K Q else E:=by
 have hw:Region.wanted o (yielded ops a.tmps)=true:=by simp[Region.wanted,hgd]
 rw[aF hw]
 exact fE s x t tx ho i z bytes ht hi hz hsize hby hzs hsz hs hown xv m news hx hsrc h63 hbytes hbase h
end
theorem RB.jd {w:World} {base e n c:Nat} {A:Option Addr} {l:List UInt8} (h:ah w base e 1 (.slice A n c) n (ay l)):RB w A n l:=by
 have hl:l.length=n:=by have:=h.1;rw[aV] at this;omega
 refine⟨hl,fun hn=> ?_⟩
 obtain⟨g,o,cap,hv,_,_,hc⟩:=h.cells (by rw[aV];omega)
 injection hv with hA _ _
 subst hA
 exact⟨g,o,rfl,fun k hk=>hc k _ (lS (by omega))⟩
theorem SB.jd {w:World} {base e n:Nat} {v:Value} {l:List UInt8} (h:ah w base e 1 v n (ay l)):SB w v l:=by
 obtain⟨A,cap,rfl,h1,h2⟩:=h.form
 exact SB.tN (RB.jd h) h1 h2
theorem xK:(Tryz.prog.info? 5).map (fun i=>(i.zero,i.size,i.bytes))=some (some (.int .u8 0),1,1):=by kernel_rfl
/-- v owns the bytes l. -/
def OB (w:World) (base:Nat) (v:Value) (l:List UInt8):Prop:=ah w base 5 1 v l.length (ay l)
theorem OB.nil (w:World) (base:Nat):OB w base (.slice none 0 0) []:=ah.nil _ _ _ _
theorem OB.form {w:World} {base:Nat} {v:Value} {l:List UInt8} (h:OB w base v l):∃A cap,v=.slice A l.length cap∧l.length≤cap∧cap≤maxLen∧RB w A l.length l:=by
 obtain⟨A,cap,rfl,h1,h2⟩:=ah.form h
 exact⟨A,cap,rfl,h1,h2,RB.jd h⟩
theorem OB.sb {w:World} {base:Nat} {v:Value} {l:List UInt8} (h:OB w base v l):SB w v l:=SB.jd h
theorem OB.eY {w:World} {base:Nat} {v:Value} {l:List UInt8} (h:OB w base v l) {w':World} (hk:∀k,v.ownBlock=some k→w'.heap[k]?=w.heap[k]?):OB w' base v l:=ah.eY h hk
theorem OB.below {w:World} {base:Nat} {v:Value} {l:List UInt8} (h:OB w base v l) {w':World} (hf:Bw w w'):OB w' base v l:=ah.below h hf
theorem OB.lt {w:World} {base:Nat} {v:Value} {l:List UInt8} (h:OB w base v l):∀k,v.ownBlock=some k→base≤k∧k<w.heap.size:=ah.lt h
theorem OB.mono {w:World} {base b':Nat} {v:Value} {l:List UInt8} (h:OB w base v l) (hb:b'≤base):OB w b' v l:=ah.mono h fun k hk=>Cz hb (ah.lt h k hk).1
/-- A slice literal of bytes: its block. -/
theorem OB.lit (w:World) (base:Nat) (hb:base≤w.heap.size) (l:List UInt8) (n:Nat) (hn:n=l.length) (hl:l.length≤maxLen):
  OB (w.alloc (.cells (ay l).toArray 5)) base (.slice (some ⟨w.heap.size,0,none⟩) n n) l:=by
 subst hn
 have:=ah.made (w:=w.alloc (.cells (ay l).toArray 5)) (base:=base) (n:=w.heap.size) (e:=5) (size:=1) hb (g:=w.heap.size) (cap:=l.length) (len:=l.length) (aA w _) rfl Kv hl (by simp[aV])
 have e:(ay l).toArray.toList.take (l.length*1)=ay l:=by rw[Nat.mul_one];exact fO (by simp[aV])
 rw[e] at this
 exact this
theorem OB.alloc {w:World} {base:Nat} {v:Value} {l:List UInt8} (h:OB w base v l) (o:Obj):OB (w.alloc o) base v l:=ah.alloc h o
/-- A literal of bytes as an append's source. -/
theorem Src.lit (w:World) (cs:Array Value) (l:List UInt8) (hcs:cs.toList=ay l) (n c:Nat) (hn:n=l.length):
  Src Tryz.prog 1 35 (.slice (some ⟨w.heap.size,0,none⟩) n c) n (ay l) (w.alloc (.cells cs 5)):=by
 subst hn
 refine Src.ofSlice _ Tryz.underlying35 _ _ c (ay l) (by rw[aV,Nat.mul_one]) (fun j u hu=> ?_) (fQ l)
 rw[←hcs] at hu
 exact mJ (aA w _) j u hu
theorem aN {ops:Array Oper} {rest:List Oper} {o:Oper} {a:Act} {w:World} {Q:Exit→Act→World→Prop} (hgd:o.guard=none) (s x:Operand) (tx:TypeId)
  (ho:o.op=.call {callee:=.builtin .append,args:=#[s,x],argTypes:=#[35,tx]})
  {base:Nat} {v:Value} {l:List UInt8} (hown:OB w base v l) (hs:a.eval s=v)
  {xv:Value} {m:Nat} {r:List UInt8} (hsrc:Src Tryz.prog 1 tx xv m (ay r) w) (hx:a.eval x=xv)
  (hbytes:l.length+r.length≤140737488355328) (hbase:base≤w.heap.size)
  (h:∀v' w',OB w' base v' (l++r)→w.grownBy w' v.ownBlock→(v'.ownBlock=v.ownBlock∨v'.ownBlock=some w.heap.size)→wpList Tryz.prog ops Q rest (a.put o.dst v') w'):wpList Tryz.prog ops Q (o::rest) a w:=by
 obtain⟨i0,hi,hz0,hz1,hz2⟩:=info_parts xK
 have hm:r.length=m:=by have:=hsrc.newsLen;rw[aV] at this;omega
 refine dw hgd s x 35 tx ho i0 _ 1 Tryz.underlying35 hi hz0 hz1 hz2 rfl (by omega) hs hown xv m (ay r) hx hsrc (by unfold maxLen;omega) (by omega) hbase fun v' w' h1 h2 h3=> ?_
 refine h v' w' ?_ h2 h3
 unfold OB
 rw[iQ,bP,hm]
 exact h1
/-- What has been appended to, in a frame from B on. -/
theorem bD {B base:Nat} {a w w':World} {v:Value} {l:List UInt8} (h:Below B a w) (hg:w.grownBy w' v.ownBlock) (hown:OB w base v l) (hb:B≤base) (hB:B≤w.heap.size):Below B a w':=
 h.grown hg hB fun k hk=>Cz hb (hown.lt k hk).1
section
variable {P:Program} {ops:Array Oper} {Q:Exit→Act→World→Prop} {md:Region.Mode} {S:World→Prop}
/-- The operation i of a drawn region is taken first: it yields its value in whatever world meets S. -/
theorem tk (i:Nat) {oi:Oper} {v:Value} {fuel:Nat} {listed:Array Bool} {a:Act} {w:World} (hS:S w)
  (h:wpAnyH P md ops Q S fuel (listed.setIfInBounds i true) (a.put oi.dst v) w) (hi:ops[i]?=some oi:=by rfl)
  (hs:Region.noSelect ops=true:=by kernel_rfl) (hf:Region.free md ops listed i=true:=by kernel_rfl) (hr:(Region.ready md ops listed).contains i=true:=by kernel_rfl)
  (hQ:∀c a w,Q (.panic c) (a.put oi.dst v) w→Q (.panic c) a w:=by exact fun _ _ _ h=>h)
  (hw:Region.wanted oi (yielded ops a.tmps)=true:=by rfl)
  (hy:∀w,S w→(execOp a.eval oi).run P w=.ok (.value v) w:=by (intro w hSw;(try dsimp only at hSw);go_simp;first | done | (with_reducible rfl))):wpAnyH P md ops Q S (fuel+1) listed a w:=
  wpAnyH_take hi hs hf hr hQ (Or.inl ⟨hw,hy⟩) hS h
/-- The operation i is passed over: its guard does not hold. -/
theorem sk (i:Nat) {oi:Oper} {fuel:Nat} {listed:Array Bool} {a:Act} {w:World} (hS:S w)
  (h:wpAnyH P md ops Q S fuel (listed.setIfInBounds i true) (a.put oi.dst undef) w) (hi:ops[i]?=some oi:=by rfl)
  (hs:Region.noSelect ops=true:=by kernel_rfl) (hf:Region.free md ops listed i=true:=by kernel_rfl) (hr:(Region.ready md ops listed).contains i=true:=by kernel_rfl)
  (hQ:∀c a w,Q (.panic c) (a.put oi.dst undef) w→Q (.panic c) a w:=by exact fun _ _ _ h=>h)
  (hw:Region.wanted oi (yielded ops a.tmps)=false:=by rfl):wpAnyH P md ops Q S (fuel+1) listed a w:=
  wpAnyH_take hi hs hf hr hQ (Or.inr ⟨hw,rfl⟩) hS h
/-- One operation alone can come up. -/
theorem mD (i:Nat) {fuel:Nat} {listed:Array Bool} {a:Act} {w:World} {o:Oper} (ho:ops[i]?=some o)
  (h:∀K':Act→World→Prop,Shut (∀a w,S w→(S w→wpAnyH P md ops Q S fuel (listed.setIfInBounds i true) a w)→K' a w)→if Region.wanted o (yielded ops a.tmps)=true then Oper.wp P o a w K' Q else K' (a.put o.dst undef) w)
  (hr:Region.ready md ops listed=[i]:=by kernel_rfl):wpAnyH P md ops Q S (fuel+1) listed a w:=
  wpAnyH_ready hr (by simp) (AllReadyH.cons ho h AllReadyH.nil)
/-- One of two operations comes up. -/
theorem PO (i j:Nat) {fuel:Nat} {listed:Array Bool} {a:Act} {w:World} {o p:Oper} (ho:ops[i]?=some o) (hp:ops[j]?=some p)
  (h:∀K':Act→World→Prop,Shut (∀a w,S w→(S w→wpAnyH P md ops Q S fuel (listed.setIfInBounds i true) a w)→K' a w)→if Region.wanted o (yielded ops a.tmps)=true then Oper.wp P o a w K' Q else K' (a.put o.dst undef) w)
  (h':∀K':Act→World→Prop,Shut (∀a w,S w→(S w→wpAnyH P md ops Q S fuel (listed.setIfInBounds j true) a w)→K' a w)→if Region.wanted p (yielded ops a.tmps)=true then Oper.wp P p a w K' Q else K' (a.put p.dst undef) w)
  (hr:Region.ready md ops listed=[i,j]:=by kernel_rfl):wpAnyH P md ops Q S (fuel+1) listed a w:=
  wpAnyH_ready hr (by simp) (AllReadyH.cons ho h (AllReadyH.cons hp h' AllReadyH.nil))
/-- What lays a frame's slot anew. -/
theorem pa:(∀(a:Act) (d:Tmp) (v:Value),a.put (some d) v={a with tmps:=a.tmps.setIfInBounds d v})∧(∀(a:Act) (v:Value),a.put none v=a)∧(∀(α:Type) (l:List α) (i:Nat) (x:α),l.toArray.setIfInBounds i x=(l.set i x).toArray)∧(∀(α:Type) (x y:α) (l:List α),(x::l).set 0 y=y::l)∧(∀(α:Type) (x y:α) (l:List α) (n:Nat),(x::l).set (n+1) y=x::l.set n y)∧(∀(α:Type) (l:List α) (i:Nat) (h:i<l.toArray.size),l.toArray[i]=l[i]'(by simpa using h))∧(∀(α:Type) (x:α) (l:List α) (i:Nat) (h:i+1<(x::l).length),(x::l)[i+1]=l[i]'(by simpa using h))∧(∀(α:Type) (x:α) (l:List α) (h:0<(x::l).length),(x::l)[0]=x):=
  ⟨fun _ _ _=>rfl,fun _ _=>rfl,fun _ _ _ _=>List.setIfInBounds_toArray ..,fun _ _ _ _=>List.set_cons_zero ..,fun _ _ _ _ _=>List.set_cons_succ ..,fun _ _ _ _=>List.getElem_toArray ..,fun _ _ _ _ _=>List.getElem_cons_succ ..,fun _ _ _ _=>List.getElem_cons_zero ..⟩
end
end Go.Proofs.YtdhbpajamlfacaaGreatDoor
