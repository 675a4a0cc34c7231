/- Layer 21 (watch): listed, anew. -/
import Derived.Test.YtdhbpajamlfacaaGreatDoorWj
set_option maxHeartbeats 8000000
set_option maxRecDepth 100000
namespace Go.Proofs.YtdhbpajamlfacaaGreatDoor
open Go.RowKit SO
section
variable {w w0:World} {Q:Nat→Prop} {g gs gw gt cur:Nat} {m:DM} {L:LM} {M:bQ} {kind:Int} {space:ByteArray} {all:Bool} {K:List (ByteArray×aC)}
theorem OS.Ew {base:Nat} {v:Value} {os:List OV} {l:List (ByteArray×aC)} (ho:OL w base v os) (hl:os.length=l.length) (hO:xB w base os l):OS w base v (l.map fun x=>x.2):=by
 refine⟨os.zip (l.map fun x=>x.2),?_,?_,fun x hx=> ?_⟩
 ·rw [List.map_fst_zip (by rw[aX];omega)];exact ho
 ·rw [List.map_snd_zip (by rw[aX];omega)]
 ·obtain ⟨i,hi⟩:=jT.1 hx
  obtain⟨h1,h2⟩:=List.getElem?_zip_eq_some.1 hi
  rw[dK] at h2
  cases hy:l[i]? with
  | none=>rw[hy] at h2;cases h2
  | some y=>
   rw[hy] at h2
   injection h2 with h2
   obtain⟨v,k1,k2,-⟩:=hO i y hy
   rw[k1] at h1
   injection h1 with h1
   rw[←h1,←h2]
   exact k2
/-- What is listed. -/
def jP (M:bQ) (kind:Int) (space:ByteArray) (all:Bool):List aC:=(span aS (dG (gU kind (if all then ⟨#[]⟩ else space))) (dG (IG kind (if all then ⟨#[]⟩ else space))) M.tab).map fun x=>x.2
theorem MC (h:SW w0 w Q g m gs L M) (hw:iY w gw gt kind space all cur) (hk:kind≤9223372036854775807) (hs:space.size≤1000) (hl:M.tab.length≤100000) (hn:all=false∨(kind≠5∧kind≠6)):
  Cl 83 #[pt gw,pt gs] w fun e w'=>∃v,e=.returned v∧OS w' w.heap.size v (jP M kind space all)∧Bw w w':=by
 have HL:Hid (∀W,Bw w W→Cl 15 #[pt gs,.int .i64 kind,.string (if all then ⟨#[]⟩ else space)] W fun e w'=>∃v,e=.returned v∧OS w' w.heap.size v (jP M kind space all)∧Bw W w'):=Hj fun W hW=>(FY kind _ (h.below hW) hk (by split<;>first | exact hs | decide) hl).mono fun e w' ⟨v,os,h1,h2,h3,h4,h5⟩=>⟨v,h1,OS.Ew (h2.mono fun k hk=>Cz hW.size (ah.lt h2 k hk).1) h3 (fun i x hx=>let ⟨u,a,b,c⟩:=h4 i x hx;⟨u,a,b,fun k hk=>Cz hW.size (c k hk)⟩),h5⟩
 have c0:w.cell? ⟨gw,0,none⟩=some (.int .i64 kind):=Kq 0 hw
 have c1:w.cell? ⟨gw,1,none⟩=some (.string space):=Kq 1 hw
 have c2:w.cell? ⟨gw,2,none⟩=some (.bool all):=Kq 2 hw
 clear h hw hk hs hl
 cases all with
 | false=>
  have HL2:Hid (∀W,Bw w W→Cl 15 #[pt gs,.int .i64 kind,.string space] W fun e w'=>∃v,e=.returned v∧OS w' w.heap.size v (jP M kind space false)∧Bw W w'):=HL
  go_enter Tryz.func83,Tryz.ntmps83
  go_wp2
  go_region_held3 (fun w'=>w'.cell? ⟨gw,0,none⟩=some (.int .i64 kind)∧w'.cell? ⟨gw,1,none⟩=some (.string space)) (first | exact⟨by assumption,by assumption⟩ | go_keep) (first
   | (go_at_call 15;((refine(HL2.out w.drew (bV (aj _ _))).mono ?_);rintro e w2 ⟨v,rfl,ho,hb⟩;have k0:w2.cell? ⟨gw,0,none⟩=some (.int .i64 kind):=Kz hb _ _ c0;have k1:w2.cell? ⟨gw,1,none⟩=some (.string space):=Kz hb _ _ c1;have HO:=Hj (aB ho hb);clear ho hb))
   | fail)
  all_goals
   go_wp2
   go_ret
   exact⟨v,rfl,HO.out.1,(bV (aj _ _)).trans HO.out.2⟩
 | true=>
  have q1:(kind !=5)=true:=bne_iff_ne.2 (hn.resolve_left (by decide)).1
  have q2:(kind !=6)=true:=bne_iff_ne.2 (hn.resolve_left (by decide)).2
  have HL2:Hid (∀W,Bw w W→Cl 15 #[pt gs,.int .i64 kind,.string ⟨#[]⟩] W fun e w'=>∃v,e=.returned v∧OS w' w.heap.size v (jP M kind space true)∧Bw W w'):=HL
  clear hn
  go_enter Tryz.func83,Tryz.ntmps83
  go_wp2_with (first
   | (go_at_call 15;((refine(HL2.out w (aj _ _)).mono ?_);rintro e w2 ⟨v,rfl,ho,hb⟩;have HO:=Hj (aB ho hb);clear ho hb))
   | fail)
  go_ret
  exact⟨v,rfl,HO.out.1,HO.out.2⟩
end
def ig (v:OV):ByteArray:=wkey v.space v.name
section
variable {α β:Type}
/-- A row without the objects of a key. -/
def wo (f:α→ByteArray) (k:ByteArray) (l:List α):List α:=l.filter fun x=> !decide (f x=k)
/-- A round of with. -/
def rD (f:α→ByteArray) (v:α) (s:Bool×List α) (x:α):Bool×List α:=if s.1=false∧aS (f v) (f x)=true then (true,s.2++[v]++[x]) else (s.1,s.2++[x])
def PE (v:α) (s:Bool×List α):List α:=if s.1=true then s.2 else s.2++[v]
def wi (f:α→ByteArray) (v:α) (l:List α):List α:=PE v ((wo f (f v) l).foldl (rD f v) (false,[]))
theorem ED (f:α→ByteArray) (f':β→ByteArray) (g:α→β) (k:ByteArray):∀l:List α,(∀x∈l,f' (g x)=f x)→wo f' k (l.map g)=(wo f k l).map g
 | [],_=>rfl
 | x::l,h=>by
  have ih:=ED f f' g k l fun y hy=>h y (gK _ hy)
  have hx:=h x (by simp)
  unfold wo at ih ⊢
  rw[qg,List.filter_cons,List.filter_cons,hx,ih]
  split<;>rfl
theorem MH (f:α→ByteArray) (f':β→ByteArray) (g:α→β) (v:α) (hv:f' (g v)=f v):∀(l:List α) (s:Bool×List α),(∀x∈l,f' (g x)=f x)→(l.map g).foldl (rD f' (g v)) (s.1,s.2.map g)=(((l.foldl (rD f v) s)).1,(l.foldl (rD f v) s).2.map g)
 | [],_,_=>rfl
 | x::l,s,h=>by
  have ih:=MH f f' g v hv l (rD f v s x) fun y hy=>h y (gK _ hy)
  rw[qg,lC,lC,←ih]
  congr 1
  unfold rD
  rw[hv,h x (by simp)]
  split<;>simp
theorem EF (f:α→ByteArray) (f':β→ByteArray) (g:α→β) (v:α) (l:List α) (h:∀x∈l,f' (g x)=f x) (hv:f' (g v)=f v):wi f' (g v) (l.map g)=(wi f v l).map g:=by
 unfold wi
 have h1:=MH f f' g v hv (wo f (f v) l) (false,[]) fun x hx=>h x (jB.1 hx).1
 rw[hv,ED f f' g _ l h]
 simp only[List.map_nil] at h1
 rw[h1]
 unfold PE
 split<;>simp
theorem vT {f:α→ByteArray} {v:α} {l:List α} {x:α} (h:x∈wi f v l):x=v∨x∈l:=by
 have h1:∀(l:List α) (s:Bool×List α),∀y∈(l.foldl (rD f v) s).2,y=v∨y∈l∨y∈s.2:=by
  intro l
  induction l with
  | nil=>exact fun s y hy=>.inr (.inr hy)
  | cons a l ih=>
   intro s y hy
   rcases ih (rD f v s a) y hy with h | h | h
   ·exact .inl h
   ·exact .inr (.inl (gK _ h))
   ·unfold rD at h
    split at h<;>simp at h<;>rcases h with h | h<;>simp_all
    rcases h with h | h<;>simp_all
 unfold wi PE at h
 split at h
 ·rcases h1 _ _ x h with h | h | h
  ·exact .inl h
  ·exact .inr (jB.1 h).1
  ·cases h
 ·rcases iO.1 h with h | h
  ·rcases h1 _ _ x h with h | h | h
   ·exact .inl h
   ·exact .inr (jB.1 h).1
   ·cases h
  ·exact .inl (iq.1 h)
end
def zZ (v:OV):Prop:=v.space.size≤1000∧v.name.size≤1000
theorem jq {α:Type} {l:List α} {i:Nat} {x:α} (hx:l[i]?=some x):l.take (i+1)=l.take i++[x]:=by
 obtain⟨hi,e⟩:=fA.1 hx
 rw[mO hi,e]
theorem WI {α:Type} {f:α→ByteArray} {k:ByteArray} {l:List α} {i:Nat} {x:α} (hx:l[i]?=some x):wo f k (l.take (i+1))=if f x=k then wo f k (l.take i) else wo f k (l.take i)++[x]:=by
 unfold wo
 rw[jq hx,List.filter_append]
 by_cases h:f x=k<;>simp[h]
theorem TS {α:Type} {f:α→ByteArray} (v:α):∀(l:List α) (s:Bool×List α),(l.foldl (rD f v) s).2.length≤s.2.length+2*l.length
 | [],s=>by simp
 | x::l,s=>by
  have h:=TS (f:=f) v l (rD f v s x)
  have h2:(rD f v s x).2.length≤s.2.length+2:=by
   unfold rD
   split<;>simp
  simp only[List.foldl_cons,List.length_cons]
  omega
theorem MI {w:World} {base c i:Nat} {A:Option Addr} {l:List OV} {x:OV} (h:OL w base (.slice A l.length c) l) (hx:l[i]?=some x):∃b o,A=some ⟨b,o,none⟩∧w.cell? ⟨b,o+i*5,none⟩=some (.int .i64 x.kind)∧w.cell? ⟨b,o+i*5+1,none⟩=some (.string x.space)∧w.cell? ⟨b,o+i*5+2,none⟩=some (.string x.name)∧w.cell? ⟨b,o+i*5+3,none⟩=some (.int .i64 x.ver)∧w.cell? ⟨b,o+i*5+4,none⟩=some (.slice x.A x.n x.c):=by
 obtain⟨b,o,e,-,hc⟩:=yY h (Nat.lt_of_le_of_lt (bU i) (fA.1 hx).1)
 have k:=hc i x hx
 exact⟨b,o,e,k 0 _ rfl,k 1 _ rfl,k 2 _ rfl,k 3 _ rfl,k 4 _ rfl⟩
section
variable {w:World} {c:Nat} {A:Option Addr} {l:List OV} {v:OV}
theorem MJ (v:OV) (w:World) (hv:zZ v):Cl 97 #[.agg (ov v)] w fun e w'=>e=.returned (.string (ig v))∧Bw w w':=by
 have h1:¬9223372036854775807<v.space.size+1:=by have:=hv.1;omega
 have h2:¬9223372036854775807<v.space.size+1+v.name.size:=by have:=hv.1;have:=hv.2;omega
 go_enter Tryz.func97,Tryz.ntmps97
 go_wp2
 go_ret
 refine⟨?_,(aj _ w).alloc Kv _⟩
 show Ending.returned (.string (v.space++{data:=#[47]}++v.name))=_
 congr 2
 apply kG
 simp[ig,wkey,dG]
/-- Objects on the stack of a loop's round: what stays. -/
theorem Iq {w1 wr wa:World} {B q n c:Nat} {A:Option Addr} {l:List OV} {u v:OV} (hr:w1.heap[B]?=some (.cells (ov v) 37 (0,0))) (hb:Bw w1 wr) (ho:OL wr w1.heap.size (.slice A n c) l)
  (oh:wa=wr.alloc (.cells (ov u) 37)) (hq:q=wr.heap.size):Bw w1 wa∧OL wa w1.heap.size (.slice A n c) l∧∀W W',Bw wa W→Fr (fun k=>some k=(Value.slice A n c).ownBlock) W W'→VB W' q u∧VB W' B v:=by
 subst oh
 subst hq
 have hba:=(aj wr.heap.size wr).alloc Kv (.cells (ov u) 37)
 have hB:=(Cq hr)
 have hw:=hb.trans (hba.mono hb.size)
 refine⟨hw,ho.below hba,fun W W' hW hF=> ?_⟩
 have r1:=(hW.block wr.heap.size (by simp)).trans (aA wr (.cells (ov u) 37))
 have r2:=((hw.trans (hW.mono hw.size)).block B hB).trans hr
 refine⟨VB.aK ((hF.block _ (Cq r1) fun e=> ?_).trans r1),VB.aK ((hF.block B (Cq r2) fun e=> ?_).trans r2)⟩
 ·have:=(ah.lt ho _ e.symm).2
  omega
 ·have:=(ah.lt ho B e.symm).1
  omega
theorem C9 (h:OL w 0 (.slice A l.length c) l) (hl:l.length≤100000) (hs:∀x∈l,zZ x) (hv:zZ v):
  Cl 52 #[.slice A l.length c,.agg (ov v)] w fun e w'=>∃A' c',e=.returned (.slice A' (wo ig (ig v) l).length c')∧OL w' w.heap.size (.slice A' (wo ig (ig v) l).length c') (wo ig (ig v) l)∧Bw w w':=by
 obtain⟨w1,hw1,B,hB,hb1,hr1⟩:=bI w v
 have HB1:=Hj hb1
 have HW:=Hj (aB hw1 hB)
 have Gz:=Hj hr1
 have HC:Hid (∀i x,l[i]?=some x→_):=Hj fun i x hx=>MI (i:=i) (x:=x) (h.below hb1) hx
 have HLn:=Hj hl
 have PI:=Hj hs
 have RD:=Hj fun W=>MJ v W hv
 have HST:Hid (OL (w1.alloc (.cells #[] 37)) w1.heap.size (.slice (some ⟨B+1,0,none⟩) 0 0) []∧Bw w1 (w1.alloc (.cells #[] 37))):=Hj ⟨by
  have e:B+1=w1.heap.size:=by rw[HW.out.1,HW.out.2];simp
  rw[e]
  exact OL.Ei w1,(aj _ _).alloc Kv _⟩
 clear h hl hs hv hw1 hB hb1 hr1
 go_enter Tryz.func52,Tryz.ntmps52
 go_wp2
 rw[←HW.out.1,←HW.out.2]
 go_loopg [5,11] l.length (fun k s5 s11 wr=>∃(i:Nat) (A':Option Addr) (n c':Nat),s11=.int .i64 (i:Int)∧i+k=l.length∧s5=.slice A' n c'∧OL wr w1.heap.size (.slice A' n c') (wo ig (ig v) (l.take i))∧Bw w1 wr)
 case atStart=>exact⟨0,_,_,_,rfl,by omega,rfl,HST.out.1,HST.out.2⟩
 case round=>
  obtain⟨i,A',n,c',rfl,hi,rfl,hown,hbel⟩:=hrel
  have xU:=Hj hown
  have jD:=Hj hbel
  clear hown hbel HST
  by_cases hlt:i<l.length
  ·obtain ⟨u,hx⟩:∃x,l[i]?=some x:=⟨_,fJ hlt⟩
   obtain⟨b,o',rfl,d0,d1,d2,d3,d4⟩:=HC.out i u hx
   have kk:=Kz jD.out
   replace d0:=kk _ _ d0
   replace d1:=kk _ _ d1
   replace d2:=kk _ _ d2
   replace d3:=kk _ _ d3
   replace d4:=kk _ _ d4
   have LY:=Hj fun W=>MJ u W (PI.out u (gJ hx))
   have hwn:=WI (f:=ig) (k:=ig v) hx
   have k0:(0:Int)≤(i:Int):=by omega
   have k1:(i:Int)<(l.length:Int):=by omega
   have k2:(i:Int)≤100000:=by have:=HLn.out;omega
   have HT:Hid (i+gk=l.length∧i<l.length∧n≤100001):=Hj ⟨hi,hlt,by have:=xU.out.len;have h2:(wo ig (ig v) (l.take i)).length≤(l.take i).length:=kZ _ _;rw[eu] at h2;omega⟩
   clear kk hi hlt hx HC
   go_wp2
   obtain⟨wa,q,oh,hq⟩:∃(wa:World) (q:Nat),wa=wr.alloc (.cells (ov u) 37)∧q=wr.heap.size:=⟨_,_,rfl,rfl⟩
   rw[←oh,←hq]
   obtain⟨hba,hoa,hkx⟩:=Iq Gz.out jD.out xU.out oh hq
   have xG:=Hj hba
   have Zf:=Hj hoa
   have KX:=Hj hkx
   clear oh hq hba hoa hkx d0 d1 d2 d3 d4
   have BD:Hid (Bw wa wa.drew):=Hj (bV (aj _ _))
   obtain⟨⟨x0,x1,x2,x3,x4⟩,y0,y1,y2,y3,y4⟩:=KX.out wa wa (aj _ _) (Fr.refl _ _)
   have hq:(((ig u).toList==(ig v).toList)=true∧((ig u).toList !=(ig v).toList)=false∧wo ig (ig v) (l.take (i+1))=wo ig (ig v) (l.take i))∨(((ig u).toList==(ig v).toList)=false∧((ig u).toList !=(ig v).toList)=true∧wo ig (ig v) (l.take (i+1))=wo ig (ig v) (l.take i)++[u]):=by
    by_cases e:ig u=ig v
    ·rw [aF e] at hwn;exact .inl ⟨by rw[e];simp,by rw[e];simp,hwn⟩
    ·rw [aG e] at hwn;exact .inr ⟨gQ.2 fun h=>e (lY h),bne_iff_ne.2 fun h=>e (lY h),hwn⟩
   clear hwn
   rcases hq with ⟨l2,l3,hw⟩ | ⟨l2,l3,hw⟩
   all_goals
    have HWo:=Hj hw
    clear hw
    go_region_held3 (fun w'=>w'.cell? ⟨B,0,none⟩=some (.int .i64 v.kind)∧w'.cell? ⟨B,1,none⟩=some (.string v.space)∧w'.cell? ⟨B,2,none⟩=some (.string v.name)∧w'.cell? ⟨B,3,none⟩=some (.int .i64 v.ver)∧w'.cell? ⟨B,4,none⟩=some (.slice v.A v.n v.c)∧w'.cell? ⟨q,0,none⟩=some (.int .i64 u.kind)∧w'.cell? ⟨q,1,none⟩=some (.string u.space)∧w'.cell? ⟨q,2,none⟩=some (.string u.name)∧w'.cell? ⟨q,3,none⟩=some (.int .i64 u.ver)∧w'.cell? ⟨q,4,none⟩=some (.slice u.A u.n u.c)) (first | exact⟨by assumption,by assumption,by assumption,by assumption,by assumption,by assumption,by assumption,by assumption,by assumption,by assumption⟩ | go_keep)
     (first
      | (go_at_call 97;((with_reducible refine(LY.out wa.drew).mono ?_);rintro e w2 ⟨rfl,hb2⟩;have B2:Hid (Bw wa w2):=Hj (BD.out.trans (hb2.mono BD.out.size));obtain⟨⟨x0,x1,x2,x3,x4⟩,y0,y1,y2,y3,y4⟩:=KX.out w2 w2 B2.out (Fr.refl _ _);clear hb2))
      | (go_at_call 97;((with_reducible refine(RD.out w2).mono ?_);rintro e w3 ⟨rfl,hb3⟩;have B3:Hid (Bw wa w3):=Hj (B2.out.trans (hb3.mono B2.out.size));obtain⟨⟨x0,x1,x2,x3,x4⟩,y0,y1,y2,y3,y4⟩:=KX.out w3 w3 B3.out (Fr.refl _ _);clear hb3))
      | fail)
   all_goals
    go_wp2_with (first
     | (at_builtin;(refine y8 rfl (.tmp 20) (.tmp 22) rfl (Zf.out.below B3.out) rfl u rfl (by have:=HT.out.2.2;omega) (xG.out.trans (B3.out.mono xG.out.size)).size ?_;intro A7 c7 w7 hown hb hf;have O7:=Hj hown;have B7:Hid (Bw w1 w7):=Hj ((xG.out.trans (B3.out.mono xG.out.size)).trans hb);clear hown hb hf))
     | fail)
    go_roundg (gk-1)
    case measure=>have:=HT.out;omega
    case rel=>first
     | exact⟨i+1,A7,n+1,c7,by go_num,by have:=HT.out;omega,rfl,by rw[HWo.out];exact O7.out,B7.out⟩
     | exact⟨i+1,A',n,c',by go_num,by have:=HT.out;omega,rfl,by rw[HWo.out];exact Zf.out.below B3.out,xG.out.trans (B3.out.mono xG.out.size)⟩
  ·obtain rfl:i=l.length:=by omega
   have k1:¬(l.length:Int)<(l.length:Int):=by omega
   have hn:=xU.out
   rw[List.take_length] at hn
   obtain rfl:=hn.len
   have HF:=Hj hn
   clear hlt hi HC hn
   go_wp2
   go_ret
   exact⟨A',c',rfl,ah.mono HF.out fun k hk=>Cz HB1.out.size (ah.lt HF.out k hk).1,HB1.out.trans (jD.out.mono HB1.out.size)⟩
end
theorem pz {ops:Array Oper} {rest:List Oper} {o:Oper} {a:Act} {w:World} {Q:Exit→Act→World→Prop} (hgd:o.guard=none) (s x:Operand)
  (ho:o.op=.call {callee:=.builtin .append,args:=#[s,x],argTypes:=#[41,41]})
  {base:Nat} {A:Option Addr} {n c:Nat} {l:List OV} (hown:OL w base (.slice A n c) l) (hs:a.eval s=.slice A n c) (u:OV) (hx:a.eval x=.slice (some ⟨w.heap.size,0,none⟩) 1 1) (hn:n≤1000000) (hbase:base≤w.heap.size)
  (h:∀A' c' w',OL w' base (.slice A' (n+1) c') (l++[u])→Below base w w'→Fr (fun k=>some k=(Value.slice A n c).ownBlock) w w'→((Value.slice A' (n+1) c').ownBlock=(Value.slice A n c).ownBlock∨∃k,(Value.slice A' (n+1) c').ownBlock=some k∧w.heap.size≤k)→wpList Tryz.prog ops Q rest (a.put o.dst (.slice A' (n+1) c')) w'):
  wpList Tryz.prog ops Q (o::rest) a (w.alloc (.cells (ov u) 37)):=by
 obtain⟨i0,hi,hz0,hz1,hz2⟩:=kJ qO
 have hl:=OL.len hown
 refine dw hgd s x 41 41 ho i0 _ 72 Tryz.underlying41 hi hz0 hz1 hz2 rfl (by omega) hs (hown.alloc _) _ 1 _ hx (uz (v:=u) (aA w _)) (by unfold maxLen;omega) (by omega) (by simp;omega) fun v' w' h1 h2 h3=> ?_
 have h4:OL w' base v' (l++[u]):=by
  unfold OL
  rw[qA,bP]
  exact h1
 obtain⟨A',c',e,-,-⟩:=ah.form h4
 rw[bP,←hl] at e
 have e:v'=.slice A' (n+1) c':=e
 subst e
 refine h A' c' w' h4 (y7 ((aj _ w).alloc Kv _ |>.mono hbase) (by simp;omega) (hown.alloc _) h2) (((Fr.refl _ w).alloc _).trans (Fr.bF h2) fun _ _ x=>x) (h3.imp id fun e=>⟨_,e,by simp⟩)
/-- A row made beside another one: vr of lr, since w1; v3 of l2, between w2 and w3. -/
structure WS (w1 w2 w3 wr:World) (v3:Value) (l2:List OV) (vr:Value) (lr:List OV):Prop where
 own:OL wr w1.heap.size vr lr
 bel:Bw w1 wr
 src:OL wr 0 v3 l2
 le:w3.heap.size≤wr.heap.size
 ap:∀k,vr.ownBlock=some k→k<w2.heap.size∨w3.heap.size≤k
section
variable {w w1 w2 w3 W W':World} {c:Nat} {A:Option Addr} {l l2 lr:List OV} {u v:OV} {v3 vr v':Value}
theorem WS.below (h:WS w1 w2 w3 W v3 l2 vr lr) (hb:Bw W W'):WS w1 w2 w3 W' v3 l2 vr lr:=⟨h.own.below hb,h.bel.trans (hb.mono h.bel.size),h.src.below hb,Cz h.le hb.size,h.ap⟩
theorem WS.push (h:WS w1 w2 w3 W v3 l2 vr lr) (hlt:∀k,v3.ownBlock=some k→w2.heap.size≤k∧k<w3.heap.size) (ho:OL W' w1.heap.size v' (lr++[u])) (hb:Below w1.heap.size W W') (hF:Fr (fun k=>some k=vr.ownBlock) W W') (hat:v'.ownBlock=vr.ownBlock∨∃k,v'.ownBlock=some k∧W.heap.size≤k):WS w1 w2 w3 W' v3 l2 v' (lr++[u]):=by
 refine⟨ho,h.bel.trans hb,ah.kept h.src hF fun k hk e=> ?_,Cz h.le hb.size,fun k hk=> ?_⟩
 ·have:=hlt k hk
  have:=h.ap k e.symm
  omega
 ·rcases hat with hat | ⟨k',e,hk'⟩
  ·exact h.ap k (by rw[←hat];exact hk)
  ·rw [e] at hk
   injection hk with hk
   exact .inr (by have:=h.le;omega)
theorem TT (h:OL w 0 (.slice A l.length c) l) (hl:l.length≤100000) (hs:∀x∈l,zZ x) (hv:zZ v):
  Cl 51 #[.slice A l.length c,.agg (ov v)] w fun e w'=>∃A' c',e=.returned (.slice A' (wi ig v l).length c')∧OL w' w.heap.size (.slice A' (wi ig v l).length c') (wi ig v l)∧Bw w w':=by
 obtain⟨w1,hw1,B,hB,hb1,hr1⟩:=bI w v
 have HB1:=Hj hb1
 have HW:=Hj (aB hw1 hB)
 have Gz:=Hj hr1
 obtain⟨l2,hl2⟩:∃x,x=wo ig (ig v) l:=⟨_,rfl⟩
 obtain⟨w2,hw2⟩:∃W,W=w1.alloc (.cells #[] 37):=⟨_,rfl⟩
 have hb2:Bw w1 w2:=by rw[hw2];exact(aj _ _).alloc Kv _
 have ho2:OL w2 w1.heap.size (.slice (some ⟨w1.heap.size,0,none⟩) 0 0) []:=by rw[hw2];exact OL.Ei w1
 have HWo:=Hj (C9 ((h.below hb1).below hb2) hl hs hv)
 rw[←hl2] at HWo
 have HWi:Hid (wi ig v l=PE v (l2.foldl (rD ig v) (false,[]))):=Hj (by rw[hl2];rfl)
 have h2:l2.length≤l.length:=by rw[hl2];exact kZ _ _
 have HLn:Hid (l2.length≤100000):=Hj (by omega)
 have PI:Hid (∀x∈l2,zZ x):=Hj fun x hx=>hs x (by rw[hl2] at hx;exact(jB.1 hx).1)
 have RD:=Hj fun W=>MJ v W hv
 have HB2:=Hj hb2
 have UN:=Hj ho2
 have HW2:Hid (w2=w1.alloc (.cells #[] 37)∧B+1=w1.heap.size∧w1.heap.size<w2.heap.size):=Hj ⟨hw2,by rw[HW.out.1,HW.out.2];simp,by rw[hw2];simp⟩
 clear h hl hs hv hw1 hB hb1 hr1 hl2 hw2 hb2 ho2 h2
 go_enter Tryz.func51,Tryz.ntmps51
 go_wp2_with (first
  | (go_at_call 52;rw[←HW.out.1,←HW.out.2,HW2.out.2.1,←HW2.out.1];((refine HWo.out.mono ?_);rintro e w3 ⟨A3,c3,rfl,ho3,hb3⟩;have S3:Hid (WS w1 w2 w3 w3 (.slice A3 l2.length c3) l2 (.slice (some ⟨w1.heap.size,0,none⟩) 0 0) []):=Hj ⟨UN.out.below hb3,HB2.out.trans (hb3.mono HB2.out.size),ho3.mono fun _ _=>bU _,bZ _,fun k hk=>.inl (by cases hk;exact HW2.out.2.2)⟩;have L3:=Hj (ah.lt ho3);clear ho3 hb3))
  | fail)
 go_loopg [5,6,14] l2.length (fun k s5 s6 s14 wr=>∃(i:Nat) (A':Option Addr) (n c':Nat) (d:Bool) (lr:List OV),s14=.int .i64 (i:Int)∧i+k=l2.length∧s5=.slice A' n c'∧s6=.bool d∧(l2.take i).foldl (rD ig v) (false,[])=(d,lr)∧WS w1 w2 w3 wr (.slice A3 l2.length c3) l2 (.slice A' n c') lr)
 case atStart=>exact⟨0,_,_,_,_,[],rfl,by omega,rfl,rfl,rfl,S3.out⟩
 case round=>
  obtain⟨i,A',n,c',d,lr,rfl,hi,rfl,rfl,hf,hS⟩:=hrel
  have JX:=Hj hf
  have HS:=Hj hS
  clear hf hS S3
  have hln:n≤2*i∧n=lr.length:=by
   have h1:=HS.out.own.len
   have h2:=TS (f:=ig) v (l2.take i) (false,[])
   rw[JX.out,eu] at h2
   simp only[List.length_nil] at h2
   omega
  by_cases hlt:i<l2.length
  ·obtain ⟨u,hx⟩:∃x,l2[i]?=some x:=⟨_,fJ hlt⟩
   obtain⟨b,o',rfl,d0,d1,d2,d3,d4⟩:=MI (i:=i) (x:=u) HS.out.src hx
   have LY:=Hj fun W=>MJ u W (PI.out u (gJ hx))
   have hwn:(l2.take (i+1)).foldl (rD ig v) (false,[])=rD ig v (d,lr) u:=by rw[jq hx,List.foldl_append,JX.out];rfl
   have k0:(0:Int)≤(i:Int):=by omega
   have k1:(i:Int)<(l2.length:Int):=by omega
   have k2:(i:Int)≤100000:=by have:=HLn.out;omega
   have HT:Hid (i+gk=l2.length∧i<l2.length∧n≤200000):=Hj ⟨hi,hlt,by have:=HLn.out;omega⟩
   clear hi hlt hx hln
   go_wp2
   obtain⟨wa,q,oh,hq⟩:∃(wa:World) (q:Nat),wa=wr.alloc (.cells (ov u) 37)∧q=wr.heap.size:=⟨_,_,rfl,rfl⟩
   rw[←oh,←hq]
   obtain⟨-,-,hkx⟩:=Iq Gz.out HS.out.bel HS.out.own oh hq
   have hba:Bw wr wa:=by rw[oh];exact(aj _ wr).alloc Kv _
   have SA:=Hj (HS.out.below hba)
   have KX:=Hj hkx
   clear oh hq hba hkx d0 d1 d2 d3 d4
   have BD:Hid (Bw wa wa.drew):=Hj (bV (aj _ _))
   cases d with
   | true=>
    have HN:Hid ((l2.take (i+1)).foldl (rD ig v) (false,[])=(true,lr++[u])):=Hj (by rw[hwn];unfold rD;exact aG fun h=>by cases h.1)
    clear hwn
    go_quiet (fail)
    have Bn:Hid (Bw wa (wa.drewN nq)):=Hj (below_drewN (aj _ _) nq)
    obtain⟨⟨x0,x1,x2,x3,x4⟩,y0,y1,y2,y3,y4⟩:=KX.out _ (wa.drewN nq) Bn.out (Fr.refl _ _)
    have SN:=Hj (SA.out.below Bn.out)
    go_wp2_with (first
     | (at_builtin;(refine pz rfl (.tmp 31) (.tmp 33) rfl SN.out.own rfl u rfl (by have:=HT.out.2.2;omega) SN.out.bel.size ?_;intro A7 c7 w7 hown hb hf hat;have S7:=Hj (SN.out.push L3.out hown hb hf hat);clear hown hb hf hat))
     | fail)
    go_roundg (gk-1)
    case measure=>have:=HT.out;omega
    case rel=>exact⟨i+1,A7,n+1,c7,true,_,by go_num,by have:=HT.out;omega,rfl,rfl,HN.out,S7.out⟩
   | false=>
    obtain⟨⟨x0,x1,x2,x3,x4⟩,y0,y1,y2,y3,y4⟩:=KX.out wa wa (aj _ _) (Fr.refl _ _)
    have hc:(aS (ig v) (ig u)=true∧(l2.take (i+1)).foldl (rD ig v) (false,[])=(true,lr++[v]++[u]))∨(aS (ig v) (ig u)=false∧(l2.take (i+1)).foldl (rD ig v) (false,[])=(false,lr++[u])):=by
     rw[hwn]
     unfold rD
     cases hk:aS (ig v) (ig u) with
     | true=>exact .inl ⟨rfl,aF ⟨rfl,rfl⟩⟩
     | false=>exact .inr ⟨rfl,aG fun h=>by cases h.2⟩
    clear hwn
    rcases hc with ⟨hk,hn⟩ | ⟨hk,hn⟩
    all_goals
     have HN:=Hj hn
     clear hn
     unfold aS at hk
     go_region_held3 (fun w'=>w'.cell? ⟨B,0,none⟩=some (.int .i64 v.kind)∧w'.cell? ⟨B,1,none⟩=some (.string v.space)∧w'.cell? ⟨B,2,none⟩=some (.string v.name)∧w'.cell? ⟨B,3,none⟩=some (.int .i64 v.ver)∧w'.cell? ⟨B,4,none⟩=some (.slice v.A v.n v.c)∧w'.cell? ⟨q,0,none⟩=some (.int .i64 u.kind)∧w'.cell? ⟨q,1,none⟩=some (.string u.space)∧w'.cell? ⟨q,2,none⟩=some (.string u.name)∧w'.cell? ⟨q,3,none⟩=some (.int .i64 u.ver)∧w'.cell? ⟨q,4,none⟩=some (.slice u.A u.n u.c)) (first | exact⟨by assumption,by assumption,by assumption,by assumption,by assumption,by assumption,by assumption,by assumption,by assumption,by assumption⟩ | go_keep)
      (first
       | (go_at_call 97;((with_reducible refine(RD.out wa.drew).mono ?_);rintro e w4 ⟨rfl,hb2⟩;have B4:Hid (Bw wa w4):=Hj (BD.out.trans (hb2.mono BD.out.size));obtain⟨⟨x0,x1,x2,x3,x4⟩,y0,y1,y2,y3,y4⟩:=KX.out w4 w4 B4.out (Fr.refl _ _);clear hb2))
       | (go_at_call 97;((with_reducible refine(LY.out w4).mono ?_);rintro e w5 ⟨rfl,hb3⟩;have B5:Hid (Bw wa w5):=Hj (B4.out.trans (hb3.mono B4.out.size));have S5:=Hj (SA.out.below B5.out);obtain⟨⟨x0,x1,x2,x3,x4⟩,y0,y1,y2,y3,y4⟩:=KX.out w5 w5 B5.out (Fr.refl _ _);clear hb3))
       | fail)
    all_goals
     go_wp2_with (first
      | (at_builtin;(refine pz rfl (.tmp 27) (.tmp 29) rfl S5.out.own rfl v rfl (by have:=HT.out.2.2;omega) S5.out.bel.size ?_;intro A6 c6 w6 hown hb hf hat;have S6:=Hj (S5.out.push L3.out hown hb hf hat);obtain⟨⟨x0,x1,x2,x3,x4⟩,y0,y1,y2,y3,y4⟩:=KX.out w5 w6 B5.out hf;clear hown hb hf hat))
      | (at_builtin;(first
        | (refine pz rfl (.tmp 31) (.tmp 33) rfl S6.out.own rfl u rfl (by have:=HT.out.2.2;omega) S6.out.bel.size ?_;intro A7 c7 w7 hown hb hf hat;have S7:=Hj (S6.out.push L3.out hown hb hf hat);clear hown hb hf hat)
        | (refine pz rfl (.tmp 31) (.tmp 33) rfl S5.out.own rfl u rfl (by have:=HT.out.2.2;omega) S5.out.bel.size ?_;intro A7 c7 w7 hown hb hf hat;have S7:=Hj (S5.out.push L3.out hown hb hf hat);clear hown hb hf hat)))
      | fail)
     go_roundg (gk-1)
     case measure=>have:=HT.out;omega
     case rel=>exact⟨i+1,A7,_,c7,_,_,by go_num,by have:=HT.out;omega,rfl,rfl,HN.out,S7.out⟩
  ·obtain rfl:i=l2.length:=by omega
   have k1:¬(l2.length:Int)<(l2.length:Int):=by omega
   have hfo:=JX.out
   rw[List.take_length] at hfo
   have HR:Hid (wi ig v l=PE v (d,lr)):=Hj (by rw[HWi.out,hfo])
   have hv5:VB wr B v:=VB.aK ((HS.out.bel.block B (Cq Gz.out)).trans Gz.out)
   obtain⟨y0,y1,y2,y3,y4⟩:=hv5
   have HT:Hid (n≤200000∧n=lr.length):=Hj ⟨by have:=HLn.out;omega,hln.2⟩
   have HE:Hid (∀W A' c' lq,WS w1 w2 w3 W (.slice A3 l2.length c3) l2 (.slice A' lq.length c') lq→wi ig v l=lq→∃A2 c2,(Ending.returned (.slice A' lq.length c'):Ending)=.returned (.slice A2 (wi ig v l).length c2)∧OL W w.heap.size (.slice A2 (wi ig v l).length c2) (wi ig v l)∧Bw w W):=Hj fun W A' c' lq hS e=>by
    rw[e]
    exact⟨A',c',rfl,hS.own.mono fun k hk=>Cz HB1.out.size (ah.lt hS.own k hk).1,HB1.out.trans (hS.bel.mono HB1.out.size)⟩
   obtain rfl:=hln.2
   clear hlt hi hfo hln
   cases d with
   | true=>
    go_wp2
    go_ret
    exact HE.out _ _ _ _ HS.out HR.out
   | false=>
    go_wp2_with (first
     | (at_builtin;(refine pz rfl (.tmp 38) (.tmp 40) rfl HS.out.own rfl v rfl (by have:=HT.out;omega) HS.out.bel.size ?_;intro A7 c7 w7 hown hb hf hat;have S7:=Hj (HS.out.push L3.out hown hb hf hat);clear hown hb hf hat))
     | fail)
    go_ret
    have h:=HE.out w7 A7 c7 (lr++[v]) (by have:=S7.out;simpa using this) HR.out
    simpa using h
end
end Go.Proofs.YtdhbpajamlfacaaGreatDoor
