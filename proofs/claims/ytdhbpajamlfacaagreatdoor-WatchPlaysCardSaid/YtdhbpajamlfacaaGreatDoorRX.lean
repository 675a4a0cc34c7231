/- Layer 20: its acts, read; long; SameObject. -/
import Derived.Test.YtdhbpajamlfacaaGreatDoorOrdSO
import Derived.Test.YtdhbpajamlfacaaGreatDoorZeros
import Derived.Deep.LoopGhost
import Derived.Test.YtdhbpajamlfacaaGreatDoorCnt
import Derived.Test.YtdhbpajamlfacaaGreatDoorCre
import Derived.Test.YtdhbpajamlfacaaGreatDoorErrs
import Derived.Deep.CutBlock
import Derived.Test.YtdhbpajamlfacaaGreatDoorTabSO
import Derived.Test.YtdhbpajamlfacaaGreatDoorDiskOps
import Derived.Test.YtdhbpajamlfacaaGreatDoorBase
import Derived.Test.YtdhbpajamlfacaaGreatDoorRows
set_option maxHeartbeats 4000000
set_option maxRecDepth 100000
namespace Go.Proofs.YtdhbpajamlfacaaGreatDoor
open Go.RowKit SO
structure Act20 where
 kind:Int
 n:Int
 torn:Int
 scat:Int
 o:OV
 bs:List UInt8
 now:Bool
instance:Inhabited Act20:=⟨⟨0,0,0,0,⟨0,⟨#[]⟩,⟨#[]⟩,0,none,0,0⟩,[],false⟩⟩
open Go.ChangeShapes Go.WideShapes Go.ChangeAt Go.Deep
section
variable {H:Type} {enc:TypeId×Value→H} {P:Program} {w:World} {base:Nat} {spare:Nat→Bool} {held:Bool}
/-- A struct's fields, of any size. -/
theorem o7 {e:TypeId} {fl:List (TypeId×Nat)} (he:fieldsOf P e=some fl) {fuel:Nat} {cs:List Value} {x:DataW H×List MemPlace} (h:DataW.trod enc P w base spare held fuel e cs=some x):
  cs.length=P.cellsOf e∧∃n,∀(j:Nat) (T:TypeId) (o:Nat),fl[j]?=some (T,o)→∃y,DataW.trod enc P w base spare held n T ((cs.drop o).take (P.cellsOf T))=some y:=by
 unfold fieldsOf at he
 split at he
 ·rename_i fs hu
  obtain⟨xs,n,rfl,hx,hcl,hxl,hf⟩:=DataW.trod_struct hu h
  refine⟨hcl,n,fun j T o hj=> ?_⟩
  have hz:fs.toList.map (fun f=>(f.type,f.offset))=fl:=Option.some.inj he
  rw[←hz,dK] at hj
  cases hg:fs.toList[j]? with
  | none=>rw[hg] at hj;cases hj
  | some f=>
   rw[hg] at hj
   have hfj:fs[j]?=some f:=by rw[←rF];exact hg
   have hp:(f.type,f.offset)=(T,o):=Option.some.inj hj
   have hT:f.type=T:=bJ Prod.fst hp
   have ho:f.offset=o:=bJ Prod.snd hp
   have hjl:j<fs.size:=(Cq hfj)
   have:=hf j f hfj
   rw[hT,ho] at this
   exact⟨xs[j]'(by omega),by rw[this,fJ]⟩
 ·cases he
end
theorem list5 {α:Type} {l:List α} (h:l.length=5):∃a b c d e,l=[a,b,c,d,e]:=by
 match l,h with
 | [a,b,c,d,e],_=>exact⟨_,_,_,_,_,rfl⟩
section
variable {H:Type} {enc:TypeId×Value→H} {W:World} {held:Bool}
end
theorem CO {e:Bool×aC} (h:e.2.Ok) (hv:e.2.ver≤1099511627776):(jV e).length≤55+(e.2.space.size+e.2.name.size+e.2.data.length):=by
 obtain⟨p1,p2,p3,p4,p5⟩:=h.parts
 have hd:=h.data
 have hw:(if e.1 then 2 else 1:Nat)<4611686018427387904:=by split<;>omega
 have i1:=jE hw
 have i2:=jE (n:=e.2.kind) (by omega)
 have i3:=jE (n:=e.2.ver) (by omega)
 have s1:=size_data e.2.space
 have s2:=size_data e.2.name
 have hdl:(if e.1 then ([]:List UInt8) else e.2.data).length≤e.2.data.length:=by split<;>simp
 have a1:=bM 10 i1 (by omega)
 have a2:=bM 10 i2 (by omega)
 have a3:=bM 4 (bZ e.2.space.data.toList.length) (by omega)
 have a4:=bM 4 (bZ e.2.name.data.toList.length) (by omega)
 have a5:=bM 2 i3 (by omega)
 have a6:=bM 4 hdl (by omega)
 refine Cz (bM 48 (m:=51+(e.2.space.size+e.2.name.size+e.2.data.length)) ?_ (by omega)) (by omega)
 simp only[U1,List.flatten_cons,List.flatten_nil,List.length_append,List.length_nil]
 omega
section
variable {m m':DM} {A:Nat→List UInt8} {L L':LM} {M M':bQ} {e:Bool×aC} {n E:Nat}
end
section
variable {m m':DM} {A:Nat→List UInt8} {L L':LM} {M M':bQ} {e:Bool×aC} {n E p T:Nat}
end
theorem Wl (M:bQ) (v:OV):jS M v≤24:=by
 unfold jS dL
 repeat (first | split | omega)
theorem Wn (M:bQ) (v:OV):oC M v≤24:=by
 unfold oC dL gV
 repeat (first | split | omega)
theorem Wp (M:bQ) (v:OV):mG M v≤24:=by
 unfold mG dL gV
 repeat (first | split | omega)
theorem CP {M:bQ} {v:OV} (h:jS M v=0):dL v=0:=by
 unfold jS at h
 by_cases ha:dL v=0
 ·exact ha
 ·rw [aG ha] at h;exact h
theorem CQ {M:bQ} {v:OV} (h:oC M v=0):dL v=0:=by
 unfold oC at h
 by_cases ha:dL v=0
 ·exact ha
 ·rw [aG ha] at h;exact h
theorem vK {M:bQ} {v:OV} (h:mG M v=0):dL ⟨v.kind,v.space,v.name,v.ver,none,0,0⟩=0∧gV M v=0:=by
 unfold mG at h
 by_cases ha:dL ⟨v.kind,v.space,v.name,v.ver,none,0,0⟩=0
 ·rw [aF ha] at h
  by_cases hc:gV M v=0
  ·exact ⟨ha,hc⟩
  ·rw [aG hc] at h;exact absurd h hc
 ·rw [aG ha] at h;exact absurd h ha
theorem EW.below {w w':World} {ea:Nat→Addr} (h:EW w ea) (hb:Bw w w'):EW w' ea:=⟨h.sha.keep (Kz hb),h.d.keep (Kz hb),Kz hb _ _ h.long,Cz h.size hb.size⟩
section
variable {w w' w0:World} {Q:Nat→Prop} {g gs:Nat} {m:DM} {L:LM} {M:bQ} {ea:Nat→Addr}
end
theorem EW.Wq {w:World} {ea:Nat→Addr} (he:Errs w ea) (hs:gI w):EW w ea:=
 ⟨hs,⟨he.cell 1 (by decide) (by decide),he.cell 25 (by decide) (by decide),he.cell 26 (by decide) (by decide)⟩,he.cell 3 (by decide) (by decide),Cz (by decide) hs.lt⟩
section
variable {κ ν:Type} {lt:κ→κ→Bool}
theorem fF (L:vZ lt) {l:List (κ×ν)} (h:aT lt l) {i:Nat} {e:κ×ν} (hi:l[i]?=some e):look lt e.1 l=some e.2:=by
  obtain⟨hlt,rfl⟩:=fA.1 hi
  have hs:l=l.take i++l[i]::l.drop (i+1):=by rw[List.getElem_cons_drop];exact(rE i l).symm
  have hr:aT lt (l.take i++(l[i].1,l[i].2)::l.drop (i+1)):=by rw[←hs];exact h
  have:=uV L hr
  rw[←hs] at this
  exact this
theorem NJ {k:κ} {l:List (κ×ν)} (h:∀e∈l,lt e.1 k=false):rank lt k l=0:=by
  unfold rank
  rw[List.filter_eq_nil_iff.2 fun e he=>by simp[h e he]]
  rfl
theorem UE (k:κ) (l:List (κ×ν)):rank lt k l≤l.length:=kZ _ _
/-- A rising row falls apart at a key's rank. -/
theorem JA (L:vZ lt) (k:κ) {l:List (κ×ν)} (h:aT lt l):(∀e∈l.take (rank lt k l),lt e.1 k=true)∧∀e∈l.drop (rank lt k l),lt e.1 k=false:=by
  induction l with
  | nil=>exact⟨by simp,by simp⟩
  | cons a l ih=>
    cases ha:lt a.1 k with
    | true=>
      have e:rank lt k (a::l)=rank lt k l+1:=by simp[rank,ha]
      rw[e]
      obtain⟨h1,h2⟩:=ih h.tail
      refine⟨fun x hx=> ?_,fun x hx=>h2 x (by simpa using hx)⟩
      rcases fC.1 (by simpa using hx) with rfl | hx
      · exact ha
      · exact h1 x hx
    | false=>
      have hall:∀x∈a::l,lt x.1 k=false:=fun x hx=>by
        rcases fC.1 hx with rfl | hx
        · exact ha
        cases hc:lt x.1 k with
        | false=>rfl
        | true=>exact absurd (L.tr _ _ _ ((List.pairwise_cons.1 h).1 x hx) hc) (by rw[ha];decide)
      rw[NJ hall]
      exact⟨by simp,by simpa using hall⟩
/-- The entry at a place. -/
def rX (l:List (κ×ν)) (i:Int):Option (κ×ν):=if 0≤i then l[i.toNat]? else none
theorem MS {ll lr:List (κ×ν)} {e:κ×ν} {i:Int} (h:i=(ll.length:Int)):rX (ll++e::lr) i=some e:=by
  subst h
  unfold rX
  rw[aF (by omega)]
  simp
theorem MR {ll lr:List (κ×ν)} {e:κ×ν} {i:Int} (h:i<(ll.length:Int)):rX (ll++e::lr) i=rX ll i:=by
  unfold rX
  split
  · rw[tJ (by omega)]
  · rfl
theorem IK {ll lr:List (κ×ν)} {e:κ×ν} {i:Int} (h:(ll.length:Int)<i):rX (ll++e::lr) i=rX lr (i-((ll.length:Int)+1)):=by
  unfold rX
  rw[aF (by omega),aF (by omega),vW (by omega),show i.toNat-ll.length=(i-((ll.length:Int)+1)).toNat+1 by omega,List.getElem?_cons_succ]
theorem PV {i:Int}:rX ([]:List (κ×ν)) i=none:=by unfold rX;split<;>simp
theorem EZ {l:List (κ×ν)} (i:Nat):rX l (i:Int)=l[i]?:=by unfold rX;rw[aF (by omega)];simp
/-- The entries of a span. -/
def span (lt:κ→κ→Bool) (k kt:κ) (l:List (κ×ν)):List (κ×ν):=l.filter fun e=>(!lt e.1 k)&&lt e.1 kt
/-- The keys of a span, at most so many. -/
def Yh (lt:κ→κ→Bool) (k kt:κ) (most:Int) (l:List (κ×ν)):List κ:=((span lt k kt l).map fun e=>e.1).take most.toNat
theorem Vw (L:vZ lt) (k kt:κ) {l:List (κ×ν)} (h:aT lt l):span lt k kt l=(l.drop (rank lt k l)).takeWhile fun e=>lt e.1 kt:=by
  obtain⟨h1,h2⟩:=JA L k h
  unfold span
  conv=>lhs;rw[←rE (rank lt k l) l]
  rw[List.filter_append,List.filter_eq_nil_iff.2 (fun e he=>by simp[h1 e he]),fP]
  have hd:aT lt (l.drop (rank lt k l)):=h.sublist (List.drop_sublist _ _)
  generalize l.drop (rank lt k l)=r at*
  clear h h1
  induction r with
  | nil=>rfl
  | cons a r ih=>
    have ha:=h2 a List.mem_cons_self
    have hr:=ih (fun e he=>h2 e (gK _ he)) hd.tail
    cases hb:lt a.1 kt with
    | true=>simp[ha,hb,hr]
    | false=>
      rw[List.takeWhile_cons_of_neg (by simp[hb])]
      refine List.filter_eq_nil_iff.2 fun e he=> ?_
      rcases fC.1 he with rfl | he
      · simp[hb]
      · have:=(List.pairwise_cons.1 hd).1 e he
        have:lt e.1 kt=false:=by
          cases hc:lt e.1 kt with
          | false=>rfl
          | true=>exact absurd (L.tr _ _ _ this hc) (by rw[hb];decide)
        simp[this]
/-- One step of a reader that begins at a key's rank. -/
theorem MW (L:vZ lt) (k kt:κ) {l:List (κ×ν)} (h:aT lt l) {j:Nat} (hj:j≤(span lt k kt l).length):
    (l[rank lt k l+j]?=none→(span lt k kt l).length=j)∧
    (∀e,l[rank lt k l+j]?=some e→(lt e.1 kt=false→(span lt k kt l).length=j)∧(lt e.1 kt=true→j<(span lt k kt l).length∧((span lt k kt l).map fun e=>e.1).take (j+1)=((span lt k kt l).map fun e=>e.1).take j++[e.1])):=by
  rw[Vw L k kt h] at*
  rw[←List.getElem?_drop]
  generalize l.drop (rank lt k l)=r at*
  clear h
  revert j
  induction r with
  | nil=>intro j hj;simp at hj;subst hj;simp
  | cons a r ih=>
    intro j hj
    cases hb:lt a.1 kt with
    | false=>
      rw[List.takeWhile_cons_of_neg (by simp[hb])] at*
      simp at hj
      subst hj
      refine⟨by simp,fun e he=> ?_⟩
      simp at he
      subst he
      exact⟨fun _=>rfl,fun h=>by rw[hb] at h;cases h⟩
    | true=>
      rw[List.takeWhile_cons_of_pos (by simp[hb])] at*
      cases j with
      | zero=>
        refine⟨by simp,fun e he=> ?_⟩
        simp at he
        subst he
        exact⟨fun h=>absurd h (by rw[hb];decide),fun _=>⟨by simp,by simp⟩⟩
      | succ j=>
        have:=@ih j (by simpa using hj)
        simp only[List.getElem?_cons_succ,List.length_cons,List.map_cons,List.take_succ_cons,List.cons_append]
        refine⟨fun h=>bJ (·+1) (this.1 h),fun e he=>⟨fun h=>bJ (·+1) ((this.2 e he).1 h),fun h=>⟨?_,?_⟩⟩⟩
        · have:=((this.2 e he).2 h).1
          omega
        · rw[((this.2 e he).2 h).2]
end
theorem kJ {T:TypeId} {z:Option Value} {s b:Nat} (h:(Tryz.prog.info? T).map (fun i=>(i.zero,i.size,i.bytes))=some (z,s,b)):∃i,Tryz.prog.info? T=some i∧i.zero=z∧i.size=s∧i.bytes=b:=by
 cases hi:Tryz.prog.info? T with
 | none=>rw[hi] at h;cases h
 | some i=>
  rw[hi] at h
  injection h with h
  injection h with h1 h2
  injection h2 with h2 h3
  exact⟨i,rfl,h1,h2,h3⟩
theorem PU:(Tryz.prog.info? 9).map (fun i=>(i.zero,i.size,i.bytes))=some (some (.string ⟨#[]⟩),1,16):=by kernel_rfl
def OT (w:World) (base:Nat) (v:Value) (l:List ByteArray):Prop:=ah w base 9 1 v l.length (l.map Value.string)
theorem OT.nil (w:World) (base:Nat):OT w base (.slice none 0 0) []:=ah.nil _ _ _ _
theorem OT.alloc {w:World} {base:Nat} {v:Value} {l:List ByteArray} (h:OT w base v l) (o:Obj):OT (w.alloc o) base v l:=ah.alloc h o
theorem OT.form {w:World} {base:Nat} {v:Value} {l:List ByteArray} (h:OT w base v l):∃A cap,v=.slice A l.length cap∧l.length≤cap∧cap≤maxLen:=ah.form h
theorem Src.text (w:World) (g:Nat) (x:ByteArray) (c:Nat) (hg:g=w.heap.size):Src Tryz.prog 1 108 (.slice (some ⟨g,0,none⟩) 1 c) 1 ([x].map Value.string) (w.alloc (.cells #[.string x] 9)):=
  hg▸Src.ofSlice _ Tryz.underlying108 _ _ c _ rfl (fun j u hu=>mJ (cs:=#[.string x]) (aA w _) j u hu) (fun u hu=>by
    rcases iq.1 hu with rfl
    rfl)
theorem xu {ops:Array Oper} {rest:List Oper} {o:Oper} {a:Act} {w:World} {Q:Exit→Act→World→Prop} (hgd:o.guard=none) (s x:Operand)
    (ho:o.op=.call {callee:=.builtin .append,args:=#[s,x],argTypes:=#[108,108]})
    {base:Nat} {v:Value} {l:List ByteArray} (hown:OT w base v l) (hs:a.eval s=v)
    {xv:Value} {m:Nat} {r:List ByteArray} (hsrc:Src Tryz.prog 1 108 xv m (r.map Value.string) w) (hx:a.eval x=xv)
    (hbytes:l.length+r.length≤1000000000000) (hbase:base≤w.heap.size)
    (h:∀v' w',OT w' base v' (l++r)→w.grownBy w' v.ownBlock→wpList Tryz.prog ops Q rest (a.put o.dst v') w'):wpList Tryz.prog ops Q (o::rest) a w:=by
  obtain⟨i0,hi,hz0,hz1,hz2⟩:=kJ PU
  have hm:r.length=m:=by have:=hsrc.newsLen;rw[aX] at this;omega
  refine dw hgd s x 108 108 ho i0 _ 16 Tryz.underlying108 hi hz0 hz1 hz2 rfl (by omega) hs hown xv m _ hx hsrc (by unfold maxLen;omega) (by omega) hbase fun v' w' h1 h2 _=> ?_
  refine h v' w' ?_ h2
  unfold OT
  rw[dI,bP,hm]
  exact h1
theorem yh {B base:Nat} {a w w':World} {v:Value} {l:List ByteArray} (h:Below B a w) (hg:w.grownBy w' v.ownBlock) (hown:OT w base v l) (hb:B≤base) (hB:B≤w.heap.size):Below B a w':=
  h.grown hg hB fun k hk=>Cz hb (ah.lt hown k hk).1
end Go.Proofs.YtdhbpajamlfacaaGreatDoor
namespace Go.Proofs.YtdhbpajamlfacaaGreatDoor.SO
open Go.RowKit
/-- What At answers of an entry, or of none. -/
def atV:Option (ByteArray×OV)→Value
  | some e=>.tuple #[.string e.1,.agg (ov e.2),.bool true]
  | none=>.tuple #[.string ⟨#[]⟩,.agg #[.int .i64 0,.string ⟨#[]⟩,.string ⟨#[]⟩,.int .i64 0,.slice none 0 0],.bool false]
theorem At_T (g:Nat) (i:Int) (s:Code) (l:List (ByteArray×OV)) (w:World) (a:TabAt w g s l) (hi0: -9223372036854775808≤i) (hi1:i≤9223372036854775807) (hlen:l.length≤1000000000):
    Cl 91 #[pt g,.int .i64 i] w fun e w'=>e=.returned (atV (rX l i))∧Bw w w':=by
  obtain⟨w1,hw1⟩:∃W,W=w.alloc (.cells #[.int .i64 0,.string ⟨#[]⟩,.string ⟨#[]⟩,.int .i64 0,.slice none 0 0] 37):=⟨_,rfl⟩
  obtain⟨B,hB⟩:∃B,B=w.heap.size:=⟨_,rfl⟩
  have hb1:=(aj w.heap.size w).alloc Kv (.cells #[.int .i64 0,.string ⟨#[]⟩,.string ⟨#[]⟩,.int .i64 0,.slice none 0 0] 37)
  have hr1:=aA w (.cells #[.int .i64 0,.string ⟨#[]⟩,.string ⟨#[]⟩,.int .i64 0,.slice none 0 0] 37)
  rw[←hw1] at hb1 hr1
  rw[←hB] at hr1
  obtain⟨p,h1,h2⟩:=a.below hb1
  have c0:=cell_of_one h1
  have c0':(w.alloc (.cells #[.int .i64 0,.string ⟨#[]⟩,.string ⟨#[]⟩,.int .i64 0,.slice none 0 0] 37)).cell? ⟨g,0,none⟩=some (.pointer p):=by rw[←hw1];exact c0
  have H2:=Hj h2
  have HB1:=Hj hb1
  have HR1:=Hj hr1
  have HW1:=Hj hw1
  have kT:=Hj hB
  clear h1 h2 a hb1 hr1 hw1 hB
  go_enter Tryz.func91,Tryz.ntmps91
  go_wp2_with fail
  rw[←HW1.out,←kT.out]
  clear c0'
  go_loopg [1,7] (sz s) (fun gk s1 s7 wr=>∃(j:Int) (q:Option Addr) (l':List (ByteArray×OV)) (s':Code),s1=.int .i64 j∧s7=.pointer q∧T w1 s' q l'∧rX l' j=rX l i∧-9223372036854775808≤j∧j≤9223372036854775807∧l'.length≤1000000000∧sz s'≤gk∧w1=wr)
  case atStart=>exact⟨i,p,l,s,rfl,rfl,H2.out,rfl,hi0,hi1,hlen,bZ _,rfl⟩
  case round=>
    obtain⟨j,q,l',s',rfl,rfl,ht,hgi,hj0,hj1,hle,hg,rfl⟩:=hrel
    rcases Tr.open ht with ⟨rfl,rfl,rfl⟩ | ⟨b,a,x,pl,pr,ll,lr,sl,sr,rfl,hn,rfl,rfl,al,ar⟩
    · have Hgi:=Hj hgi
      clear hgi ht hg
      go_wp2
      obtain⟨w2,hw2⟩:∃W,W=w1.alloc (.cells #[.int .i64 0,.string ⟨#[]⟩,.string ⟨#[]⟩,.int .i64 0,.slice none 0 0] 37):=⟨_,rfl⟩
      obtain⟨B2,hB2⟩:∃B,B=w1.heap.size:=⟨_,rfl⟩
      have hb2:=(aj w1.heap.size w1).alloc Kv (.cells #[.int .i64 0,.string ⟨#[]⟩,.string ⟨#[]⟩,.int .i64 0,.slice none 0 0] 37)
      have hr2:=aA w1 (.cells #[.int .i64 0,.string ⟨#[]⟩,.string ⟨#[]⟩,.int .i64 0,.slice none 0 0] 37)
      rw[←hw2] at hb2 hr2
      rw[←hB2] at hr2
      rw[←hw2,←hB2]
      have EX:Hid (w2.heap[B]?=some (.cells #[.int .i64 0,.string ⟨#[]⟩,.string ⟨#[]⟩,.int .i64 0,.slice none 0 0] 37 (0,0))):=Hj ((hb2.block B (Cq HR1.out)).trans HR1.out)
      have Un:Hid (Bw w w2):=Hj (HB1.out.trans (hb2.mono HB1.out.size))
      have hne:B2≠B:=fun e=>by have h:=(Cq HR1.out);rw[←e,hB2] at h;exact Nat.lt_irrefl _ h
      have HS0:Hid (w2.drew.cell? ⟨B2,0,none⟩=some (.int .i64 0)∧w2.drew.cell? ⟨B2,1,none⟩=some (.string ⟨#[]⟩)∧w2.drew.cell? ⟨B2,2,none⟩=some (.string ⟨#[]⟩)∧w2.drew.cell? ⟨B2,3,none⟩=some (.int .i64 0)∧w2.drew.cell? ⟨B2,4,none⟩=some (.slice none 0 0)):=Hj (cells5 (w:=w2.drew) hr2)
      have HS:Hid (∀W,W=(((((w2.setCell ⟨B,0,none⟩ (.int .i64 0)).setCell ⟨B,1,none⟩ (.string ⟨#[]⟩)).setCell ⟨B,2,none⟩ (.string ⟨#[]⟩)).setCell ⟨B,3,none⟩ (.int .i64 0)).setCell ⟨B,4,none⟩ (.slice none 0 0)).drew→(fun w'=>w'.cell? ⟨B2,0,none⟩=some (.int .i64 0)∧w'.cell? ⟨B2,1,none⟩=some (.string ⟨#[]⟩)∧w'.cell? ⟨B2,2,none⟩=some (.string ⟨#[]⟩)∧w'.cell? ⟨B2,3,none⟩=some (.int .i64 0)∧w'.cell? ⟨B2,4,none⟩=some (.slice none 0 0)) W):=Hj fun W hW=>by
        have hf:=fr5 B w2 (.int .i64 0) (.string ⟨#[]⟩) (.string ⟨#[]⟩) (.int .i64 0) (.slice none 0 0)
        have hr:W.heap[B2]?=some (.cells #[.int .i64 0,.string ⟨#[]⟩,.string ⟨#[]⟩,.int .i64 0,.slice none 0 0] 37 (0,0)):=by rw[hW];exact(hf.block B2 (Cq hr2) hne).trans hr2
        exact cells5 hr
      dsimp only at HS
      clear hw2 hb2 hr2 hB2 hne
      refine wp_region_noPanic ?_
      refine wp_region_held_drew (S:=(fun w'=>w'.cell? ⟨B2,0,none⟩=some (.int .i64 0)∧w'.cell? ⟨B2,1,none⟩=some (.string ⟨#[]⟩)∧w'.cell? ⟨B2,2,none⟩=some (.string ⟨#[]⟩)∧w'.cell? ⟨B2,3,none⟩=some (.int .i64 0)∧w'.cell? ⟨B2,4,none⟩=some (.slice none 0 0))) (by kernel_rfl) ?_ (fun hHeld=> ?_)
      · exact HS0.out
      refine tk 0 hHeld ?_
      try simp only[pa]
      refine tk 1 hHeld ?_
      try simp only[pa]
      refine tk 2 hHeld ?_
      try simp only[pa]
      refine mD 3 rfl (fun K hK=> ?_)
      have fx:∀k,w2.frozen? ⟨B,k,none⟩=false:=fun k=>Kj EX.out
      obtain⟨d0,d1,d2,d3,d4⟩:=cells5 EX.out
      go_simp
      obtain⟨wf,hwf⟩:∃W,W=(((((w2.setCell ⟨B,0,none⟩ (.int .i64 0)).setCell ⟨B,1,none⟩ (.string ⟨#[]⟩)).setCell ⟨B,2,none⟩ (.string ⟨#[]⟩)).setCell ⟨B,3,none⟩ (.int .i64 0)).setCell ⟨B,4,none⟩ (.slice none 0 0)).drew:=⟨_,rfl⟩
      have MP:Hid (wf.heap[B]?=some (.cells #[.int .i64 0,.string ⟨#[]⟩,.string ⟨#[]⟩,.int .i64 0,.slice none 0 0] 37 (0,0))):=Hj (by rw[hwf];exact OY EX.out)
      have EY:Hid (Bw w wf):=Hj (by rw[hwf];have h:=MQ Un.out (Nat.le_of_eq kT.out.symm) (.int .i64 0) (.string ⟨#[]⟩) (.string ⟨#[]⟩) (.int .i64 0) (.slice none 0 0);exact⟨h.os,h.tape,h.output,h.size,h.block⟩)
      have Yg:=Hj (HS.out _ hwf)
      rw[←hwf]
      clear hwf d0 d1 d2 d3 d4 fx
      refine hK.out _ _ ?_ (fun hHeld=> ?_)
      · exact Yg.out
      clear hK K
      try simp only[pa]
      refine tk 4 hHeld ?_
      try simp only[pa]
      refine wpAnyH_done (by kernel_rfl) ?_ _
      refine NoPanic.normal ?_
      go_wp2
      exact bg (ql _ rfl rfl MP.out Tryz.underlying37 iR) rfl ⟨by rw[←Hgi.out,PV];rfl,EY.out⟩
    have HN:=Hj hn
    obtain⟨d0,-,d2,d3,-,-⟩:=NP.cells hn
    have G1:=Hj al
    have G2:=Hj ar
    have Hgi:=Hj hgi
    simp only[List.length_append,List.length_cons] at hle
    simp only[sz] at hg
    clear hgi ht al ar hn
    by_cases hlt:j<(ll.length:Int)
    · have HC:=Hj hlt
      have q1:(j==(ll.length:Int))=false:=gQ.2 (by omega)
      have q2:decide (j<(ll.length:Int))=true:=aZ hlt
      have q3:(j !=(ll.length:Int))=true:=bne_iff_ne.2 (by omega)
      clear hlt
      go_wp2_with (go_at_call 92;refine(uP sl pl ll _ G1.out).mono ?_;rintro e w' ⟨rfl,rfl⟩)
      go_roundg (gk-1)
      case measure=>omega
      case rel=>exact⟨j,pl,ll,sl,rfl,rfl,G1.out,by rw[←Hgi.out,MR HC.out],hj0,hj1,by omega,by omega,rfl⟩
    · by_cases hgt:(ll.length:Int)<j
      · have HC:=Hj hgt
        have q1:(j==(ll.length:Int))=false:=gQ.2 (by omega)
        have q2:decide (j<(ll.length:Int))=false:=aQ (by omega)
        have q3:(j !=(ll.length:Int))=true:=bne_iff_ne.2 (by omega)
        clear hlt hgt
        have b0: -9223372036854775808≤j-((ll.length:Int)+1):=by have:=HC.out;omega
        have b1:j-((ll.length:Int)+1)≤9223372036854775807:=by have:=HC.out;omega
        go_wp2_with (go_at_call 92;refine(uP sl pl ll _ G1.out).mono ?_;rintro e w' ⟨rfl,rfl⟩)
        go_roundg (gk-1)
        case measure=>omega
        case rel=>exact⟨j-((ll.length:Int)+1),pr,lr,sr,by go_num,rfl,G2.out,by rw[←Hgi.out,IK HC.out],b0,b1,by omega,by omega,rfl⟩
      · obtain rfl:j=(ll.length:Int):=by omega
        have q1:((ll.length:Int)==(ll.length:Int))=true:=by simp
        clear hlt hgt
        go_wp2_with (go_at_call 92;refine(uP sl pl ll _ G1.out).mono ?_;rintro e w' ⟨rfl,rfl⟩)
        clear d0 d2 d3
        obtain⟨k0,⟨k1,k2,k3,k4,k5⟩,-,-,-,-⟩:=NP.cells HN.out
        have HS0:Hid (w1.drew.cell? ⟨b,0,none⟩=some (.string a)∧w1.drew.cell? ⟨b,1,none⟩=some (.int .i64 x.kind)∧w1.drew.cell? ⟨b,2,none⟩=some (.string x.space)∧w1.drew.cell? ⟨b,3,none⟩=some (.string x.name)∧w1.drew.cell? ⟨b,4,none⟩=some (.int .i64 x.ver)∧w1.drew.cell? ⟨b,5,none⟩=some (.slice x.A x.n x.c)):=Hj ⟨k0,k1,k2,k3,k4,k5⟩
        have hne:b≠B:=fun e=>absurd (ak HN.out (by rw[e];exact HR1.out)) (by decide)
        have HS:Hid (∀W,W=(((((w1.setCell ⟨B,0,none⟩ (.int .i64 x.kind)).setCell ⟨B,1,none⟩ (.string x.space)).setCell ⟨B,2,none⟩ (.string x.name)).setCell ⟨B,3,none⟩ (.int .i64 x.ver)).setCell ⟨B,4,none⟩ (.slice x.A x.n x.c)).drew→(fun w'=>w'.cell? ⟨b,0,none⟩=some (.string a)∧w'.cell? ⟨b,1,none⟩=some (.int .i64 x.kind)∧w'.cell? ⟨b,2,none⟩=some (.string x.space)∧w'.cell? ⟨b,3,none⟩=some (.string x.name)∧w'.cell? ⟨b,4,none⟩=some (.int .i64 x.ver)∧w'.cell? ⟨b,5,none⟩=some (.slice x.A x.n x.c)) W):=Hj fun W hW=>by
          have hf:=fr5 B w1 (.int .i64 x.kind) (.string x.space) (.string x.name) (.int .i64 x.ver) (.slice x.A x.n x.c)
          have hr:W.heap[b]?=w1.heap[b]?:=by rw[hW];exact hf.block b (Cq HN.out) hne
          obtain⟨k0,⟨k1,k2,k3,k4,k5⟩,-,-,-,-⟩:=NP.cells (hr.trans HN.out)
          exact⟨k0,k1,k2,k3,k4,k5⟩
        dsimp only at HS
        have Un:=HB1
        clear k0 k1 k2 k3 k4 k5 hne
        refine wp_region_noPanic ?_
        refine wp_region_held_drew (S:=(fun w'=>w'.cell? ⟨b,0,none⟩=some (.string a)∧w'.cell? ⟨b,1,none⟩=some (.int .i64 x.kind)∧w'.cell? ⟨b,2,none⟩=some (.string x.space)∧w'.cell? ⟨b,3,none⟩=some (.string x.name)∧w'.cell? ⟨b,4,none⟩=some (.int .i64 x.ver)∧w'.cell? ⟨b,5,none⟩=some (.slice x.A x.n x.c))) (by kernel_rfl) ?_ (fun hHeld=> ?_)
        · exact HS0.out
        refine tk 0 hHeld ?_
        try simp only[pa]
        refine tk 1 hHeld ?_
        try simp only[pa]
        refine tk 2 hHeld ?_
        try simp only[pa]
        refine tk 3 hHeld ?_
        try simp only[pa]
        refine tk 4 hHeld ?_
        try simp only[pa]
        refine tk 5 hHeld ?_
        try simp only[pa]
        refine tk 6 hHeld ?_
        try simp only[pa]
        refine tk 7 hHeld ?_
        try simp only[pa]
        refine tk 8 hHeld ?_
        try simp only[pa]
        refine mD 9 rfl (fun K hK=> ?_)
        have fx:∀k,w1.frozen? ⟨B,k,none⟩=false:=fun k=>Kj HR1.out
        obtain⟨d0,d1,d2,d3,d4⟩:=cells5 HR1.out
        go_simp
        obtain⟨wf,hwf⟩:∃W,W=(((((w1.setCell ⟨B,0,none⟩ (.int .i64 x.kind)).setCell ⟨B,1,none⟩ (.string x.space)).setCell ⟨B,2,none⟩ (.string x.name)).setCell ⟨B,3,none⟩ (.int .i64 x.ver)).setCell ⟨B,4,none⟩ (.slice x.A x.n x.c)).drew:=⟨_,rfl⟩
        have MP:Hid (wf.heap[B]?=some (.cells (ov x) 37 (0,0))):=Hj (by rw[hwf];exact OY HR1.out)
        have EY:Hid (Bw w wf):=Hj (by rw[hwf];have h:=MQ Un.out (Nat.le_of_eq kT.out.symm) (.int .i64 x.kind) (.string x.space) (.string x.name) (.int .i64 x.ver) (.slice x.A x.n x.c);exact⟨h.os,h.tape,h.output,h.size,h.block⟩)
        have Yg:=Hj (HS.out _ hwf)
        rw[←hwf]
        clear hwf d0 d1 d2 d3 d4 fx
        refine hK.out _ _ ?_ (fun hHeld=> ?_)
        · exact Yg.out
        clear hK K
        try simp only[pa]
        refine tk 10 hHeld ?_
        try simp only[pa]
        refine wpAnyH_done (by kernel_rfl) ?_ _
        refine NoPanic.normal ?_
        go_wp2
        exact bg (ql _ rfl rfl MP.out Tryz.underlying37 iR) rfl ⟨by rw[←Hgi.out,MS rfl];rfl,EY.out⟩
theorem uQ {k kt:ByteArray} {l:List (ByteArray×OV)}:((span aS k kt l).map fun e=>e.1).length=(span aS k kt l).length:=aX _
theorem UD (k kt:ByteArray) (l:List (ByteArray×OV)):(span aS k kt l).length≤l.length:=kZ _ _
theorem KH {k kt:ByteArray} {most:Int} {l:List (ByteArray×OV)} {j:Nat} (h:(span aS k kt l).length=j) (hm:(j:Int)<most):((span aS k kt l).map fun e=>e.1).take j=Yh aS k kt most l:=by
  unfold Yh
  rw[fO (by rw[uQ];omega),fO (by rw[uQ];omega)]
theorem MV (g:Nat) (k kt:ByteArray) (most:Int) (s:Code) (l:List (ByteArray×OV)) (w:World) (a:TabAt w g s l) (sW:aT aS l) (hlen:l.length≤1000000000):
    Cl 43 #[pt g,.string k,.string kt,.int .i64 most] w fun e w'=>∃v,e=.returned v∧OT w' w.heap.size v (Yh aS k kt most l)∧Bw w w':=by
  have HA:=Hj a
  have HR:=Hj sW
  clear a sW
  have hrk:=UE (lt:=aS) k l
  have hsp:=UD k kt l
  go_enter Tryz.func43,Tryz.ntmps43
  go_wp2_with (go_at_call 90;refine(IL g k s l _ HA.out HR.out hlen).mono ?_;rintro e w' ⟨rfl,rfl⟩)
  obtain⟨r,hr⟩:∃r,r=rank aS k l:=⟨_,rfl⟩
  have Hr:=Hj hr
  rw[←hr] at hrk ⊢
  clear hr
  go_loopw [9,10] (fun v i wr=>∃j i':Nat,Hid (i'=r+j)∧j≤(span aS k kt l).length∧i=.int .i64 (i':Int)∧(j=0∨(j:Int)≤most)∧OT wr w.heap.size v (((span aS k kt l).map fun e=>e.1).take j)∧Bw w wr) (fun _ i _=>r+l.length-(intOf i).toNat)
  case atStart=>exact⟨0,r,rfl,by omega,rfl,.inl rfl,by rw[List.take_zero];exact OT.nil _ _,aj _ _⟩
  case round=>
    obtain⟨j,i',Hi,hj,rfl,hjm,hown,hbel⟩:=hrel
    have jg:=Hj hbel
    have HA2:=Hj (HA.out.below hbel)
    have hlj:(((span aS k kt l).map fun e=>e.1).take j).length=j:=by rw[eu,uQ];omega
    obtain⟨A',c',rfl,hc1',hc2'⟩:=hown.form
    have HO:=Hj hown
    rw[hlj] at hc1'
    have HE:Hid (Value.slice A' (((span aS k kt l).map fun e=>e.1).take j).length c'=Value.slice A' j c'):=Hj (by rw[hlj])
    have Hlj:=Hj hlj
    rw[HE.out] at HO ⊢
    have hib:i'≤r+l.length:=by have:=Hi.out;omega
    clear hbel hown hlj HE
    have hstep:=MW dh k kt HR.out hj
    rw[←Hr.out,←Hi.out] at hstep
    have HS:=Hj hstep
    clear hstep
    by_cases hm:(j:Int)<most
    · have q0:decide ((j:Int)<most)=true:=aZ hm
      have HAt:=Hj (At_T g (i':Int) s l wr HA2.out (by omega) (by omega) hlen)
      have Hm:=Hj hm
      clear hm
      cases hx:l[i']? with
      | none=>
        rw[EZ,hx] at HAt
        simp only[atV] at HAt
        have HD:=Hj (HS.out.1 hx)
        clear hx
        go_wp2_with (go_at_call 91;refine HAt.out.mono ?_;rintro e w4 ⟨rfl,hb4⟩;have HB4:=Hj hb4;clear hb4)
        go_ret
        exact⟨_,rfl,by rw[←KH HD.out Hm.out];exact OT.alloc (ah.below HO.out HB4.out) _,((jg.out.trans (HB4.out.mono jg.out.size)).alloc (Cz jg.out.size HB4.out.size) _)⟩
      | some x=>
        rw[EZ,hx] at HAt
        simp only[atV] at HAt
        have hil:i'<l.length:=(fA.1 hx).1
        have HD:=Hj (HS.out.2 x hx)
        clear hx
        cases hto:aS x.1 kt with
        | false=>
          have q1:Op.bytesLess x.1.toList kt.toList=false:=hto
          have HD2:=Hj (HD.out.1 hto)
          clear hto
          go_wp2_with (go_at_call 91;refine HAt.out.mono ?_;rintro e w4 ⟨rfl,hb4⟩;have HB4:=Hj hb4;clear hb4)
          go_ret
          exact⟨_,rfl,by rw[←KH HD2.out Hm.out];exact OT.alloc (ah.below HO.out HB4.out) _,((jg.out.trans (HB4.out.mono jg.out.size)).alloc (Cz jg.out.size HB4.out.size) _)⟩
        | true=>
          have q1:Op.bytesLess x.1.toList kt.toList=true:=hto
          have HD2:=Hj (HD.out.2 hto)
          clear hto
          have hbase:w.heap.size≤wr.heap.size:=jg.out.size
          go_wp2_with (first
            | (go_at_call 91;refine HAt.out.mono ?_;rintro e w4 ⟨rfl,hb4⟩;have HB4:=Hj hb4;clear hb4)
            | (at_builtin;obtain⟨w5,hw5⟩:∃W,W=w4.alloc (.cells (ov x.2) 37):=⟨_,rfl⟩;have hz:w4.heap.size+1=w5.heap.size:=(by rw[hw5];simp);rw[←hw5];(try rw[hz]);have nH:Hid (Bw wr w5):=Hj (by rw[hw5];exact HB4.out.alloc HB4.out.size _);clear hz hw5;refine xu rfl (.tmp 37) (.tmp 39) rfl (OT.alloc (ah.below HO.out nH.out) (.cells #[.string x.1] 9)) rfl (Src.text w5 w5.heap.size x.1 1 rfl) rfl ?_ ?_ ?_;rotate_right;intro v1 w1 hown1 kU;replace hown1:=Hj hown1;replace kU:=Hj kU))
          case refine_1=>rw[Hlj.out];simp only[List.length_cons,List.length_nil];omega
          case refine_2=>rw[World.size_alloc];have h1:=jg.out.size;have h2:=nH.out.size;omega
          go_roundw
          case rel=>
            have hB1:Bw w (w5.alloc (.cells #[.string x.1] 9)):=(jg.out.trans (nH.out.mono jg.out.size)).alloc (Cz jg.out.size nH.out.size) _
            exact⟨j+1,i'+1,Hj (by have:=Hi.out;omega),HD2.out.1,by go_num,.inr (by have:=Hm.out;omega),by rw[HD2.out.2];exact hown1.out,yh hB1 kU.out (OT.alloc (ah.below HO.out nH.out) _) Kv hB1.size⟩
          case measure=>simp[intOf];omega
    · have q0:decide ((j:Int)<most)=false:=aQ hm
      have HJ:Hid (((span aS k kt l).map fun e=>e.1).take j=Yh aS k kt most l):=Hj (by
        unfold Yh
        rcases hjm with rfl | h
        · rw[show most.toNat=0 by omega]
        · rw[show most.toNat=j by omega])
      clear hm hjm
      go_wp2
      go_ret
      exact⟨_,rfl,by rw[←HJ.out];exact HO.out,jg.out⟩
end Go.Proofs.YtdhbpajamlfacaaGreatDoor.SO
namespace Go.Proofs.YtdhbpajamlfacaaGreatDoor
open Go.RowKit
/-- The slice header (A, n) reads as the values xs, a cell each. -/
def RX (w:World) (A:Option Addr) (n:Nat) (xs:List Value):Prop:=
  xs.length=n∧(0<n→∃b o,A=some ⟨b,o,none⟩∧∀k,k<n→w.cell? ⟨b,o+k,none⟩=some (xs.getD k undef))
theorem RX.jd {w:World} {base e n c:Nat} {A:Option Addr} {xs:List Value} (h:ah w base e 1 (.slice A n c) n xs):RX w A n xs:=by
  have hl:xs.length=n:=by have:=h.1;omega
  refine⟨hl,fun hn=> ?_⟩
  obtain⟨g,o,cap,hv,_,_,hc⟩:=h.cells (by omega)
  injection hv with hA _ _
  subst hA
  refine⟨g,o,rfl,fun k hk=>hc k _ ?_⟩
  rw[nG,fJ (by omega)]
  rfl
end Go.Proofs.YtdhbpajamlfacaaGreatDoor
