/- Layer 20 (store): List, Right, Base. -/
import Derived.Test.YtdhbpajamlfacaaGreatDoorCnt
import Derived.Test.YtdhbpajamlfacaaGreatDoorApl
import Derived.Test.YtdhbpajamlfacaaGreatDoorRX
import Derived.Test.YtdhbpajamlfacaaGreatDoorCpt
set_option maxHeartbeats 4000000
set_option maxRecDepth 100000
namespace Go.Proofs.YtdhbpajamlfacaaGreatDoor
open Go.RowKit SO
theorem qO:(Tryz.prog.info? 37).map (fun i=>(i.zero,i.size,i.bytes))=some (some (.agg #[.int .i64 0,.string ⟨#[]⟩,.string ⟨#[]⟩,.int .i64 0,.slice none 0 0]),5,72):=by kernel_rfl
def jJ (v:OV):List Value:=[.int .i64 v.kind,.string v.space,.string v.name,.int .i64 v.ver,sl v]
def bH (l:List OV):List Value:=l.flatMap jJ
theorem qA (l:List OV) (v:OV):bH (l++[v])=bH l++jJ v:=by simp[bH]
def OL (w:World) (base:Nat) (v:Value) (l:List OV):Prop:=ah w base 37 5 v l.length (bH l)
theorem OL.nil (w:World) (base:Nat):OL w base (.slice none 0 0) []:=ah.nil _ _ _ _
theorem OL.below {w w':World} {base:Nat} {v:Value} {l:List OV} (h:OL w base v l) (hb:Bw w w'):OL w' base v l:=ah.below h hb
theorem Src.obj (w:World) (v:OV):Src Tryz.prog 5 41 (.slice (some ⟨w.heap.size,0,none⟩) 1 1) 1 (jJ v) (w.alloc (.cells (ov v) 37)):=
 Src.ofSlice _ Tryz.underlying41 _ _ 1 _ rfl (fun j u hu=>mJ (cs:=(ov v)) (aA w _) j u hu) (fun u hu=>by
  simp only[jJ,List.mem_cons,List.not_mem_nil,or_false] at hu
  rcases hu with rfl | rfl | rfl | rfl | rfl<;>rfl)
theorem je {ops:Array Oper} {rest:List Oper} {o:Oper} {a:Act} {w:World} {Q:Exit→Act→World→Prop} (hgd:o.guard=none) (s x:Operand)
  (ho:o.op=.call {callee:=.builtin .append,args:=#[s,x],argTypes:=#[41,41]})
  {base:Nat} {v:Value} {l:List OV} (hown:OL w base v l) (hs:a.eval s=v)
  {xv:Value} {u:OV} (hsrc:Src Tryz.prog 5 41 xv 1 (jJ u) w) (hx:a.eval x=xv) (hbytes:l.length≤1000000) (hbase:base≤w.heap.size)
  (h:∀v' w',OL w' base v' (l++[u])→w.grownBy w' v.ownBlock→wpList Tryz.prog ops Q rest (a.put o.dst v') w'):wpList Tryz.prog ops Q (o::rest) a w:=by
 obtain⟨i0,hi,hz0,hz1,hz2⟩:=kJ qO
 refine dw hgd s x 41 41 ho i0 _ 72 Tryz.underlying41 hi hz0 hz1 hz2 rfl (by omega) hs hown xv 1 _ hx hsrc (by unfold maxLen;omega) (by omega) hbase fun v' w' h1 h2 _=> ?_
 refine h v' w' ?_ h2
 unfold OL
 rw[qA,bP]
 exact h1
theorem FX {κ ν μ:Type} {lt:κ→κ→Bool} (f:ν→μ) (k t0:κ) (l:List (κ×ν)):span lt k t0 (l.map fun x=>(x.1,f x.2))=(span lt k t0 l).map fun x=>(x.1,f x.2):=by
 unfold span
 rw[List.filter_map]
 rfl
/-- The objects of a list, as they lie in memory, are those of a row of entries. -/
def xB (w:World) (base:Nat) (os:List OV) (l:List (ByteArray×aC)):Prop:=∀(i:Nat) (x:ByteArray×aC),l[i]?=some x→∃v,os[i]?=some v∧dD w v x.2∧∀k,(sl v).ownBlock=some k→base≤k
theorem xB.turn {w w':World} {base:Nat} {os:List OV} {l:List (ByteArray×aC)} (h:xB w base os l) (hb:∀(v:OV) (o:aC),dD w v o→(∀k,(sl v).ownBlock=some k→base≤k)→dD w' v o):xB w' base os l:=fun i x hx=>by
 obtain⟨v,h1,h2,h3⟩:=h i x hx
 exact⟨v,h1,hb v x.2 h2 h3,h3⟩
theorem xB.snoc {w:World} {base:Nat} {os:List OV} {l:List (ByteArray×aC)} (h:xB w base os l) (hl:os.length=l.length) {v:OV} {x:ByteArray×aC} (hv:dD w v x.2) (hb:∀k,(sl v).ownBlock=some k→base≤k):xB w base (os++[v]) (l++[x]):=fun i y hy=>by
 by_cases hi:i<l.length
 ·rw [tJ hi] at hy
  obtain⟨u,h1,h2,h3⟩:=h i y hy
  exact⟨u,by rw[tJ (by omega)];exact h1,h2,h3⟩
 ·have hi2:i=l.length:=by
   have:=(fA.1 hy).1
   rw[bP] at this
   simp only[List.length_cons,List.length_nil] at this
   omega
  rw[hi2,vW Kv] at hy
  simp at hy
  subst hy
  refine⟨v,?_,hv,hb⟩
  rw[hi2,←hl,vW Kv]
  simp
section
variable {w w0:World} {Q:Nat→Prop} {g gs:Nat} {m:DM} {L:LM} {M:bQ}
theorem QM (h:SW w0 w Q g m gs L M):Cl 37 #[pt gs] w fun e w'=>e=.returned (.int .i64 (M.base:Int))∧w=w':=by
 obtain⟨Z,gl,gt,sh,ev,xs,ys,hV,-,-⟩:=h.use
 have c3:=hV.cell.2.2.2.1
 clear h hV
 go_enter Tryz.func37,Tryz.ntmps37
 go_wp2
 go_ret
 exact⟨rfl,rfl⟩
theorem BR (v:OV) (w:World):Cl 27 #[.agg (ov v)] w fun e w'=>e=.returned (.bool (dJ v.kind v.space v.name&&decide (v.n≤8192)))∧Bw w w':=by
 obtain⟨w1,hw1,B,hB,hb1,hr1⟩:=bI w v
 have HB1:=Hj hb1
 have HW1:=Hj hw1
 have kT:=Hj hB
 obtain⟨v0,v1,v2,v3,v4⟩:=VB.aK hr1
 have HN:=Hj (BU v w1)
 have iL:=Hj (VB.all hr1)
 have HR:Hid (∀b,b=dJ v.kind v.space v.name→(dJ v.kind v.space v.name&&decide (v.n≤8192))=(b&&decide (v.n≤8192))):=Hj fun b hb=>by rw[hb]
 generalize dJ v.kind v.space v.name=nb at*
 clear hb1 hr1 hw1 hB
 go_enter Tryz.func27,Tryz.ntmps27
 cases nb with
 | false=>
  go_wp2_with (go_at_call 72;rw[←HW1.out,←kT.out];(with_reducible refine HN.out.mono ?_);rintro e w2 ⟨rfl,hb2⟩;have HB2:=Hj hb2;clear hb2)
  go_ret
  exact⟨rfl,HB1.out.trans (HB2.out.mono HB1.out.size)⟩
 | true=>
  go_wp2_with (go_at_call 72;rw[←HW1.out,←kT.out];(with_reducible refine HN.out.mono ?_);rintro e w2 ⟨rfl,hb2⟩;have HB2:=Hj hb2;obtain⟨v20,v21,v22,v23,v24⟩:=iL.out w2 hb2;clear hb2)
  go_ret
  exact⟨by simp;omega,HB1.out.trans (HB2.out.mono HB1.out.size)⟩
theorem FY (kind:Int) (space:ByteArray) (h:SW w0 w Q g m gs L M) (hk:kind≤9223372036854775807) (hs:space.size≤1000) (hl:M.tab.length≤100000):
  Cl 15 #[pt gs,.int .i64 kind,.string space] w fun e w'=>∃v os,e=.returned v∧OL w' w.heap.size v os∧os.length=(span aS (dG (gU kind space)) (dG (IG kind space)) M.tab).length∧xB w' w.heap.size os (span aS (dG (gU kind space)) (dG (IG kind space)) M.tab)∧Bw w w':=by
 obtain⟨Z,gl,gt,sh,ev,xs,ys,hV,-,-⟩:=h.use
 have hxl:xs.length≤100000:=by have:=bJ List.length hV.nD;rw[aX] at this;omega
 have HR:=Hj (Dn kind space w hk hs)
 obtain⟨s1,hs1⟩:∃s,s=dG (gU kind space):=⟨_,rfl⟩
 obtain⟨s0,hs0⟩:∃s,s=dG (jh kind++[47]++space.data.toList):=⟨_,rfl⟩
 have hz1:s1.size=(jh kind++[47]++space.data.toList).length+1:=by rw[hs1,jX];unfold gU;rw[bP];rfl
 have hz0:s0.size=(jh kind++[47]++space.data.toList).length:=by rw[hs0,jX]
 obtain⟨J,hJ⟩:∃j,j=(jh kind++[47]++space.data.toList).length:=⟨_,rfl⟩
 rw[←hJ] at hz1 hz0
 have hJl:J≤1021:=by have:=yu hk hs;rw[hJ];unfold gU at this;rw[bP] at this;simp only[List.length_cons,List.length_nil] at this;omega
 have hex:s1.extract 0 J=s0:=by
  rw[hs1,hs0]
  unfold gU
  refine kG ?_
  rw[hJ]
  simp[dG]
  rw[←KD,List.dropLast_concat]
 have hsl:∀W,(Instr.slice 9 (.string s1) none (some (.int .i64 (J:Int))) none).run Tryz.prog W=.ok (.string s0) W:=fun W=>by
  rw[run_slice_string_h W 9 s1 Tryz.underlying9 .i64 (J:Int) (by omega) (by omega)]
  rw[show (J:Int).toNat=J from rfl,hex]
 have hw1:IntKind.i64.wrap ((s1.size:Int)-1)=(J:Int):=by rw[cO _ (by omega)];omega
 have hw2:wrap64 ((s1.size:Int)-1)=(J:Int):=by unfold wrap64;omega
 have hcat:¬9223372036854775807<s0.size+1:=by omega
 rw[←hs1] at HR
 have Nj:Hid (∀W,Bw w W→TabAt W gt sh (xs.map fun x=>(x.1,x.2.1))):=Hj fun W hW=>(hV.below hW).tab
 have HC:Hid (∀W,Bw w W→W.cell? ⟨gs,1,none⟩=some (pt gt)):=Hj fun W hW=>(hV.below hW).cell.2.1
 have hto:s0++⟨#[48]⟩=dG (IG kind space):=by rw[hs0];exact Fb _ [48]
 obtain⟨S1,hS1⟩:∃l,l=span aS s1 (dG (IG kind space)) xs:=⟨_,rfl⟩
 have hsM:span aS (dG (gU kind space)) (dG (IG kind space)) M.tab=S1.map fun x=>(x.1,x.2.2):=by
  rw[hS1,hV.nD,hs1,FX (fun y:OV×aC=>y.2)]
 have hsT:span aS s1 (s0++⟨#[48]⟩) (xs.map fun x=>(x.1,x.2.1))=S1.map fun x=>(x.1,x.2.1):=by
  rw[hS1,hto,FX (fun y:OV×aC=>y.1)]
 have FZ:∀x∈S1,x∈xs:=fun x hx=>by rw[hS1] at hx;exact(jB.1 hx).1
 have hSlen:S1.length≤xs.length:=by rw[hS1];exact kZ _ _
 have hris:=hV.tH
 have pJ:Hid (∀(W:World) (x:ByteArray×(OV×aC)),x∈S1→Bw w W→Cl 45 #[pt gt,(.string x.1)] W fun e w'=>e=.returned (.tuple #[(.agg (ov x.2.1)),.bool true])∧Bw W w'):=Hj fun W x hx hW=>by
  obtain⟨i,hi⟩:=jT.1 (FZ x hx)
  refine kF gt x.1 x.2.1 sh _ W (hV.below hW).tab hris ?_
  exact fF dh hris (i:=i) (e:=(x.1,x.2.1)) (by rw[dK,hi];rfl)
 have HLen:Hid (∀W,TabAt W gt sh (xs.map fun x=>(x.1,x.2.1))→Cl 44 #[pt gt] W fun e w'=>e=.returned (.int .i64 (xs.length:Int))∧W=w'):=Hj fun W ht=>by
  have h:=F6 gt sh _ W ht
  rw[aX] at h
  exact h
 have HBtw:Hid (∀W,TabAt W gt sh (xs.map fun x=>(x.1,x.2.1))→Cl 43 #[pt gt,.string s1,.string (s0++⟨#[48]⟩),.int .i64 (xs.length:Int)] W fun e w'=>∃v,e=.returned v∧OT w' W.heap.size v (S1.map fun x=>x.1)∧Bw W w'):=Hj fun W ht=>by
  have hB:=MV gt s1 (s0++⟨#[48]⟩) (xs.length:Int) sh _ W ht hris (by rw[aX];omega)
  refine hB.mono ?_
  rintro e w' ⟨v,rfl,ho,hb⟩
  refine⟨v,rfl,?_,hb⟩
  have:Yh aS s1 (s0++⟨#[48]⟩) (xs.length:Int) (xs.map fun x=>(x.1,x.2.1))=S1.map fun x=>x.1:=by
   unfold Yh
   rw[hsT,iH,fO (by rw[aX];omega)]
   rfl
  rw[←this]
  exact ho
 have Gf:Hid (∀x∈S1,dD w x.2.1 x.2.2∧x.2.1.n≤1000000):=Hj fun x hx=>by
  refine⟨hV.each x (FZ x hx),?_⟩
  have hm2:(x.1,x.2.2)∈M.tab:=by rw[hV.nD];exact bW.2 ⟨x,FZ x hx,rfl⟩
  have:=(hV.ok.tab.each _ hm2).2.1.data
  rw[(hV.each x (FZ x hx)).num]
  simp only at this
  omega
 have HSM:=Hj hsM
 have hn0:S1.length≤100000:=by omega
 have hJ0:(0:Int)≤(J:Int):=by omega
 have hJ1:(J:Int)≤(s1.size:Int):=by omega
 clear h hk hs hl hV hxl hs1 hs0 hz1 hz0 hJ hJl hex hto hS1 hsM hsT FZ hSlen hris
 obtain⟨n,hn⟩:∃n,n=S1.length:=⟨_,rfl⟩
 have Hn:=Hj hn
 rw[←hn] at hn0
 clear hn
 go_enter Tryz.func15,Tryz.ntmps15
 go_wp2_with (go_at_call 42;(with_reducible refine HR.out.mono ?_);rintro e w2 ⟨rfl,hb2⟩;have HB2:=Hj hb2;have c1:w2.drew.cell? ⟨gs,1,none⟩=some (pt gt):=(HC.out w2 hb2:w2.cell? _=_);have HT2:Hid (TabAt w2.drew gt sh (xs.map fun x=>(x.1,x.2.1))):=Hj (Nj.out w2.drew ⟨hb2.os,hb2.tape,hb2.output,hb2.size,hb2.block⟩);clear hb2)
 refine wp_region_noPanic ?_
 refine wp_region_held_drew (S:=(fun w'=>w'.cell? ⟨gs,1,none⟩=some (pt gt))) (by kernel_rfl) ?_ (fun hHeld=> ?_)
 ·exact c1
 refine tk 0 hHeld ?_
 try simp only[pa]
 refine tk 1 hHeld ?_
 try simp only[pa]
 refine tk 2 hHeld ?_
 try simp only[pa]
 refine tk 3 hHeld ?_
 try simp only[pa]
 refine tk 4 hHeld ?_
 try simp only[pa]
 refine tk 5 hHeld ?_
 try simp only[pa]
 refine tk 6 hHeld ?_
 try simp only[pa]
 refine tk 7 hHeld ?_
 try simp only[pa]
 refine tk 8 hHeld ?_
 try simp only[pa]
 refine tk 9 hHeld ?_
 try simp only[pa]
 refine tk 10 hHeld ?_
 try simp only[pa]
 refine tk 11 hHeld ?_
 try simp only[pa]
 refine tk 12 hHeld ?_
 try simp only[pa]
 refine tk 13 hHeld ?_
 try simp only[pa]
 refine tk 14 hHeld ?_
 try simp only[pa]
 refine tk 18 hHeld ?_
 try simp only[pa]
 refine mD 15 rfl (fun K hK=> ?_)
 go_simp
 refine(HLen.out w2.drew HT2.out).mono ?_
 rintro e w' ⟨rfl,rfl⟩
 refine hK.out _ _ ?_ (fun hHeld=> ?_)
 ·exact hHeld
 clear hK K
 try simp only[pa]
 refine mD 16 rfl (fun K hK=> ?_)
 go_simp
 refine(HBtw.out w2.drew HT2.out).mono ?_
 rintro e wb ⟨vb,rfl,hob,hbb⟩
 obtain⟨Ab,cb,rfl,YX,hcb2⟩:=hob.form
 rw[aX,←Hn.out] at YX
 have Fj:Hid (Bw w wb):=Hj (HB2.out.trans (Below.mono ⟨hbb.os,hbb.tape,hbb.output,hbb.size,hbb.block⟩ HB2.out.size))
 have Xy:=Hj hob
 have HSb:=Hj (HC.out wb Fj.out)
 have HE:Hid (Value.slice Ab (S1.map fun x=>x.1).length cb=Value.slice Ab n cb):=Hj (by rw[aX,←Hn.out])
 rw[HE.out]
 clear hob hbb
 refine hK.out _ _ ?_ (fun hHeld=> ?_)
 ·exact HSb.out
 clear hK K
 try simp only[pa]
 refine tk 17 hHeld ?_
 try simp only[pa]
 refine wpAnyH_done (by kernel_rfl) ?_ _
 refine NoPanic.normal ?_
 go_wp2
 go_loopw [7,34] (fun v i wr=>∃(j:Nat) (os:List OV),j≤n∧i=.int .i64 (j:Int)∧os.length=j∧OL wr wb.heap.size v os∧xB wr wb.heap.size os ((S1.take j).map fun x=>(x.1,x.2.2))∧Bw wb wr) (fun _ i _=>n-(intOf i).toNat)
 case atStart=>exact⟨0,[],bU _,rfl,rfl,OL.nil _ _,fun i x hx=>by simp at hx,aj _ _⟩
 case round=>
  obtain⟨j,os,hj,rfl,hlen,hown,Gg,hbel⟩:=hrel
  have jg:=Hj hbel
  have Jq:Hid (Bw w wr):=Hj (Fj.out.trans (hbel.mono Fj.out.size))
  obtain⟨Ao,co,rfl,QN,hco2⟩:=ah.form hown
  rw[hlen] at QN
  have HO:=Hj hown
  have HEo:Hid (Value.slice Ao os.length co=Value.slice Ao j co):=Hj (by rw[hlen])
  rw[HEo.out] at HO ⊢
  have HLn:=Hj hlen
  have Gh:=Hj Gg
  clear hown Gg hbel hlen
  by_cases hlt:j<n
  ·obtain ⟨x,hx⟩:∃x,S1[j]?=some x:=⟨_,fJ (by rw[←Hn.out];exact hlt)⟩
   have hmem:x∈S1:=jT.2 ⟨j,hx⟩
   have HX:=Hj hx
   have YZ:=Hj hmem
   have hkey:∃b o,Ab=some ⟨b,o,none⟩∧wb.cell? ⟨b,o+j,none⟩=some (.string x.1):=by
    have hr:=RX.jd Xy.out
    obtain⟨b,o,e,hc⟩:=hr.2 (by rw[aX,←Hn.out];omega)
    refine⟨b,o,e,?_⟩
    have h1:=hc j (by rw[aX,←Hn.out];exact hlt)
    rw[nG,dK,dK,hx] at h1
    exact h1
   obtain⟨kb,ko,rfl,kc⟩:=hkey
   have k1:wr.cell? ⟨kb,ko+j,none⟩=some (.string x.1):=Kz jg.out _ _ kc
   have c2:wr.cell? ⟨gs,1,none⟩=some (pt gt):=HC.out wr Jq.out
   have HG:=Hj (pJ.out wr x hmem Jq.out)
   obtain⟨hi1,hi2⟩:=Gf.out x hmem
   have rH:=Hj hi1
   have Gi:=Hj hi2
   have z0:(0:Int)≤(j:Int):=by omega
   have z1:(j:Int)<(n:Int):=by omega
   clear hx hmem kc hi1 hi2
   go_wp2_with (first
    | (go_at_call 45;((refine HG.out.mono ?_);rintro e w3 ⟨rfl,hb3⟩;have HB3:=Hj hb3;clear hb3))
    | (go_at_call 46;(
     obtain⟨w4,hw4⟩:∃W,W=w3.alloc (.cells (ov x.2.1) 37):=⟨_,rfl⟩
     have QO:=(aj w3.heap.size w3).alloc Kv (.cells (ov x.2.1) 37)
     rw[←hw4] at QO
     have HB4:Hid (Bw wr w4):=Hj (HB3.out.trans (QO.mono HB3.out.size))
     rw[←hw4]
     (with_reducible refine(lQ x.2.1 w4 x.2.2.data (rH.out.below (Jq.out.trans (HB4.out.mono Jq.out.size))).rb Gi.out).mono ?_)
     rintro e w5 ⟨A5,c5,rfl,sZ,hb5⟩
     have EP:=Hj sZ
     have nH:Hid (Bw wr w5):=Hj (HB4.out.trans (hb5.mono HB4.out.size))
     have HU5:Hid (wb.heap.size≤w4.heap.size):=Hj (Cz jg.out.size HB4.out.size)
     clear sZ hb5 hw4 QO))
    | (at_builtin;(refine je (u:=⟨x.2.1.kind,x.2.1.space,x.2.1.name,x.2.1.ver,A5,x.2.1.n,c5⟩) rfl (.tmp 47) (.tmp 50) rfl (ah.alloc (HO.out.below nH.out) _) rfl (Src.obj w5 ⟨x.2.1.kind,x.2.1.space,x.2.1.name,x.2.1.ver,A5,x.2.1.n,c5⟩) rfl ?_ ?_ ?_;rotate_right;intro v1 w6 hown1 kU;replace hown1:=Hj hown1;replace kU:=Hj kU)))
   case refine_1=>rw[HLn.out];omega
   case refine_2=>rw[World.size_alloc];have h1:=jg.out.size;have h2:=nH.out.size;omega
   go_roundw
   case rel=>
    have Pq:Bw wb (w5.alloc (.cells #[.int .i64 x.2.1.kind,.string x.2.1.space,.string x.2.1.name,.int .i64 x.2.1.ver,.slice A5 x.2.1.n c5] 37)):=(jg.out.trans (nH.out.mono jg.out.size)).alloc (Cz jg.out.size nH.out.size) _
    have hold:=ah.alloc (HO.out.below nH.out) (.cells #[.int .i64 x.2.1.kind,.string x.2.1.space,.string x.2.1.name,.int .i64 x.2.1.ver,.slice A5 x.2.1.n c5] 37)
    have hgr:=Fr.bF kU.out
    have hap:∀(v:OV) (o:aC),dD (w5.alloc (.cells #[.int .i64 x.2.1.kind,.string x.2.1.space,.string x.2.1.name,.int .i64 x.2.1.ver,.slice A5 x.2.1.n c5] 37)) v o→dD w6 v o:=fun v o hv=>hv.fr hgr fun k hk e=>by
     obtain⟨cur,hc⟩:=au hv.data hk
     obtain⟨cur2,hc2⟩:=au hold e.symm
     exact absurd (ak hc hc2) (by decide)
    refine⟨j+1,os++[⟨x.2.1.kind,x.2.1.space,x.2.1.name,x.2.1.ver,A5,x.2.1.n,c5⟩],hlt,by go_num,by rw[bP,HLn.out];rfl,hown1.out,?_,Pq.grown kU.out (Cz jg.out.size (Cz nH.out.size (by rw[World.size_alloc];omega))) fun k hk=>(ah.lt hold k hk).1⟩
    rw[mO (by rw[←Hn.out];exact hlt),dI]
    have hx:=HX.out
    rw[fJ (by rw[←Hn.out];exact hlt)] at hx
    injection hx with hx
    rw[hx]
    have h5:dD w5 ⟨x.2.1.kind,x.2.1.space,x.2.1.name,x.2.1.ver,A5,x.2.1.n,c5⟩ x.2.2:=⟨rH.out.kind,rH.out.space,rH.out.name,rH.out.ver,rH.out.num,OB.mono EP.out (bU _)⟩
    refine xB.snoc (Gh.out.turn fun v o hv _=>hap v o ((hv.below nH.out).below ((aj _ _).alloc Kv _))) ?_ (x:=(x.1,x.2.2)) (hap _ _ (h5.below ((aj _ _).alloc Kv _))) fun k hk=>Cz HU5.out (ah.lt EP.out k hk).1
    rw[HLn.out,aX,eu,←Hn.out]
    omega
   case measure=>simp[intOf];omega
  ·obtain rfl:j=n:=by omega
   go_wp2
   go_ret
   refine⟨_,os,rfl,?_,by rw[HSM.out,aX,HLn.out,Hn.out],?_,Jq.out⟩
   ·exact ah.mono HO.out fun k hk=>Cz Fj.out.size (ah.lt HO.out k hk).1
   ·rw [HSM.out]
    have hj:=Gh.out
    rw[fO (by rw[←Hn.out];exact bZ _)] at hj
    exact fun i x hx=>let ⟨v,h1,h2,h3⟩:=hj i x hx;⟨v,h1,h2,fun k hk=>Cz Fj.out.size (h3 k hk)⟩
end
theorem flat_get {α β:Type} (f:α→List β) (s:Nat) (hf:∀y,(f y).length=s):∀(l:List α) (k:Nat) (y:α) (i:Nat) (x:β),l[k]?=some y→(f y)[i]?=some x→(l.flatMap f)[k*s+i]?=some x
 | [],k,y,i,x,h,_=>by simp at h
 | a::l,0,y,i,x,h,hx=>by
  simp at h
  subst h
  rw[List.flatMap_cons,Nat.zero_mul,dV,tJ (fA.1 hx).1]
  exact hx
 | a::l,k+1,y,i,x,h,hx=>by
  have h2:l[k]?=some y:=by simpa using h
  have ih:=flat_get f s hf l k y i x h2 hx
  rw[List.flatMap_cons,vW (by rw[hf,Nat.succ_mul];omega),hf,show (k+1)*s+i-s=k*s+i by rw[Nat.succ_mul];omega]
  exact ih
theorem elev:Tryz.prog.elem 95=99:=by simp[Program.elem,Tryz.underlying95]
theorem Nz (A:Option Addr) {n c E:Nat} (hn:E≤n) (hc:n≤c):∃AE,(∀W,(Instr.slice 95 (.slice A n c) (some (.int .i64 (E:Int))) none none).run Tryz.prog W=.ok (.slice AE (n-E) (c-E)) W)∧(E<n→∀g o,A=some ⟨g,o,none⟩→AE=some ⟨g,o+E*7,none⟩):=by
 have ht':Tryz.prog.underlying 95=some (.slice (Tryz.prog.elem 95)):=by rw[elev];exact Tryz.underlying95
 have hz:∀w,(Go.sizeOf 99).run Tryz.prog w=.ok 7 w:=fun w=>by
  obtain⟨i0,hi,hz0,hz1,hz2⟩:=dO Dj
  simp[sizeOf,typeInfo,hi,hz1]
 refine⟨if c=E then A else A.map (·.add (E*7)),fun W=> ?_,fun h g o e=>by rw[aG (by omega),e];simp[Addr.add]⟩
 rw[run_slice_l W 95 _ _ _ ht' .i64 _ (by omega) (by omega),elev,hz]
 simp[Result.andThen,sliced]
def EL (w:World) (base:Nat) (v:Value) (zs:List (Bool×(OV×aC))):Prop:=ah w base 99 7 v zs.length (iK zs)
theorem xC {ops:Array Oper} {rest:List Oper} {o:Oper} {a:Act} {w:World} {Q:Exit→Act→World→Prop} (hgd:o.guard=none) (s x:Operand)
  (ho:o.op=.call {callee:=.builtin .append,args:=#[s,x],argTypes:=#[95,95]})
  {base:Nat} {v:Value} {l:List (Bool×(OV×aC))} (hown:EL w base v l) (hs:a.eval s=v)
  {xv:Value} {d:Bool} {u:OV} {ob:aC} (hsrc:Src Tryz.prog 7 95 xv 1 (kS d ob.ver u) w) (hx:a.eval x=xv) (hbytes:l.length≤1000000) (hbase:base≤w.heap.size)
  (h:∀v' w',EL w' base v' (l++[(d,(u,ob))])→w.grownBy w' v.ownBlock→wpList Tryz.prog ops Q rest (a.put o.dst v') w'):wpList Tryz.prog ops Q (o::rest) a w:=by
 obtain⟨i0,hi,hz0,hz1,hz2⟩:=dO Dj
 refine dw hgd s x 95 95 ho i0 _ 88 Tryz.underlying95 hi hz0 hz1 hz2 rfl (by omega) hs hown xv 1 _ hx hsrc (by unfold maxLen;omega) (by omega) hbase fun v' w' h1 h2 _=> ?_
 refine h v' w' ?_ h2
 unfold EL
 rw[pX,bP]
 exact h1
section
variable {w w0:World} {Q:Nat→Prop} {g gs:Nat} {m:DM} {L:LM} {M:bQ} {ea:Nat→Addr}
theorem Gj (after:Int) (h:SW w0 w Q g m gs L M) (ha:0≤after) (hr:after≤(M.rev:Int)) (hb:(M.base:Int)≤after) (hl:M.evs.length≤100000) (hm:M.rev≤1099511627776):
  Cl 39 #[pt gs,.int .i64 after] w fun e w'=>∃v zs,e=.returned (.tuple #[v,.nilIface])∧EL w' w.heap.size v zs∧zs.map (fun y=>(y.1,y.2.2))=M.evs.drop (after.toNat-M.base)∧(∀y∈zs,dD w' y.2.1 y.2.2)∧Bw w w':=by
 obtain⟨Z,gl,gt,sh,ev,xs,ys,hV,-,-⟩:=h.use
 have hyl:ys.length=M.evs.length:=by have:=bJ List.length hV.IE;rw[aX] at this;omega
 have hnum:=hV.ok.num
 obtain⟨E,hE⟩:∃E,E=after.toNat-M.base:=⟨_,rfl⟩
 rw[←hE]
 have hEn:E≤ys.length:=by omega
 obtain⟨Av,cv,hev,hcv1,hcv2⟩:=ah.form hV.evs
 obtain⟨AE,hsl,hAE⟩:=Nz Av hEn hcv1
 have hw1:IntKind.i64.wrap (after-(M.base:Int))=(E:Int):=by rw[cO _ (by omega)];omega
 have hw2:wrap64 (after-(M.base:Int))=(E:Int):=by unfold wrap64;omega
 have c2:=hV.cell.2.2.1
 have c3:=hV.cell.2.2.2.1
 have HC:Hid (w.drew.cell? ⟨gs,4,none⟩=some (.slice Av ys.length cv)∧w.drew.cell? ⟨gs,3,none⟩=some (.int .i64 (M.base:Int))):=Hj ⟨by rw[←hev];exact Kq 4 hV.cells,c3⟩
 have HDr:Hid (M.evs.drop E=(ys.drop E).map fun y=>(y.1,y.2.2)):=Hj (by rw[hV.IE,List.map_drop])
 have HCell:Hid (∀(j:Nat) (y:Bool×(OV×aC)),ys[E+j]?=some y→∃lg lo,AE=some ⟨lg,lo,none⟩∧w.cell? ⟨lg,lo+j*7,none⟩=some (.int .i64 (y.2.2.ver:Int))∧w.cell? ⟨lg,lo+j*7+1,none⟩=some (.bool y.1)∧w.cell? ⟨lg,lo+j*7+2,none⟩=some (.int .i64 y.2.1.kind)∧w.cell? ⟨lg,lo+j*7+3,none⟩=some (.string y.2.1.space)∧w.cell? ⟨lg,lo+j*7+4,none⟩=some (.string y.2.1.name)∧w.cell? ⟨lg,lo+j*7+5,none⟩=some (.int .i64 y.2.1.ver)∧w.cell? ⟨lg,lo+j*7+6,none⟩=some (.slice y.2.1.A y.2.1.n y.2.1.c)):=Hj fun j y hy=>by
  have hlt:=(fA.1 hy).1
  obtain⟨lg,lo,cap,hv,_,_,hc⟩:=hV.evs.cells (by have:=hV.evs.1;omega)
  rw[hev] at hv
  injection hv with hA _ _
  refine⟨lg,lo+E*7,hAE (by omega) lg lo hA,?_⟩
  have hg:∀i x,([.int .i64 (y.2.2.ver:Int),.bool y.1,.int .i64 y.2.1.kind,.string y.2.1.space,.string y.2.1.name,.int .i64 y.2.1.ver,sl y.2.1]:List Value)[i]?=some x→w.cell? ⟨lg,lo+((E+j)*7+i),none⟩=some x:=fun i x hx=>hc _ x (flat_get _ 7 (fun _=>rfl) ys (E+j) y i x hy hx)
  have e0:∀i,lo+((E+j)*7+i)=lo+E*7+j*7+i:=fun i=>by omega
  refine⟨?_,?_,?_,?_,?_,?_,?_⟩
  ·have:=hg 0 _ rfl;rw[e0] at this;exact this
  ·have:=hg 1 _ rfl;rw[e0] at this;exact this
  ·have:=hg 2 _ rfl;rw[e0] at this;exact this
  ·have:=hg 3 _ rfl;rw[e0] at this;exact this
  ·have:=hg 4 _ rfl;rw[e0] at this;exact this
  ·have:=hg 5 _ rfl;rw[e0] at this;exact this
  ·have:=hg 6 _ rfl;rw[e0] at this;exact this
 have Gf:Hid (∀y∈ys,dD w y.2.1 y.2.2∧y.2.1.n≤1000000):=Hj fun y hy=>by
  refine⟨hV.kY y hy,?_⟩
  obtain⟨k,hk⟩:=jT.1 hy
  have hm:M.evs[k]?=some (y.1,y.2.2):=by rw[hV.IE,dK,hk];rfl
  have:=(hV.ok.evs k _ hm).2.data
  rw[(hV.kY y hy).num]
  simp only at this
  omega
 obtain⟨n,hn⟩:∃n,n=ys.length-E:=⟨_,rfl⟩
 have hn0:n≤100000:=by omega
 have hcn:n≤cv-E:=by omega
 have Hn:Hid (E+n=ys.length):=Hj (by omega)
 have hsl2:∀W,(Instr.slice 95 (.slice Av ys.length cv) (some (.int .i64 (E:Int))) none none).run Tryz.prog W=.ok (.slice AE n (cv-E)) W:=by rw[hn];exact hsl
 have hbe:¬after<(M.base:Int):=by omega
 obtain⟨ce,hce⟩:∃c,c=cv-E:=⟨_,rfl⟩
 rw[←hce] at hcn hsl2
 clear h hV hl hE hnum hyl hEn hcv1 hcv2 hsl hAE hev hn hce hm
 go_enter Tryz.func39,Tryz.ntmps39
 go_wp2
 clear c2 c3
 refine wp_region_noPanic ?_
 refine wp_region_held_drew (S:=(fun w'=>w'.cell? ⟨gs,4,none⟩=some (.slice Av ys.length cv)∧w'.cell? ⟨gs,3,none⟩=some (.int .i64 (M.base:Int)))) (by kernel_rfl) ?_ (fun hHeld=> ?_)
 ·exact HC.out
 refine tk 0 hHeld ?_
 try simp only[pa]
 refine tk 1 hHeld ?_
 try simp only[pa]
 refine tk 2 hHeld ?_
 try simp only[pa]
 refine tk 3 hHeld ?_
 try simp only[pa]
 refine tk 4 hHeld ?_
 try simp only[pa]
 refine tk 5 hHeld ?_
 try simp only[pa]
 refine tk 6 hHeld ?_
 try simp only[pa]
 refine tk 7 hHeld ?_
 try simp only[pa]
 refine tk 8 hHeld ?_
 try simp only[pa]
 refine tk 9 hHeld ?_
 try simp only[pa]
 refine tk 10 hHeld ?_
 try simp only[pa]
 refine tk 11 hHeld ?_
 try simp only[pa]
 refine tk 12 hHeld ?_
 try simp only[pa]
 refine wpAnyH_done (by kernel_rfl) ?_ _
 refine NoPanic.normal ?_
 go_wp2
 clear hw1 hw2 hsl2
 go_loopw [6,41] (fun v i wr=>∃(j:Nat) (zs:List (Bool×(OV×aC))),j≤n∧i=.int .i64 (j:Int)∧zs.length=j∧EL wr w.heap.size v zs∧zs.map (fun y=>(y.1,y.2.2))=((ys.drop E).take j).map (fun y=>(y.1,y.2.2))∧(∀y∈zs,dD wr y.2.1 y.2.2)∧Bw w wr) (fun _ i _=>n-(intOf i).toNat)
 case atStart=>exact⟨0,[],bU _,rfl,rfl,ah.nil _ _ _ _,rfl,fun y hy=>(by cases hy),bK (aj _ _)⟩
 case round=>
  obtain⟨j,zs,hj,rfl,hlen,hown,hmap,Gg,hbel⟩:=hrel
  have jg:=Hj hbel
  obtain⟨Ao,co,rfl,QN,hco2⟩:=ah.form hown
  rw[hlen] at QN
  have HO:=Hj hown
  have HEo:Hid (Value.slice Ao zs.length co=Value.slice Ao j co):=Hj (by rw[hlen])
  rw[HEo.out] at HO ⊢
  have HLn:=Hj hlen
  have Gh:=Hj Gg
  have HMap:=Hj hmap
  clear hown Gg hbel hlen hmap
  by_cases hlt:j<n
  ·obtain ⟨y,hy⟩:∃y,ys[E+j]?=some y:=⟨_,fJ (by rw[←Hn.out];omega)⟩
   have HY:=Hj hy
   obtain⟨lg,lo,rfl,k0,k1,k2,k3,k4,k5,k6⟩:=HCell.out j y hy
   replace k0:=Kz jg.out _ _ k0
   replace k1:=Kz jg.out _ _ k1
   replace k2:=Kz jg.out _ _ k2
   replace k3:=Kz jg.out _ _ k3
   replace k4:=Kz jg.out _ _ k4
   replace k5:=Kz jg.out _ _ k5
   replace k6:=Kz jg.out _ _ k6
   obtain⟨hi1,hi2⟩:=Gf.out y (jT.2 ⟨_,hy⟩)
   have rH:=Hj hi1
   have Gi:=Hj hi2
   have z0:(0:Int)≤(j:Int):=by omega
   have z1:(j:Int)<(n:Int):=by omega
   clear hy hi1 hi2
   go_wp2_with (first
    | (go_at_call 46;(
     obtain⟨w4,hw4⟩:∃W,W=wr.alloc (.cells #[.int .i64 (y.2.2.ver:Int),.bool y.1,.int .i64 y.2.1.kind,.string y.2.1.space,.string y.2.1.name,.int .i64 y.2.1.ver,.slice y.2.1.A y.2.1.n y.2.1.c] 99):=⟨_,rfl⟩
     obtain⟨B8,hB8⟩:∃B,B=wr.heap.size:=⟨_,rfl⟩
     have QO:=(aj wr.heap.size wr).alloc Kv (.cells #[.int .i64 (y.2.2.ver:Int),.bool y.1,.int .i64 y.2.1.kind,.string y.2.1.space,.string y.2.1.name,.int .i64 y.2.1.ver,.slice y.2.1.A y.2.1.n y.2.1.c] 99)
     have wI:=aA wr (.cells #[.int .i64 (y.2.2.ver:Int),.bool y.1,.int .i64 y.2.1.kind,.string y.2.1.space,.string y.2.1.name,.int .i64 y.2.1.ver,.slice y.2.1.A y.2.1.n y.2.1.c] 99)
     rw[←hw4] at QO wI
     rw[←hB8] at wI
     have HB4:=Hj QO
     rw[←hw4]
     rw[←hB8]
     (with_reducible refine(lQ y.2.1 w4 y.2.2.data (rH.out.below (jg.out.trans (HB4.out.mono jg.out.size))).rb Gi.out).mono ?_)
     rintro e w5 ⟨A5,c5,rfl,sZ,hb5⟩
     have EP:=Hj sZ
     have nH:Hid (Bw wr w5):=Hj (HB4.out.trans (hb5.mono HB4.out.size))
     have HU8:Hid (wr.heap.size≤B8):=Hj (Nat.le_of_eq hB8.symm)
     have HU5:Hid (wr.heap.size≤w4.heap.size):=Hj HB4.out.size
     have Le:=(hb5.block B8 (Cq wI)).trans wI
     have Nc:=Hj Le
     obtain⟨d0,d1,d2,d3,d4,d5,d6⟩:=uT Le
     have fx:∀k,w5.frozen? ⟨B8,k,none⟩=false:=fun k=>Kj Le
     clear hB8 sZ hb5 hw4 QO wI Le k0 k1 k2 k3 k4 k5 k6))
    | (at_builtin;(
     obtain⟨w6,hw6⟩:∃W,W=(((((w5.setCell ⟨B8,2,none⟩ (.int .i64 y.2.1.kind)).setCell ⟨B8,3,none⟩ (.string y.2.1.space)).setCell ⟨B8,4,none⟩ (.string y.2.1.name)).setCell ⟨B8,5,none⟩ (.int .i64 y.2.1.ver)).setCell ⟨B8,6,none⟩ (.slice A5 y.2.1.n c5)):=⟨_,rfl⟩
     have yx:Hid (Bw wr w6):=Hj (by rw[hw6];exact(Below.setCell (Below.setCell (Below.setCell (Below.setCell (Below.setCell nH.out (p:=⟨B8,2,none⟩) HU8.out (.int .i64 y.2.1.kind)) (p:=⟨B8,3,none⟩) HU8.out (.string y.2.1.space)) (p:=⟨B8,4,none⟩) HU8.out (.string y.2.1.name)) (p:=⟨B8,5,none⟩) HU8.out (.int .i64 y.2.1.ver)) (p:=⟨B8,6,none⟩) HU8.out (.slice A5 y.2.1.n c5)))
     have HF6:Hid (Fr (fun k=>k=B8) w5 w6):=Hj (by rw[hw6];exact(Fr.setCell (Fr.setCell (Fr.setCell (Fr.setCell (Fr.setCell (Fr.refl (fun k=>k=B8) w5) (p:=⟨B8,2,none⟩) (fun _=>rfl) (.int .i64 y.2.1.kind)) (p:=⟨B8,3,none⟩) (fun _=>rfl) (.string y.2.1.space)) (p:=⟨B8,4,none⟩) (fun _=>rfl) (.string y.2.1.name)) (p:=⟨B8,5,none⟩) (fun _=>rfl) (.int .i64 y.2.1.ver)) (p:=⟨B8,6,none⟩) (fun _=>rfl) (.slice A5 y.2.1.n c5)))
     have hz:w5.heap.size=w6.heap.size:=(by rw[hw6];simp)
     rw[←hw6]
     try rw[hz]
     clear hw6 hz d0 d1 d2 d3 d4 d5 d6 fx
     refine xC (d:=y.1) (ob:=y.2.2) (u:=⟨y.2.1.kind,y.2.1.space,y.2.1.name,y.2.1.ver,A5,y.2.1.n,c5⟩) rfl (.tmp 49) (.tmp 51) rfl (ah.alloc (HO.out.below yx.out) _) rfl (Src.ev w6 y.1 y.2.2.ver ⟨y.2.1.kind,y.2.1.space,y.2.1.name,y.2.1.ver,A5,y.2.1.n,c5⟩) rfl ?_ ?_ ?_;rotate_right;intro v1 w7 hown1 kU;replace hown1:=Hj hown1;replace kU:=Hj kU)))
   case refine_1=>rw[HLn.out];omega
   case refine_2=>rw[World.size_alloc];have h1:=jg.out.size;have h2:=yx.out.size;omega
   go_roundw
   case rel=>
    have hB7:Bw w (w6.alloc (.cells #[.int .i64 (y.2.2.ver:Int),.bool y.1,.int .i64 y.2.1.kind,.string y.2.1.space,.string y.2.1.name,.int .i64 y.2.1.ver,.slice A5 y.2.1.n c5] 99)):=(jg.out.trans (yx.out.mono jg.out.size)).alloc (Cz jg.out.size yx.out.size) _
    have hold:=ah.alloc (HO.out.below yx.out) (.cells #[.int .i64 (y.2.2.ver:Int),.bool y.1,.int .i64 y.2.1.kind,.string y.2.1.space,.string y.2.1.name,.int .i64 y.2.1.ver,.slice A5 y.2.1.n c5] 99)
    have hgr:=Fr.bF kU.out
    have hap:∀(v:OV) (o:aC),dD (w6.alloc (.cells #[.int .i64 (y.2.2.ver:Int),.bool y.1,.int .i64 y.2.1.kind,.string y.2.1.space,.string y.2.1.name,.int .i64 y.2.1.ver,.slice A5 y.2.1.n c5] 99)) v o→dD w7 v o:=fun v o hv=>hv.fr hgr fun k hk e=>by
     obtain⟨cur,hc⟩:=au hv.data hk
     obtain⟨cur2,hc2⟩:=au hold e.symm
     exact absurd (ak hc hc2) (by decide)
    have hx2:(ys.drop E)[j]?=some y:=by rw[List.getElem?_drop];exact HY.out
    have hjl:j<(ys.drop E).length:=(fA.1 hx2).1
    refine⟨j+1,zs++[(y.1,(⟨y.2.1.kind,y.2.1.space,y.2.1.name,y.2.1.ver,A5,y.2.1.n,c5⟩,y.2.2))],hlt,by go_num,by rw[bP,HLn.out];rfl,hown1.out,?_,?_,hB7.grown kU.out (Cz jg.out.size (Cz yx.out.size (by rw[World.size_alloc];omega))) fun k hk=>(ah.lt hold k hk).1⟩
    ·rw [mO hjl,dI,dI,HMap.out]
     rw[fJ hjl] at hx2
     injection hx2 with hx2
     rw[hx2]
     rfl
    ·intro z hz
     have h5:dD w6 ⟨y.2.1.kind,y.2.1.space,y.2.1.name,y.2.1.ver,A5,y.2.1.n,c5⟩ y.2.2:=⟨rH.out.kind,rH.out.space,rH.out.name,rH.out.ver,rH.out.num,OB.eY (OB.mono EP.out (bU _)) fun k hk=>HF6.out.block k (ah.lt EP.out k hk).2 fun e=>by
      obtain⟨cur,hc⟩:=au EP.out hk
      rw[e] at hc
      exact absurd (ak hc Nc.out) (by decide)⟩
     rcases iO.1 hz with hz | hz
     ·exact hap _ _ (((Gh.out z hz).below yx.out).below ((aj _ _).alloc Kv _))
     ·rw [iq] at hz
      subst hz
      exact hap _ _ (h5.below ((aj _ _).alloc Kv _))
   case measure=>simp[intOf];omega
  ·obtain rfl:j=n:=by omega
   go_wp2
   go_ret2
   refine⟨_,zs,rfl,HO.out,?_,Gh.out,jg.out⟩
   rw[HDr.out,HMap.out,fO (by rw[lu];have:=Hn.out;omega)]
end
end Go.Proofs.YtdhbpajamlfacaaGreatDoor
