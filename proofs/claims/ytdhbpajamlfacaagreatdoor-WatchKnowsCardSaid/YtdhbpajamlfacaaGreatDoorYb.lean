/- Layer 21 (watch): what a watcher of one kind and space knows, plainly. No program in sight. -/
import Derived.Test.YtdhbpajamlfacaaGreatDoorWo
namespace Go.Proofs.YtdhbpajamlfacaaGreatDoor
open Go.RowKit SO
section
variable {κ κ' ν:Type} {lt:κ→κ→Bool} {lt':κ'→κ'→Bool}
theorem UD {k:κ} {v:ν} {l:List (κ×ν)} (h:∀x∈l,lt k x.1=true):ins lt k v l=(k,v)::l:=by
 cases l with
 | nil=>rfl
 | cons x l=>simp[ins,h x (by simp)]
theorem UE {k:κ} {l:List (κ×ν)} (h:∀x∈l,lt k x.1=true):rem lt k l=l:=by
 cases l with
 | nil=>rfl
 | cons x l=>simp[rem,h x (by simp)]
theorem uM (Ln:rY lt) (q:κ→Bool) (k:κ) (v:ν):∀l:List (κ×ν),aO lt l→(ins lt k v l).filter (fun x=>q x.1)=(if q k=true then ins lt k v (l.filter fun x=>q x.1) else l.filter fun x=>q x.1)∧(rem lt k l).filter (fun x=>q x.1)=(if q k=true then rem lt k (l.filter fun x=>q x.1) else l.filter fun x=>q x.1)
 | [],_=>by cases hq:q k<;>simp[ins,rem,hq]
 | x::l,h=>by
  obtain⟨i1,i2⟩:=uM Ln q k v l h.tail
  have hl:=(List.pairwise_cons.1 h).1
  cases h1:lt k x.1 with
  | true=>
   have hlow:∀y∈(x::l).filter (fun x=>q x.1),lt k y.1=true:=fun y hy=>by
    rcases List.mem_cons.1 (List.mem_filter.1 hy).1 with e | e
    ·rw [e];exact h1
    ·exact Ln.tr _ _ _ h1 (hl y e)
   have e1:ins lt k v (x::l)=(k,v)::x::l:=by simp[ins,h1]
   have e2:rem lt k (x::l)=x::l:=by simp[rem,h1]
   rw[e1,e2,UD hlow,UE hlow,List.filter_cons]
   cases hq:q k<;>simp
  | false=>
   cases h2:lt x.1 k with
   | true=>
    have e1:ins lt k v (x::l)=x::ins lt k v l:=by simp[ins,h1,h2]
    have e2:rem lt k (x::l)=x::rem lt k l:=by simp[rem,h1,h2]
    rw[e1,e2,List.filter_cons,List.filter_cons,List.filter_cons,i1,i2]
    cases hx:q x.1<;>cases hq:q k<;>simp[ins,rem,h1,h2]
   | false=>
    have e:=Ln.tri _ _ h1 h2
    have e1:ins lt k v (x::l)=(k,v)::l:=by simp[ins,h1,h2]
    have e2:rem lt k (x::l)=l:=by simp[rem,h1,h2]
    rw[e1,e2,List.filter_cons,List.filter_cons,←e]
    cases hq:q k<;>simp[ins,rem,←e,Ln.X5]
theorem Fe (g:ν→κ') {k:κ} {v:ν} {k':κ'} (hv:k'=g v):∀l:List (κ×ν),(∀x∈l,lt k x.1=lt' k' (g x.2)∧lt x.1 k=lt' (g x.2) k')→(ins lt k v l).map (fun x=>(g x.2,x.2))=ins lt' k' v (l.map fun x=>(g x.2,x.2))∧(rem lt k l).map (fun x=>(g x.2,x.2))=rem lt' k' (l.map fun x=>(g x.2,x.2))
 | [],_=>by subst hv;exact⟨rfl,rfl⟩
 | x::l,h=>by
  obtain⟨i1,i2⟩:=Fe g hv l fun y hy=>h y (List.mem_cons_of_mem _ hy)
  obtain⟨h1,h2⟩:=h x (by simp)
  simp only[ins,rem,List.map_cons,←h1,←h2]
  cases lt k x.1 with
  | true=>subst hv;exact⟨rfl,rfl⟩
  | false=>
   cases lt x.1 k with
   | true=>simp only[Bool.false_eq_true,if_false,if_true,List.map_cons,i1,i2,and_self]
   | false=>subst hv;exact⟨rfl,rfl⟩
end
def wk (o:aH):ByteArray:=wkey o.space o.name
/-- What is to be known of a store's objects. -/
def lG (K:Nat) (S:ByteArray) (T:List (ByteArray×aH)):List (ByteArray×aH):=(span aJ (bF (dZ (K:Int) S)) (bF (yP (K:Int) S)) T).map fun x=>(wk x.2,x.2)
theorem Jq (p a b:List UInt8):aJ (bF (p++a)) (bF (p++b))=Op.bytesLess a b:=by unfold aJ;rw[aZ,aZ,wK]
theorem Ce {x y:aH} (h1:x.kind=y.kind) (h2:x.space=y.space):aJ (aN x) (aN y)=aJ (wk x) (wk y):=by
 have e:∀o,wk o=bF ((o.space.data.toList++[47])++o.name.data.toList):=fun o=>by simp[wk,wkey]
 rw[e,e]
 unfold aN ji
 rw[h1,h2,Jq,Jq]
theorem UF {o:aH} (ho:o.Ok) {K:Nat} {S:ByteArray} (hK:K≤7) (hS:oI S):(!aJ (aN o) (bF (dZ (K:Int) S))&&aJ (aN o) (bF (yP (K:Int) S)))=Mc (K:Int) S false o:=by
 unfold Mc
 rw[Bool.eq_iff_iff,Bool.and_eq_true,Bool.not_eq_true',Bool.false_or,Bool.and_eq_true,decide_eq_true_iff,decide_eq_true_iff]
 refine⟨fun⟨e1,e2⟩=>(Gv ho hK hS e1 e2).imp (fun e=>by rw[e]) id,fun⟨e1,e2⟩=> ?_⟩
 unfold aJ aN ji
 rw[e1,e2,aZ,aZ,aZ]
 have h1:dZ (K:Int) S++o.name.data.toList=(iF (K:Int)++[47]++S.data.toList)++47::o.name.data.toList:=by simp[dZ]
 rw[h1]
 exact Vj _ _
section
variable {M M':aY} {K cur:Nat} {S:ByteArray} {Kl K':List (ByteArray×aH)} {lp ld:List aH} {an:Bool}
theorem Ci (h:M.Ok) (hK:K≤7) (hS:oI S) {x:ByteArray×aH} (hx:x∈span aJ (bF (dZ (K:Int) S)) (bF (yP (K:Int) S)) M.tab):x.1=aN x.2∧x.2.kind=K∧x.2.space=S:=by
 obtain⟨h1,h2⟩:=List.mem_filter.1 hx
 obtain⟨hk,hok,-⟩:=h.tab.each x h1
 rw[Bool.and_eq_true,Bool.not_eq_true',hk] at h2
 exact⟨hk,Gv hok hK hS h2.1 h2.2⟩
/-- A change, taken. -/
theorem XJ (h:M.Ok) {e:Bool×aH} (c:M.Can e) (hK:K≤7) (hS:oI S):∃e',(M.app e).evs=M.evs++[e']∧lC (K:Int) S false (lG K S M.tab) e'=lG K S (M.app e).tab:=by
 have hq:=UF c.ok hK hS
 obtain⟨f1,f2⟩:=uM gB (fun k=> !aJ k (bF (dZ (K:Int) S))&&aJ k (bF (yP (K:Int) S))) (aN e.2) e.2 M.tab h.tab.CX
 simp only[hq] at f1 f2
 have hm:Mc (K:Int) S false e.2=true→_:=fun hf=>Fe (lt:=aJ) (lt':=aJ) wk (k:=aN e.2) (v:=e.2) rfl (span aJ (bF (dZ (K:Int) S)) (bF (yP (K:Int) S)) M.tab) fun x hx=>by
  obtain⟨k1,k2,k3⟩:=Ci h hK hS hx
  unfold Mc at hf
  rw[Bool.and_eq_true,Bool.false_or,decide_eq_true_iff,decide_eq_true_iff] at hf
  have g1:e.2.kind=x.2.kind:=by have:=hf.1;omega
  have g2:e.2.space=x.2.space:=by rw[hf.2,k3]
  rw[k1]
  exact⟨Ce g1 g2,Ce g1.symm g2.symm⟩
 unfold aY.app
 cases he:e.1 with
 | true=>
  refine⟨_,rfl,?_⟩
  show (if Mc (K:Int) S false e.2=true then rem aJ (wk e.2) (lG K S M.tab) else lG K S M.tab)=((rem aJ (aN e.2) M.tab).filter _).map _
  rw[f2]
  cases hf:Mc (K:Int) S false e.2 with
  | true=>exact(hm hf).2.symm
  | false=>rfl
 | false=>
  refine⟨_,rfl,?_⟩
  show (if Mc (K:Int) S false e.2=true then ins aJ (wk e.2) e.2 (lG K S M.tab) else lG K S M.tab)=((ins aJ (aN e.2) e.2 M.tab).filter _).map _
  rw[f1]
  cases hf:Mc (K:Int) S false e.2 with
  | true=>exact(hm hf).1.symm
  | false=>rfl
theorem QT:mF M (K:Int) S false=(lG K S M.tab).map fun x=>x.2:=by
 unfold mF lG
 rw[List.map_map]
 rfl
theorem Fg:∀(l pre:List (ByteArray×aH)),aO aJ (pre++l)→(∀x∈l,x.1=wk x.2)→(l.map fun x=>x.2).foldl nY pre=pre++l
 | [],pre,_,_=>(List.append_nil pre).symm
 | x::l,pre,h,hk=>by
  have e:nY pre x.2=pre++[x]:=by
   have hx:=hk x (by simp)
   obtain⟨k,o⟩:=x
   dsimp only at hx ⊢
   subst hx
   exact Jf gB h.below
  have:=Fg l (pre++[x]) (by rw[List.append_assoc];exact h) fun y hy=>hk y (List.mem_cons_of_mem _ hy)
  rw[List.map_cons,List.foldl_cons,e,this,List.append_assoc]
  rfl
theorem XK (h:M.Ok) (hK:K≤7) (hS:oI S):(mF M (K:Int) S false).foldl nY []=lG K S M.tab:=by
 rw[QT]
 refine Fg _ [] ?_ fun x hx=> ?_
 ·rw [List.nil_append]
  unfold aO lG
  rw[List.pairwise_map]
  refine List.Pairwise.imp_of_mem (fun {a b} ha hb hab=> ?_) (List.Pairwise.filter _ h.tab.CX)
  obtain⟨a1,a2,a3⟩:=Ci h hK hS ha
  obtain⟨b1,b2,b3⟩:=Ci h hK hS hb
  rw[a1,b1] at hab
  rw[←Ce (by rw[a2,b2]) (by rw[a3,b3])]
  exact hab
 ·obtain ⟨y,hy,rfl⟩:=List.mem_map.1 hx
  rfl
/-- One who goes on from cur knows what is there. -/
def xP (K:Nat) (S:ByteArray) (M:aY) (cur:Nat) (Kl:List (ByteArray×aH)):Prop:=cur≤M.rev∧(M.base≤cur→(M.evs.drop (cur-M.base)).foldl (lC (K:Int) S false) Kl=lG K S M.tab)
theorem xP.app (h:M.Ok) (hw:xP K S M cur Kl) {e:Bool×aH} (c:M.Can e) (hK:K≤7) (hS:oI S):xP K S (M.app e) cur Kl:=by
 obtain⟨e',h1,h2⟩:=XJ h c hK hS
 obtain⟨w1,w2⟩:=hw
 refine⟨by rw[vg,c.ver];omega,fun hb=> ?_⟩
 rw[qx] at hb ⊢
 rw[h1,List.drop_append_of_le_length (by have:=h.num;omega),List.foldl_append,w2 hb]
 exact h2
theorem xP.fresh (h:M.Ok) (hw:xP K S M cur Kl):xP K S M.fresh cur Kl:=by
 obtain⟨w1,w2⟩:=hw
 refine⟨w1,fun hb=> ?_⟩
 have hb':M.rev≤cur:=hb
 have e:cur=M.rev:=by omega
 subst e
 have:=w2 h.le
 rw[List.drop_eq_nil_of_le (by have:=h.num;omega)] at this
 show (List.drop _ []).foldl _ _=_
 rw[List.drop_nil]
 exact this
theorem xP.turn (h:M.Ok) (hw:xP K S M cur Kl) (ht:Turn M M') (hK:K≤7) (hS:oI S):xP K S M' cur Kl:=by
 obtain⟨X,hX,hM'⟩:=ht
 have hx:X.Ok∧xP K S X cur Kl:=by
  rcases hX with rfl | rfl
  ·exact ⟨h,hw⟩
  ·exact ⟨aY.vW h.tab h.most,hw.fresh h⟩
 rcases hM' with rfl | ⟨e,c,rfl⟩
 ·exact hx.2
 ·exact hx.2.app hx.1 c hK hS
theorem Turn.base (ht:Turn M M') (h:M.Ok):M'.base≤M.rev:=by
 obtain⟨X,hX,hM'⟩:=ht
 have hx:X.base≤M.rev:=by
  rcases hX with rfl | rfl
  ·exact h.le
  ·exact Nat.le_refl M.rev
 rcases hM' with rfl | ⟨e,c,rfl⟩
 ·exact hx
 ·rw [qx];exact hx
theorem xP.start:xP K S st0 0 []:=⟨Nat.le_refl _,fun _=>rfl⟩
theorem xP.now (h:M.Ok):xP K S M M.rev (lG K S M.tab):=⟨Nat.le_refl _,fun _=>by rw[List.drop_eq_nil_of_le (by have:=h.num;omega)];rfl⟩
/-- Behind a Sync it knows just what is there. -/
theorem xP.sync (h:M.Ok) (hw:xP K S M cur Kl) (hs:VH M (K:Int) S false cur Kl an K' lp ld) (hK:K≤7) (hS:oI S):K'=lG K S M.tab:=by
 rcases hs with ⟨-,-,rfl,-,-⟩ | ⟨hb,-,rfl,-,-⟩
 ·exact XK h hK hS
 ·exact hw.2 hb
end
end Go.Proofs.YtdhbpajamlfacaaGreatDoor
