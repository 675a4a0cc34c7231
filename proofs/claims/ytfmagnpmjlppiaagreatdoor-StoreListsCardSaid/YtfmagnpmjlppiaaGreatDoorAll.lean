/- Layer 3 (tlv): all elements of bytes. -/
import Derived.Test.YtfmagnpmjlppiaaGreatDoorTlvC
import Derived.Test.YtfmagnpmjlppiaaGreatDoorDerW
import Derived.Test.YtfmagnpmjlppiaaGreatDoorDiskOps
namespace Go.Proofs.YtfmagnpmjlppiaaGreatDoor
open Go.RowKit
theorem info_elt : (Tryz.prog.info? 141).map (fun i => (i.zero, i.size, i.bytes)) = some (some (.agg #[.int .i64 0, .slice none 0 0]), 2, 32) := by kernel_rfl
theorem wpList_append_el {ops : Array Oper} {rest : List Oper} {o : Oper} {a : Act} {w : World} {Q : Exit → Act → World → Prop} (hgd : o.guard = none) (s x : Operand)
  (ho : o.op = .call { callee := .builtin .append, args := #[s, x], argTypes := #[137, 137] })
  {base : Nat} {v : Value} {n : Nat} {ws : List Value} (hown : OwnS w base 141 2 v n ws) (hs : a.eval s = v)
  {xv : Value} {news : List Value} (hsrc : Src Tryz.prog 2 137 xv 1 news w) (hx : a.eval x = xv) (hbytes : n ≤ 1048576) (hbase : base ≤ w.heap.size)
  (h : ∀ v' w', OwnS w' base 141 2 v' (n + 1) (ws ++ news) → w.grownBy w' v.ownBlock → (v'.ownBlock = v.ownBlock ∨ v'.ownBlock = some w.heap.size) → wpList Tryz.prog ops Q rest (a.put o.dst v') w') : wpList Tryz.prog ops Q (o :: rest) a w := by
 obtain ⟨i0, hi, hz0, hz1, hz2⟩ := info_parts4 info_elt
 exact wpList_append_ownS hgd s x 137 137 ho i0 _ 32 Tryz.underlying137 hi hz0 hz1 hz2 rfl (by omega) hs hown xv 1 news hx hsrc (by unfold maxLen; omega) (by omega) hbase fun v' w' h1 h2 h3 => h v' w' h1 h2 h3
/-- An element's cells. -/
def elc (x : Nat × List UInt8 × Value) : List Value := [.int .i64 (x.1 : Int), x.2.2]
theorem elems_len : ∀ ks : List (Nat × List UInt8), ks.length ≤ (elemsB ks).length
 | [] => by simp [elemsB]
 | k :: ks => by
  have h1 := elems_len ks
  have h2 := elemB_pos k.1 k.2
  rw [elemsB_cons, List.length_append, List.length_cons]
  omega

set_option maxHeartbeats 2000000 in
set_option maxRecDepth 100000 in
theorem All_any (A : Option Addr) (m c : Nat) (ks : List (Nat × List UInt8)) (w : World) (hp : ∀ k ∈ ks, Tag (k.1 : Int) ∧ k.1 < 256 ∧ k.2.length ≤ 65530) (hb : RB w A m (elemsB ks)) (hmc : m ≤ c) (hc : c ≤ maxLen) (hm : m ≤ 1048576) :
  Calls Tryz.prog 74 #[.slice A m c] w fun e w' => ∃ (A' : Option Addr) (c' : Nat) (xs : List (Nat × List UInt8 × Value)), e = .returned (.tuple #[.slice A' ks.length c', .nilIface]) ∧ OwnS w' w.heap.size 141 2 (.slice A' ks.length c') ks.length (xs.flatMap elc) ∧ xs.map (fun x => (x.1, x.2.1)) = ks ∧ (∀ x ∈ xs, OB w' w.heap.size x.2.2 x.2.1) ∧ Below w.heap.size w w' := by
 have HP := Hj hp
 have HKL : Hid (ks.length ≤ 1048576) := Hj (by have := elems_len ks; have := hb.1; omega)
 have HEL : Hid ((elemsB ks).length ≤ 1048576) := Hj (by have := hb.1; omega)
 have HB := Hj hb
 have HMC := Hj hmc
 have HC := Hj hc
 clear hp hb hmc hc hm
 go_enter Tryz.func74, Tryz.ntmps74
 go_wp2
 go_loopg [0, 4] ks.length (fun gk s0 s4 wr => ∃ (xs : List (Nat × List UInt8 × Value)) (rs : List (Nat × List UInt8)) (A : Option Addr) (m c : Nat), s0 = .slice A m c ∧ RB wr A m (elemsB rs) ∧ m ≤ c ∧ c ≤ maxLen ∧ OwnS wr w.heap.size 141 2 s4 xs.length (xs.flatMap elc) ∧ (∀ x ∈ xs, OB wr w.heap.size x.2.2 x.2.1) ∧ xs.map (fun x => (x.1, x.2.1)) ++ rs = ks ∧ rs.length = gk ∧ (elemsB rs).length ≤ 1048576 ∧ Below w.heap.size w wr)
 case atStart => exact ⟨[], ks, A, m, c, rfl, HB.out, HMC.out, HC.out, OwnS.nil _ _ _ _, fun x hx => (by cases hx), rfl, rfl, HEL.out, Below.refl _ _⟩
 case round =>
  obtain ⟨xs, rs, A2, m2, c2, rfl, hrb, hmc2, hc2, hown, hall, hcat, hlen, hel, hbel⟩ := hrel
  have HOwn := Hj hown
  have HAll := Hj hall
  have HCat := Hj hcat
  have HLen := Hj hlen
  have HBel := Hj hbel
  obtain ⟨Ao, co, eo, -, -⟩ := hown.form
  cases rs with
  | nil =>
   have h0 : m2 = 0 := by have := hrb.1; simpa [elemsB] using this.symm
   subst h0
   have HXL : Hid (xs.length = ks.length) := Hj (by rw [← hcat]; simp)
   subst eo
   rw [HXL.out] at HOwn ⊢
   clear hrb hmc2 hc2 hown hall hcat hlen hel hbel
   go_wp2
   go_ret2
   exact ⟨Ao, co, xs, rfl, HOwn.out, by have := HCat.out; rwa [List.append_nil] at this, HAll.out, HBel.out⟩
  | cons k rs =>
   rw [elemsB_cons] at hrb hel
   have hpos : 0 < m2 := by
    have h1 := hrb.1
    have h2 := elemB_pos k.1 k.2
    rw [List.length_append] at h1
    omega
   have hposI : (0 : Int) < (m2 : Int) := by omega
   have hk := HP.out k (by rw [← hcat]; simp)
   have hrl : (elemsB rs).length ≤ 1048576 := by rw [List.length_append] at hel; omega
   have HN := Hj (Next_any k.1 A2 m2 c2 k.2 (elemsB rs) wr hrb hmc2 hc2 hk.1 hk.2.1 hk.2.2 (by omega))
   have HRL := Hj hrl
   have HXN : Hid (xs.length ≤ 1048576) := Hj (by have h1 := congrArg List.length hcat; have := HKL.out; simp at h1; omega)
   obtain ⟨tg, bd⟩ := k
   simp only at HN
   subst eo
   obtain ⟨K, hK⟩ : ∃ K, K = bd.length := ⟨_, rfl⟩
   obtain ⟨J, hJ⟩ : ∃ J, J = (elemsB rs).length := ⟨_, rfl⟩
   rw [← hK, ← hJ] at HN
   have HKE := Hj hK
   have HJE := Hj hJ
   clear hrb hmc2 hc2 hown hall hcat hlen hel hbel hk hrl hpos hK hJ
   go_wp2_with (first
    | (go_at_call 121; (with_reducible refine HN.out.mono ?_); rintro e w3 ⟨A1, c1, A3, c3, rfl, ho1, ho3, hb3⟩; have O1 := Hj ho1; have O3 := Hj ho3; have B3 := Hj hb3; clear ho1 ho3 hb3)
    | (at_builtin; go_loud (
      obtain ⟨wa, hwa⟩ : ∃ W, W = (w3.alloc (.cells #[.int .i64 (tg : Int), .slice A1 K c1] 141)).alloc (.cells #[.int .i64 (tg : Int), .slice A1 K c1] 141) := ⟨_, rfl⟩
      have hba : Below w3.heap.size w3 wa := (by rw [hwa]; exact ((Below.refl _ w3).alloc Kj _).alloc (by simp) _)
      have hsrc : Src Tryz.prog 2 137 (.slice (some ⟨w3.heap.size + 1, 0, none⟩) 1 1) 1 [.int .i64 (tg : Int), .slice A1 K c1] wa := (by
       have hn := heap_alloc_new (w3.alloc (.cells #[.int .i64 (tg : Int), .slice A1 K c1] 141)) (.cells #[.int .i64 (tg : Int), .slice A1 K c1] 141)
       rw [← hwa, show (w3.alloc (.cells #[.int .i64 (tg : Int), .slice A1 K c1] 141)).heap.size = w3.heap.size + 1 by simp] at hn
       refine Src.ofSlice _ Tryz.underlying137 _ _ 1 _ rfl (fun j u hu => World.news_of_block (cs := #[.int .i64 (tg : Int), .slice A1 K c1]) hn j u hu) (fun u hu => ?_)
       simp only [List.mem_cons, List.not_mem_nil, or_false] at hu
       rcases hu with rfl | rfl <;> rfl)
      have hb4 : Below w.heap.size w wa := (HBel.out.trans (B3.out.mono HBel.out.size)).trans (hba.mono (Kv HBel.out.size B3.out.size))
      have hown4 := OwnS.below (OwnS.below HOwn.out B3.out) hba
      have hK4 : ∀ x ∈ xs, OB wa w.heap.size x.2.2 x.2.1 := (fun x hx => OB.below (OB.below (HAll.out x hx) B3.out) hba)
      have ho1 := OB.below O1.out hba
      have ho3 := OB.below O3.out hba
      have HWS : Hid (wr.heap.size ≤ w3.heap.size) := Hj B3.out.size
      rw [← hwa]
      refine wpList_append_el rfl (.tmp 20) (.tmp 22) rfl hown4 rfl hsrc rfl HXN.out hb4.size ?_
      intro v5 w5 hown5 hgr5 hat5
      have hkeep : ∀ B v l, OB wa B v l → OB w5 B v l := (fun B v l h => OwnS.kept h (Fr.of_grown hgr5) fun k hk e => by
       obtain ⟨cur, hcur⟩ := own_type h hk
       obtain ⟨cur', hcur'⟩ := own_type hown4 e.symm
       exact absurd (types_ne hcur hcur') (by decide))
      have Own5 := Hj hown5
      have B5 : Hid (Below w.heap.size w w5) := Hj (hb4.trans ((Fr.of_grown hgr5).below hb4.size fun i _ e => (OwnS.lt hown4 i e.symm).1))
      have K5 : Hid (∀ x ∈ xs, OB w5 w.heap.size x.2.2 x.2.1) := Hj fun x hx => hkeep _ _ _ (hK4 x hx)
      have P1 : Hid (OB w5 w.heap.size (.slice A1 K c1) bd) := Hj (OB.mono (hkeep _ _ _ ho1) HBel.out.size)
      have P3 := Hj (hkeep _ _ _ ho3)
      clear hown5 hgr5 hat5 hkeep ho1 ho3 hK4 hown4 hb4 hsrc hba))
    | fail)
   go_roundg (gk - 1)
   case measure => have := HLen.out; simp at this; omega
   case rel =>
    refine ⟨xs ++ [(tg, bd, .slice A1 K c1)], rs, A3, J, c3, rfl, ?_, ?_, ?_, ?_, ?_, ?_, ?_, HRL.out, B5.out⟩
    ·obtain ⟨A', c', e', -, -, h3⟩ := P3.out.form
     injection e' with e1 e2 e3
     rw [e1, e2]; exact h3
    ·obtain ⟨A', c', e', h1, -, -⟩ := P3.out.form
     injection e' with e1 e2 e3
     rw [e2, e3]; exact h1
    ·obtain ⟨A', c', e', -, h2, -⟩ := P3.out.form
     injection e' with e1 e2 e3
     rw [e3]; exact h2
    ·rw [List.flatMap_append, List.length_append]; exact Own5.out
    ·intro x hx
     rcases List.mem_append.1 hx with hx | hx
     ·exact K5.out x hx
     ·rw [List.mem_singleton.1 hx]; exact P1.out
    ·rw [List.map_append, List.append_assoc]; exact HCat.out
    ·have := HLen.out; simp at this; omega
end Go.Proofs.YtfmagnpmjlppiaaGreatDoor
