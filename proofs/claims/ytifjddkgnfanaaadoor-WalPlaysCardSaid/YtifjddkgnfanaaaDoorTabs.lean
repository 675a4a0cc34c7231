/- Rows of ints that are words of 32 bits; appends onto them; the reference's arithmetic. -/
import Derived.Test.YtifjddkgnfanaaaDoorShaSum
import Derived.Test.YtifjddkgnfanaaaDoorRows
import Derived.Lib.LaidTab
import Derived.LaidMore
import Derived.Lib.SlBytesConst
namespace Go.Proofs.YtifjddkgnfanaaaDoor
open Go.RowKit

theorem ofInt_i64 (a : Nat) (ha : a < 9223372036854775808) : (BitVec.ofInt 64 (a : Int)).toNat = a := by
  rw [BitVec.ofInt_natCast, BitVec.toNat_ofNat]; exact Nat.mod_eq_of_lt (by omega)
theorem wrap_i64_nat (a : Nat) (ha : a < 9223372036854775808) : IntKind.i64.wrap (a : Int) = (a : Int) := IntWalk.i64_in _ (by omega)
theorem i64_and_nat (a b : Nat) (ha : a < 9223372036854775808) (hb : b < 9223372036854775808) : bits .and .i64 (a : Int) (b : Int) = ((a &&& b : Nat) : Int) := by
  have hx : a &&& b < 2 ^ 63 := Nat.and_lt_two_pow _ (by omega)
  show IntKind.i64.wrap ((BitVec.ofInt 64 (a : Int) &&& BitVec.ofInt 64 (b : Int)).toNat : Int) = _
  rw [BitVec.toNat_and, ofInt_i64 a ha, ofInt_i64 b hb, wrap_i64_nat _ (by omega)]
theorem i64_or_nat (a b : Nat) (ha : a < 9223372036854775808) (hb : b < 9223372036854775808) : bits .or .i64 (a : Int) (b : Int) = ((a ||| b : Nat) : Int) := by
  have hx : a ||| b < 2 ^ 63 := Nat.or_lt_two_pow (by omega) (by omega)
  show IntKind.i64.wrap ((BitVec.ofInt 64 (a : Int) ||| BitVec.ofInt 64 (b : Int)).toNat : Int) = _
  rw [BitVec.toNat_or, ofInt_i64 a ha, ofInt_i64 b hb, wrap_i64_nat _ (by omega)]
theorem i64_xor_nat (a b : Nat) (ha : a < 9223372036854775808) (hb : b < 9223372036854775808) : bits .xor .i64 (a : Int) (b : Int) = ((a ^^^ b : Nat) : Int) := by
  have hx : a ^^^ b < 2 ^ 63 := Nat.xor_lt_two_pow (by omega) (by omega)
  show IntKind.i64.wrap ((BitVec.ofInt 64 (a : Int) ^^^ BitVec.ofInt 64 (b : Int)).toNat : Int) = _
  rw [BitVec.toNat_xor, ofInt_i64 a ha, ofInt_i64 b hb, wrap_i64_nat _ (by omega)]
theorem i64_mask (a : Nat) (ha : a < 9223372036854775808) : bits .and .i64 (a : Int) 4294967295 = ((a % 4294967296 : Nat) : Int) := by
  rw [show (4294967295 : Int) = ((4294967295 : Nat) : Int) from rfl, i64_and_nat a _ ha (by omega), show (4294967295 : Nat) = 2 ^ 32 - 1 from rfl, Nat.and_two_pow_sub_one_eq_mod]
theorem i_and (x y : UInt32) : bits .and .i64 (x.toNat : Int) (y.toNat : Int) = ((x &&& y).toNat : Int) := by
  have := x.toNat_lt; have := y.toNat_lt
  rw [i64_and_nat _ _ (by omega) (by omega), UInt32.toNat_and]
theorem i_or (x y : UInt32) : bits .or .i64 (x.toNat : Int) (y.toNat : Int) = ((x ||| y).toNat : Int) := by
  have := x.toNat_lt; have := y.toNat_lt
  rw [i64_or_nat _ _ (by omega) (by omega), UInt32.toNat_or]
theorem i_xor (x y : UInt32) : bits .xor .i64 (x.toNat : Int) (y.toNat : Int) = ((x ^^^ y).toNat : Int) := by
  have := x.toNat_lt; have := y.toNat_lt
  rw [i64_xor_nat _ _ (by omega) (by omega), UInt32.toNat_xor]
theorem i_not (x : UInt32) : (4294967295 : Int) - (x.toNat : Int) = ((~~~x).toNat : Int) := by
  have := x.toNat_lt
  rw [UInt32.toNat_not]
  have e : UInt32.size - 1 - x.toNat = 4294967295 - x.toNat := rfl
  omega
theorem i_mask (a : Nat) (ha : a < 9223372036854775808) : bits .and .i64 (a : Int) 4294967295 = ((UInt32.ofNat a).toNat : Int) := by
  rw [i64_mask a ha, UInt32.toNat_ofNat']

theorem info_int : (Tryd.prog.info? 3).map (fun i => (i.zero, i.size, i.bytes)) = some (some (.int .i64 0), 1, 8) := by kernel_rfl

/-- The cells of ints. -/
def icells (l : List UInt32) : List Value := l.map fun x => Value.int .i64 (x.toNat : Int)
theorem icells_length (l : List UInt32) : (icells l).length = l.length := by simp [icells]
theorem icells_append (l r : List UInt32) : icells (l ++ r) = icells l ++ icells r := by simp [icells]
theorem icells_one (l : List UInt32) : ∀ u ∈ icells l, u.oneCell' = true := by
  intro u hu
  obtain ⟨_, _, rfl⟩ := List.mem_map.1 hu
  rfl
theorem icells_get {l : List UInt32} {k : Nat} (h : k < l.length) : (icells l)[k]? = some (.int .i64 ((l.getD k 0).toNat : Int)) := by
  simp [icells, h]

/-- A slice's row reads as these words. -/
def IR (w : World) (A : Option Addr) (n : Nat) (l : List UInt32) : Prop :=
  l.length = n ∧ (0 < n → ∃ b o, A = some ⟨b, o, none⟩ ∧ ∀ k, k < n → w.cell? ⟨b, o + k, none⟩ = some (.int .i64 ((l.getD k 0).toNat : Int)))
theorem IR.keep {w w' : World} {A n l} (h : IR w A n l) (k : Keeps w w') : IR w' A n l :=
  ⟨h.1, fun hn => let ⟨b, o, e, hc⟩ := h.2 hn; ⟨b, o, e, fun i hi => k _ _ (hc i hi)⟩⟩

/-- v owns the words l. -/
def OI (w : World) (base : Nat) (v : Value) (l : List UInt32) : Prop := OwnS w base 3 1 v l.length (icells l)
theorem OI.ir {w : World} {base n c : Nat} {A : Option Addr} {l : List UInt32} (h : OI w base (.slice A n c) l) (hn : n = l.length) : IR w A n l := by
  subst hn
  refine ⟨rfl, fun hn => ?_⟩
  obtain ⟨g, o, cap, hv, _, _, hc⟩ := OwnS.cells h (by rw [icells_length]; exact hn)
  injection hv with hA _ _
  subst hA
  exact ⟨g, o, rfl, fun k hk => hc k _ (icells_get hk)⟩
theorem OI.form {w : World} {base : Nat} {v : Value} {l : List UInt32} (h : OI w base v l) : ∃ A cap, v = .slice A l.length cap ∧ l.length ≤ cap ∧ cap ≤ maxLen ∧ IR w A l.length l := by
  obtain ⟨A, cap, rfl, h1, h2⟩ := OwnS.form h
  exact ⟨A, cap, rfl, h1, h2, OI.ir h rfl⟩
theorem OI.keepB {w : World} {base : Nat} {v : Value} {l : List UInt32} (h : OI w base v l) {w' : World} (hk : ∀ k, v.ownBlock = some k → w'.heap[k]? = w.heap[k]?) : OI w' base v l := OwnS.keepB h hk
theorem OI.below {w : World} {base : Nat} {v : Value} {l : List UInt32} (h : OI w base v l) {w' : World} (hf : Below w.heap.size w w') : OI w' base v l := OwnS.below h hf
theorem OI.lt {w : World} {base : Nat} {v : Value} {l : List UInt32} (h : OI w base v l) : ∀ k, v.ownBlock = some k → base ≤ k ∧ k < w.heap.size := OwnS.lt h
theorem OI.alloc {w : World} {base : Nat} {v : Value} {l : List UInt32} (h : OI w base v l) (o : Obj) : OI (w.alloc o) base v l := OwnS.alloc h o
theorem OI.lit (w : World) (base : Nat) (hb : base ≤ w.heap.size) (l : List UInt32) (n : Nat) (hn : n = l.length) (hl : l.length ≤ maxLen) :
    OI (w.alloc (.cells (icells l).toArray 3)) base (.slice (some ⟨w.heap.size, 0, none⟩) n n) l := by
  subst hn
  have := OwnS.made (w := w.alloc (.cells (icells l).toArray 3)) (base := base) (n := w.heap.size) (e := 3) (size := 1) hb (g := w.heap.size) (cap := l.length) (len := l.length) (heap_alloc_new w _) rfl (Nat.le_refl _) hl (by simp [icells_length])
  have e : (icells l).toArray.toList.take (l.length * 1) = icells l := by rw [Nat.mul_one]; exact List.take_of_length_le (by simp [icells_length])
  rw [e] at this
  exact this
theorem Src.liti (w : World) (cs : Array Value) (l : List UInt32) (hcs : cs.toList = icells l) (n c : Nat) (hn : n = l.length) :
    Src Tryd.prog 1 130 (.slice (some ⟨w.heap.size, 0, none⟩) n c) n (icells l) (w.alloc (.cells cs 3)) := by
  subst hn
  refine Src.ofSlice _ Tryd.underlying130 _ _ c (icells l) (by rw [icells_length, Nat.mul_one]) (fun j u hu => ?_) (icells_one l)
  rw [← hcs] at hu
  exact World.news_of_block (heap_alloc_new w _) j u hu
theorem IR.src {w : World} {b o n c : Nat} {l : List UInt32} (h : IR w (some ⟨b, o, none⟩) n l) : Src Tryd.prog 1 130 (.slice (some ⟨b, o, none⟩) n c) n (icells l) w := by
  obtain ⟨rfl, h2⟩ := h
  refine Src.ofSlice _ Tryd.underlying130 _ _ c (icells l) (by rw [icells_length, Nat.mul_one]) (fun j u hu => ?_) (icells_one l)
  have hj : j < l.length := by
    rcases Nat.lt_or_ge j l.length with h' | h'
    · exact h'
    · rw [List.getElem?_eq_none (by rw [icells_length]; exact h')] at hu; cases hu
  obtain ⟨b', o', e, hc⟩ := h2 (by omega)
  injection e with e
  injection e with e1 e2
  subst e1; subst e2
  rw [addr_add, hc j hj, ← hu, icells_get hj]

theorem wpList_append_i {ops : Array Oper} {rest : List Oper} {o : Oper} {a : Act} {w : World} {Q : Exit → Act → World → Prop} (hgd : o.guard = none) (s x : Operand) (tx : TypeId)
    (ho : o.op = .call { callee := .builtin .append, args := #[s, x], argTypes := #[130, tx] })
    {base : Nat} {v : Value} {l : List UInt32} (hown : OI w base v l) (hs : a.eval s = v)
    {xv : Value} {m : Nat} {r : List UInt32} (hsrc : Src Tryd.prog 1 tx xv m (icells r) w) (hx : a.eval x = xv)
    (hbytes : l.length + r.length ≤ 10000000000) (hbase : base ≤ w.heap.size)
    (h : ∀ v' w', OI w' base v' (l ++ r) → w.grownBy w' v.ownBlock → (v'.ownBlock = v.ownBlock ∨ v'.ownBlock = some w.heap.size) → wpList Tryd.prog ops Q rest (a.put o.dst v') w') : wpList Tryd.prog ops Q (o :: rest) a w := by
  obtain ⟨i0, hi, hz0, hz1, hz2⟩ := info_parts info_int
  have hm : r.length = m := by have := hsrc.newsLen; rw [icells_length] at this; omega
  refine wpList_append_ownS hgd s x 130 tx ho i0 _ 8 Tryd.underlying130 hi hz0 hz1 hz2 rfl (by omega) hs hown xv m (icells r) hx hsrc (by unfold maxLen; omega) (by omega) hbase fun v' w' h1 h2 h3 => ?_
  refine h v' w' ?_ h2 h3
  unfold OI
  rw [icells_append, List.length_append, hm]
  exact h1

theorem step_append_i {ops : Array Oper} {o : Oper} {a : Act} {w : World} {K : Act → World → Prop} {Q : Exit → Act → World → Prop} {E : Prop} (hgd : o.guard = none) (s x : Operand) (tx : TypeId)
    (ho : o.op = .call { callee := .builtin .append, args := #[s, x], argTypes := #[130, tx] })
    {base : Nat} {v : Value} {l : List UInt32} (hown : OI w base v l) (hs : a.eval s = v)
    {xv : Value} {m : Nat} {r : List UInt32} (hsrc : Src Tryd.prog 1 tx xv m (icells r) w) (hx : a.eval x = xv)
    (hbytes : l.length + r.length ≤ 10000000000) (hbase : base ≤ w.heap.size)
    (h : ∀ v' w', OI w' base v' (l ++ r) → w.grownBy w' v.ownBlock → (v'.ownBlock = v.ownBlock ∨ v'.ownBlock = some w.heap.size) → K (a.put o.dst v') w') :
    if Region.wanted o (yielded ops a.tmps) = true then Oper.wp Tryd.prog o a w K Q else E := by
  obtain ⟨i0, hi, hz0, hz1, hz2⟩ := info_parts info_int
  have hm : r.length = m := by have := hsrc.newsLen; rw [icells_length] at this; omega
  refine step_append_ownS hgd s x 130 tx ho i0 _ 8 Tryd.underlying130 hi hz0 hz1 hz2 rfl (by omega) hs hown xv m (icells r) hx hsrc (by unfold maxLen; omega) (by omega) hbase fun v' w' h1 h2 h3 => ?_
  refine h v' w' ?_ h2 h3
  unfold OI
  rw [icells_append, List.length_append, hm]
  exact h1

theorem grown_cell {w w' : World} {row : Option Nat} (hg : w.grownBy w' row) {p : Addr} {v : Value} (h : w.cell? p = some v) (hne : row ≠ some p.block) : w'.cell? p = some v :=
  (World.cell?_of_block (hg.block p.block (World.block_lt_of_cell? w p h) (fun e => hne e.symm))).trans h

theorem below_append_i {B base : Nat} {a w w' : World} {v : Value} {l : List UInt32} (h : Below B a w) (hg : w.grownBy w' v.ownBlock) (hown : OI w base v l) (hb : B ≤ base) (hB : B ≤ w.heap.size) : Below B a w' :=
  h.grown hg hB fun k hk => Nat.le_trans hb (hown.lt k hk).1

theorem turn_any (x : UInt32) (n : Nat) (w : World) (h0 : 0 < n) (h : n < 32) :
    Calls Tryd.prog 82 #[.int .i64 (x.toNat : Int), .int .i64 (n : Int)] w fun e w' => e = .returned (.int .i64 ((rotr x n).toNat : Int)) ∧ w' = w := by
  have n0 : (0 : Int) ≤ (n : Int) := by omega
  have n1 : (n : Int) < 64 := by omega
  have m0 : IntKind.i64.wrap (32 - (n : Int)) = ((32 - n : Nat) : Int) := by rw [IntWalk.i64_in _ (by omega)]; omega
  go_enter Tryd.func82, Tryd.ntmps82
  go_wp2
  go_ret
  refine ⟨ret_int ?_, rfl⟩
  have hx := x.toNat_lt
  have hp : x.toNat * 2 ^ (32 - n) < 9223372036854775808 := by
    have h1 : 2 ^ (32 - n) ≤ 2 ^ 31 := Nat.pow_le_pow_right (by omega) (by omega)
    have h2 : x.toNat * 2 ^ (32 - n) ≤ 4294967295 * 2 ^ 31 := Nat.mul_le_mul (by omega) h1
    omega
  have e1 : ((x.toNat : Int) * 2 ^ (32 - n)) = ((x.toNat * 2 ^ (32 - n) : Nat) : Int) := by rw [Int.natCast_mul, Int.natCast_pow]; rfl
  rw [e1, IntWalk.wrap64_in _ (by omega), i_mask _ hp, shr32 x n h, i_or]
  have e2 := shl32 x (32 - n) (by omega)
  have e3 : UInt32.ofNat (x.toNat * 2 ^ (32 - n)) = x <<< UInt32.ofNat (32 - n) := by
    apply UInt32.toNat_inj.1
    rw [UInt32.toNat_ofNat']
    have : ((x.toNat * 2 ^ (32 - n) % 2 ^ 32 : Nat) : Int) = ((x <<< UInt32.ofNat (32 - n)).toNat : Int) := by
      rw [← e2, e1]; rfl
    exact Int.ofNat_inj.1 this
  rw [e3]
  rfl
end Go.Proofs.YtifjddkgnfanaaaDoor

/- The reference's tables. -/
namespace Go.Proofs.YtifjddkgnfanaaaDoor
open Go.RowKit

/-- The standard's constants and first words. -/
def ktab : List UInt32 := [1116352408, 1899447441, 3049323471, 3921009573, 961987163, 1508970993, 2453635748, 2870763221, 3624381080, 310598401, 607225278, 1426881987, 1925078388, 2162078206, 2614888103, 3248222580, 3835390401, 4022224774, 264347078, 604807628, 770255983, 1249150122, 1555081692, 1996064986, 2554220882, 2821834349, 2952996808, 3210313671, 3336571891, 3584528711, 113926993, 338241895, 666307205, 773529912, 1294757372, 1396182291, 1695183700, 1986661051, 2177026350, 2456956037, 2730485921, 2820302411, 3259730800, 3345764771, 3516065817, 3600352804, 4094571909, 275423344, 430227734, 506948616, 659060556, 883997877, 958139571, 1322822218, 1537002063, 1747873779, 1955562222, 2024104815, 2227730452, 2361852424, 2428436474, 2756734187, 3204031479, 3329325298]
def htab : W8 := ⟨1779033703, 3144134277, 1013904242, 2773480762, 1359893119, 2600822924, 528734635, 1541459225⟩
def kfun (k : Nat) : UInt32 := ktab.getD k 0

set_option maxRecDepth 100000 in
theorem Table_any (w : World) : Calls Tryd.prog 80 #[] w fun e w' => e = .returned (.slice (some ⟨w.heap.size, 0, none⟩) 64 64) ∧ OI w' w.heap.size (.slice (some ⟨w.heap.size, 0, none⟩) 64 64) ktab ∧ Below w.heap.size w w' := by
  have h := Lib.hid (OI.lit w w.heap.size (Nat.le_refl _) ktab 64 rfl (by decide))
  go_enter Tryd.func80, Tryd.ntmps80
  go_wp2
  go_ret
  exact ⟨rfl, h.out, (Below.refl _ w).alloc (Nat.le_refl _) _⟩

set_option maxRecDepth 100000 in
theorem First_any (w : World) : Calls Tryd.prog 81 #[] w fun e w' => e = .returned (.slice (some ⟨w.heap.size, 0, none⟩) 8 8) ∧ w' = w.alloc (.cells (icells htab.list).toArray 3) := by
  go_enter Tryd.func81, Tryd.ntmps81
  go_wp2
  go_ret
  exact ⟨rfl, rfl⟩
end Go.Proofs.YtifjddkgnfanaaaDoor

/- The tables as the row lays them; layer 1's alive and long. -/
namespace Go.Proofs.YtifjddkgnfanaaaDoor
open Go.RowKit

set_option maxRecDepth 100000 in
theorem laid_tab {W : World} : ∀ {L : List (String × DataW Unit)} {ps : List MemPlace}, DataW.LaidVars Tryd.prog W L ps →
    ∀ {name : String} {k : IntKind} {zs : List Int} {g : Nat} {t e : TypeId} {n : Nat}, (name, Lib.tabData k zs) ∈ L → Tryd.prog.globalNamed name = some g → (Tryd.prog.globals[g]?).map (·.type) = some t →
    Tryd.prog.underlying t = some (.array n e) → Tryd.prog.underlying e = some (.int k) → Tryd.prog.cellsOf e = 1 → Tryd.prog.cellsOf t = n → Lib.TabIs Tryd.prog W name k zs
  | [], _, _, _, _, _, _, _, _, _, hm, _, _, _, _, _, _ => by cases hm
  | (n0, d0) :: r, ps, h, name, k, zs, g, t, e, n, hm, hg, hty, ht, he, hce, hct => by
    obtain ⟨g0, t0, cs0, f0, p0, q0, hg0, ht0, hv0, hd0, hq, rfl⟩ := h
    rcases List.mem_cons.1 hm with e' | hm
    · injection e' with e1 e2
      subst e1; subst e2
      obtain rfl := Option.some.inj (hg.symm.trans hg0)
      obtain rfl := Option.some.inj (hty.symm.trans ht0)
      have := Lib.cells_of_tab ht he hce hct hd0
      unfold Lib.TabIs
      rw [hv0]
      congr 1
      exact Array.toList_inj.1 (by rw [this])
    · exact laid_tab hq hm hg hty ht he hce hct

section
variable {L : List (String × DataW Unit)} {W : World}
set_option maxRecDepth 100000 in
theorem tab_of_laid (h : laidMetH Tryd.prog L W) (hp : (L.all fun x => x.2.handleName?.isNone) = true) {name : String} {k : IntKind} {zs : List Int} {g : Nat} {t e : TypeId} {n : Nat} (hm : (name, Lib.tabData k zs) ∈ L)
    (hg : Tryd.prog.globalNamed name = some g) (hty : (Tryd.prog.globals[g]?).map (·.type) = some t)
    (ht : Tryd.prog.underlying t = some (.array n e)) (he : Tryd.prog.underlying e = some (.int k)) (hce : Tryd.prog.cellsOf e = 1) (hct : Tryd.prog.cellsOf t = n) : Lib.TabIs Tryd.prog W name k zs := by
  rw [MakeChecks.laidMetH_plain _ _ _ hp] at h
  obtain ⟨ps, hv, _⟩ := h
  exact laid_tab hv hm hg hty ht he hce hct

theorem kdata : (Rows.laid_bulla_sha_constants : DataW Unit) = Lib.tabData .u32 (ktab.map fun x => (x.toNat : Int)) := by rfl
theorem fdata : (Rows.laid_bulla_sha_first : DataW Unit) = Lib.tabData .u32 (htab.list.map fun x => (x.toNat : Int)) := by rfl
theorem getD_map_nat (l : List UInt32) (k : Nat) : (l.map fun x => (x.toNat : Int)).getD k 0 = ((l.getD k 0).toNat : Int) := by
  simp only [List.getD_eq_getElem?_getD, List.getElem?_map]
  cases l[k]? <;> rfl
set_option maxRecDepth 100000 in
theorem kcells_of_laid (h : laidMetH Tryd.prog L W) (hp : (L.all fun x => x.2.handleName?.isNone) = true) (hm : ("bulla/sha.constants", Rows.laid_bulla_sha_constants) ∈ L) : KCells W kfun := by
  rw [kdata] at hm
  have hg : Tryd.prog.globalNamed "bulla/sha.constants" = some 29 := by kernel_rfl
  have ht := tab_of_laid h hp hm hg (t := 138) (by kernel_rfl) Tryd.underlying138 Tryd.underlying132 (by kernel_rfl) (by kernel_rfl)
  intro k hk
  rw [ht.cell hg k (by rw [List.length_map]; exact hk), getD_map_nat]
  rfl
set_option maxRecDepth 100000 in
theorem first_of_laid (h : laidMetH Tryd.prog L W) (hp : (L.all fun x => x.2.handleName?.isNone) = true) (hm : ("bulla/sha.first", Rows.laid_bulla_sha_first) ∈ L) : FirstCells W htab := by
  rw [fdata] at hm
  have hg : Tryd.prog.globalNamed "bulla/sha.first" = some 28 := by kernel_rfl
  have ht := tab_of_laid h hp hm hg (t := 134) (by kernel_rfl) Tryd.underlying134 Tryd.underlying132 (by kernel_rfl) (by kernel_rfl)
  intro k hk
  rw [ht.cell hg k (by rw [List.length_map]; exact hk), getD_map_nat]
end

/-- Both tables stand. -/
structure ShaTabs (w : World) : Prop where
  k : KCells w kfun
  f : FirstCells w htab
theorem ShaTabs.keep {w w' : World} (h : ShaTabs w) (k : Keeps w w') : ShaTabs w' := ⟨h.k.keep k, h.f.keep k⟩
theorem ShaTabs.lt {w : World} (h : ShaTabs w) : 29 < w.heap.size := World.block_lt_of_cell? w _ (h.k 0 (by decide))
theorem ShaTabs.of_laid {L : List (String × DataW Unit)} {W : World} (h : laidMetH Tryd.prog L W) (hp : (L.all fun x => x.2.handleName?.isNone) = true) (hm : ("bulla/sha.constants", Rows.laid_bulla_sha_constants) ∈ L) (hf : ("bulla/sha.first", Rows.laid_bulla_sha_first) ∈ L) : ShaTabs W :=
  ⟨kcells_of_laid h hp hm, first_of_laid h hp hf⟩

theorem abc_sum : (shaB kfun htab [97, 98, 99]).take 4 = [186, 120, 22, 191] := by decide +kernel
theorem abc_get (k : Nat) (hk : k < 4) : (shaB kfun htab [97, 98, 99]).getD k 0 = [186, 120, 22, 191].getD k (0 : UInt8) := by
  rw [← abc_sum, List.getD_eq_getElem?_getD, List.getD_eq_getElem?_getD, List.getElem?_take, if_pos hk]

/-- A slice literal of bytes, read. -/
theorem SB.cells {w : World} {g : Nat} {l : List UInt8} {n c : Nat} {T : TypeId} {fr : Nat × Nat} (h : w.heap[g]? = some (.cells (bcells l).toArray T fr)) (hn : l.length = n) (hc : n ≤ c) (hm : c ≤ maxLen) : SB w (.slice (some ⟨g, 0, none⟩) n c) l := by
  refine SB.of_rb ⟨hn, fun _ => ⟨g, 0, rfl, fun k hk => ?_⟩⟩ hc hm
  rw [cell_of_row _ _ _ _ _ _ h, Nat.zero_add, List.getElem?_toArray]
  exact bcells_get (by omega)
theorem RBL.lits {w : World} {g : Nat} {vs : List Value} {ls : List (List UInt8)} {n : Nat} {T : TypeId} {fr : Nat × Nat} (h : w.heap[g]? = some (.cells vs.toArray T fr)) (hn : ls.length = n) (hs : ∀ k, k < n → ∃ v, vs[k]? = some v ∧ SB w v (ls.getD k [])) : RBL w (some ⟨g, 0, none⟩) n ls := by
  refine ⟨hn, fun _ => ⟨g, 0, rfl, fun k hk => ?_⟩⟩
  obtain ⟨v, h1, h2⟩ := hs k hk
  exact ⟨v, by rw [cell_of_row _ _ _ _ _ _ h, Nat.zero_add, List.getElem?_toArray]; exact h1, h2⟩

theorem abc_parts (w : World) : RBL (((w.alloc (.cells #[.int .u8 97, .int .u8 98] 5 (2, 3))).alloc (.cells #[.int .u8 99] 5 (1, 2))).alloc (.cells #[.slice (some ⟨w.heap.size, 0, none⟩) 2 2, .slice (some ⟨w.heap.size + 1, 0, none⟩) 1 1] 28)) (some ⟨w.heap.size + 2, 0, none⟩) 2 [[97, 98], [99]] := by
  have h0 : ∀ o p, (((w.alloc (.cells #[.int .u8 97, .int .u8 98] 5 (2, 3))).alloc o).alloc p).heap[w.heap.size]? = some (.cells (bcells [97, 98]).toArray 5 (2, 3)) := fun o p =>
    (Below.heap_alloc _ p _ (by simp; omega)).trans ((Below.heap_alloc _ o _ (by simp)).trans (heap_alloc_new w _))
  have h1 : ∀ p, (((w.alloc (.cells #[.int .u8 97, .int .u8 98] 5 (2, 3))).alloc (.cells #[.int .u8 99] 5 (1, 2))).alloc p).heap[w.heap.size + 1]? = some (.cells (bcells [99]).toArray 5 (1, 2)) := fun p => by
    have := heap_alloc_new (w.alloc (.cells #[.int .u8 97, .int .u8 98] 5 (2, 3))) (.cells #[.int .u8 99] 5 (1, 2))
    rw [show (w.alloc (.cells #[.int .u8 97, .int .u8 98] 5 (2, 3))).heap.size = w.heap.size + 1 by simp] at this
    exact (Below.heap_alloc _ p _ (by simp)).trans this
  have h2 := heap_alloc_new ((w.alloc (.cells #[.int .u8 97, .int .u8 98] 5 (2, 3))).alloc (.cells #[.int .u8 99] 5 (1, 2))) (.cells [Value.slice (some ⟨w.heap.size, 0, none⟩) 2 2, .slice (some ⟨w.heap.size + 1, 0, none⟩) 1 1].toArray 28)
  rw [show ((w.alloc (.cells #[.int .u8 97, .int .u8 98] 5 (2, 3))).alloc (.cells #[.int .u8 99] 5 (1, 2))).heap.size = w.heap.size + 2 by simp] at h2
  refine RBL.lits h2 rfl (fun k hk => ?_)
  have : k = 0 ∨ k = 1 := by omega
  rcases this with rfl | rfl
  · exact ⟨_, rfl, SB.cells (h0 _ _) rfl (by decide) (by unfold maxLen; omega)⟩
  · exact ⟨_, rfl, SB.cells (h1 _) rfl (by decide) (by unfold maxLen; omega)⟩

theorem setRow_cell (w1 : World) (old cur : Array Value) (T : TypeId) (k : Nat) (v : Value) (h : cur[k]? = some v) : ((w1.alloc (.cells old T)).setRow w1.heap.size cur).cell? ⟨w1.heap.size, k, none⟩ = some v := by
  rw [cell_of_row _ _ _ _ _ _ (setRow_heap _ _ _ _ _ _ (heap_alloc_new w1 _))]
  exact h
theorem below_setRow {B : Nat} {a w : World} (h : Below B a w) {g : Nat} (hg : B ≤ g) (c : Array Value) : Below B a (w.setRow g c) :=
  ⟨h.os, h.tape, h.output, by simpa [World.setRow] using h.size, fun i hi => (setRow_other _ _ _ _ (by omega)).trans (h.block i hi)⟩
end Go.Proofs.YtifjddkgnfanaaaDoor
