/- The reference's tables of texts (layer 16): rows of entries that a call owns; append onto them; cuts. -/
import Derived.Test.YtgiaifglkecdjaaRefTab
namespace Go.Proofs.Ytgiaifglkecdjaa
open Go.RowKit
open SI

theorem info_ent : (Try.prog.info? 43).map (fun i => (i.zero, i.size, i.bytes)) = some (some (.agg #[.string ⟨#[]⟩, .int .i64 0]), 2, 24) := by kernel_rfl
def OE (w : World) (base : Nat) (v : Value) (l : List (ByteArray × Int)) : Prop := OwnS w base 43 2 v l.length (ecells l)
theorem OE.empty (w : World) (base : Nat) (hb : base ≤ w.heap.size) : OE (w.alloc (.cells #[] 43)) base (.slice (some ⟨w.heap.size, 0, none⟩) 0 0) [] := by
  have := OwnS.made (w := w.alloc (.cells #[] 43)) (base := base) (n := w.heap.size) (e := 43) (size := 2) hb (g := w.heap.size) (cap := 0) (len := 0) (heap_alloc_new w _) rfl (Nat.le_refl _) (by unfold maxLen; omega) (by simp)
  unfold OE
  simpa [ecells] using this
theorem OE.alloc {w : World} {base : Nat} {v : Value} {l : List (ByteArray × Int)} (h : OE w base v l) (o : Obj) : OE (w.alloc o) base v l := OwnS.alloc h o
theorem OE.drew {w : World} {base : Nat} {v : Value} {l : List (ByteArray × Int)} (h : OE w base v l) : OE w.drew base v l := h
theorem OE.form {w : World} {base : Nat} {v : Value} {l : List (ByteArray × Int)} (h : OE w base v l) : ∃ A cap, v = .slice A l.length cap ∧ l.length ≤ cap ∧ cap ≤ maxLen := OwnS.form h
theorem Src.ent (w : World) (g : Nat) (x : ByteArray) (y : Int) (c : Nat) (hg : g = w.heap.size) : Src Try.prog 2 28 (.slice (some ⟨g, 0, none⟩) 1 c) 1 (ecells [(x, y)]) (w.alloc (.cells #[.string x, .int .i64 y] 43)) :=
  hg ▸ Src.ofSlice _ Try.underlying28 _ _ c _ rfl (fun j u hu => World.news_of_block (cs := #[.string x, .int .i64 y]) (heap_alloc_new w _) j u hu) (ecells_one _)

theorem wpList_append_e {ops : Array Oper} {rest : List Oper} {o : Oper} {a : Act} {w : World} {Q : Exit → Act → World → Prop} (hgd : o.guard = none) (s x : Operand)
    (ho : o.op = .call { callee := .builtin .append, args := #[s, x], argTypes := #[28, 28] })
    {base : Nat} {v : Value} {l : List (ByteArray × Int)} (hown : OE w base v l) (hs : a.eval s = v)
    {xv : Value} {m : Nat} {r : List (ByteArray × Int)} (hsrc : Src Try.prog 2 28 xv m (ecells r) w) (hx : a.eval x = xv)
    (hbytes : l.length + r.length ≤ 1000000000000) (hbase : base ≤ w.heap.size)
    (h : ∀ v' w', OE w' base v' (l ++ r) → w.grownBy w' v.ownBlock → wpList Try.prog ops Q rest (a.put o.dst v') w') : wpList Try.prog ops Q (o :: rest) a w := by
  obtain ⟨i0, hi, hz0, hz1, hz2⟩ := info_parts info_ent
  have hm : r.length = m := by have := hsrc.newsLen; rw [ecells_length] at this; omega
  refine wpList_append_ownS hgd s x 28 28 ho i0 _ 24 Try.underlying28 hi hz0 hz1 hz2 rfl (by omega) hs hown xv m _ hx hsrc (by unfold maxLen; omega) (by omega) hbase fun v' w' h1 h2 _ => ?_
  refine h v' w' ?_ h2
  unfold OE
  rw [ecells_append, List.length_append, hm]
  exact h1

theorem step_append_e {ops : Array Oper} {o : Oper} {a : Act} {w : World} {K : Act → World → Prop} {Q : Exit → Act → World → Prop} {E : Prop} (hgd : o.guard = none) (s x : Operand)
    (ho : o.op = .call { callee := .builtin .append, args := #[s, x], argTypes := #[28, 28] })
    {base : Nat} {v : Value} {l : List (ByteArray × Int)} (hown : OE w base v l) (hs : a.eval s = v)
    {xv : Value} {m : Nat} {r : List (ByteArray × Int)} (hsrc : Src Try.prog 2 28 xv m (ecells r) w) (hx : a.eval x = xv)
    (hbytes : l.length + r.length ≤ 1000000000000) (hbase : base ≤ w.heap.size)
    (h : ∀ v' w', OE w' base v' (l ++ r) → w.grownBy w' v.ownBlock → K (a.put o.dst v') w') :
    if Region.wanted o (yielded ops a.tmps) = true then Oper.wp Try.prog o a w K Q else E := by
  obtain ⟨i0, hi, hz0, hz1, hz2⟩ := info_parts info_ent
  have hm : r.length = m := by have := hsrc.newsLen; rw [ecells_length] at this; omega
  refine step_append_ownS hgd s x 28 28 ho i0 _ 24 Try.underlying28 hi hz0 hz1 hz2 rfl (by omega) hs hown xv m _ hx hsrc (by unfold maxLen; omega) (by omega) hbase fun v' w' h1 h2 _ => ?_
  refine h v' w' ?_ h2
  unfold OE
  rw [ecells_append, List.length_append, hm]
  exact h1

/-- What the last store of a region wants of a table's block. -/
theorem held_of {w W : World} {R : Nat} {v : Value} {T : TypeId} (h1 : w.heap[R]? = some (.cells #[v] T (0, 0))) (hb : Below w.heap.size w W) :
    W.cell? ⟨R, 0, none⟩ = some v ∧ W.frozen? ⟨R, 0, none⟩ = false ∧ Below w.heap.size w W :=
  have h := (hb.block R (Array.getElem?_eq_some_iff.1 h1).1).trans h1
  ⟨cell_of_one h, free_of_one h, hb⟩

theorem below_append_e {B base : Nat} {a w w' : World} {v : Value} {l : List (ByteArray × Int)} (h : Below B a w) (hg : w.grownBy w' v.ownBlock) (hown : OE w base v l) (hb : B ≤ base) (hB : B ≤ w.heap.size) : Below B a w' :=
  h.grown hg hB fun k hk => Nat.le_trans hb (OwnS.lt hown k hk).1

theorem ecells_cell {l : List (ByteArray × Int)} {j : Nat} {u : Value} (h : (ecells l)[j]? = some u) : ∃ k, k < l.length ∧ ((j = k * 2 ∧ u = .string (l.getD k default).1) ∨ (j = k * 2 + 1 ∧ u = .int .i64 (l.getD k default).2)) := by
  have hj : j < l.length * 2 := by rw [← ecells_length]; exact (List.getElem?_eq_some_iff.1 h).1
  have hk : j / 2 < l.length := by omega
  have hg := ecells_get l (j / 2) hk
  refine ⟨j / 2, hk, ?_⟩
  rcases Nat.mod_two_eq_zero_or_one j with h2 | h2
  · have e : j / 2 * 2 = j := by omega
    rw [e] at hg
    exact .inl ⟨e.symm, Option.some.inj (h.symm.trans hg.1)⟩
  · have e : j / 2 * 2 + 1 = j := by omega
    rw [e] at hg
    exact .inr ⟨e.symm, Option.some.inj (h.symm.trans hg.2)⟩

theorem RE.src {w : World} {b o n c : Nat} {l : List (ByteArray × Int)} (h : RE w (some ⟨b, o, none⟩) n l) : Src Try.prog 2 28 (.slice (some ⟨b, o, none⟩) n c) n (ecells l) w := by
  refine Src.ofSlice _ Try.underlying28 _ _ c _ (by rw [ecells_length, h.1]) (fun j u hu => ?_) (ecells_one _)
  obtain ⟨k, hk, hc⟩ := ecells_cell hu
  have hn : k < n := by have := h.1; omega
  obtain ⟨b', o', e, hcell⟩ := h.2 (by omega)
  injection e with e
  injection e with e1 e2
  subst e1 e2
  rw [addr_add]
  rcases hc with ⟨rfl, rfl⟩ | ⟨rfl, rfl⟩
  · exact (hcell k hn).1
  · rw [← Nat.add_assoc]; exact (hcell k hn).2

theorem RE.take {w : World} {A : Option Addr} {n k : Nat} {l : List (ByteArray × Int)} (h : RE w A n l) (hk : k ≤ n) : RE w A k (l.take k) := by
  refine ⟨by rw [List.length_take, h.1]; omega, fun h0 => ?_⟩
  obtain ⟨b, o, e, hc⟩ := h.2 (by omega)
  refine ⟨b, o, e, fun i hi => ?_⟩
  have := hc i (by omega)
  have e : (l.take k).getD i default = l.getD i default := by simp [List.getD_eq_getElem?_getD, hi]
  rw [e]
  exact this
theorem RE.drop {w : World} {b o n k : Nat} {l : List (ByteArray × Int)} (h : RE w (some ⟨b, o, none⟩) n l) (hk : k ≤ n) : RE w (some ⟨b, o + k * 2, none⟩) (n - k) (l.drop k) := by
  refine ⟨by rw [List.length_drop, h.1], fun h0 => ?_⟩
  obtain ⟨b', o', e, hc⟩ := h.2 (by omega)
  injection e with e
  injection e with e1 e2
  subst e1 e2
  refine ⟨b, o + k * 2, rfl, fun i hi => ?_⟩
  have := hc (k + i) (by omega)
  have e : (l.drop k).getD i default = l.getD (k + i) default := by simp [List.getD_eq_getElem?_getD]
  rw [e, show o + k * 2 + i * 2 = o + (k + i) * 2 by omega]
  exact this

theorem Src.ent_nil (w : World) (A : Option Addr) (c : Nat) : Src Try.prog 2 28 (.slice A 0 c) 0 (ecells []) w := by
  cases A with
  | none => exact Src.ofNil w Try.underlying28 c
  | some a => exact Src.ofSlice w Try.underlying28 a 0 c [] (by simp) (by simp) (by simp)

theorem size_ent (W : World) : (sizeOf (Try.prog.elem 28)).run Try.prog W = .ok 2 W := by kernel_rfl

/-- What is cut of a row of entries. -/
def Cuts (w : World) (v V1 V2 : Value) (k k' : Nat) (l : List (ByteArray × Int)) : Prop :=
  (∀ W, (Instr.slice 28 v none (some (.int .i64 (k : Int))) none).run Try.prog W = .ok V1 W) ∧
  (∀ W, (Instr.slice 28 v (some (.int .i64 (k' : Int))) none none).run Try.prog W = .ok V2 W) ∧
  (∀ W, Keeps w W → Src Try.prog 2 28 V1 k (ecells (l.take k)) W) ∧
  (∀ W, Keeps w W → Src Try.prog 2 28 V2 (l.length - k') (ecells (l.drop k')) W)

theorem cuts_of {w : World} {base : Nat} {v : Value} {l : List (ByteArray × Int)} (h : OE w base v l) {k k' : Nat} (hk : k ≤ l.length) (hk' : k' ≤ l.length) : ∃ V1 V2, Cuts w v V1 V2 k k' l := by
  obtain ⟨A, c, rfl, hc, hm⟩ := h.form
  have hre := RE.of_own h
  refine ⟨.slice A k c, sliced A k' l.length c 2, fun W => ?_, fun W => ?_, fun W hW => ?_, fun W hW => ?_⟩
  · rw [run_slice_h W _ A l.length c Try.underlying28 .i64 (k : Int) (by omega) (by omega), size_ent]
    simp only [Result.andThen, sliced, Int.toNat_natCast, Nat.sub_zero, Nat.zero_mul]
    split
    · rfl
    · cases A with
      | none => rfl
      | some a => simp only [Option.map_some]; cases a; rfl
  · rw [run_slice_l W _ A l.length c Try.underlying28 .i64 (k' : Int) (by omega) (by omega), size_ent]
    rfl
  · have hr := (hre.keep hW).take hk
    rcases Nat.eq_zero_or_pos k with rfl | h0
    · rw [List.take_zero]; exact Src.ent_nil W A c
    · obtain ⟨b, o, rfl, _⟩ := hr.2 h0
      exact hr.src
  · rcases Nat.eq_zero_or_pos (l.length - k') with h0 | h0
    · rw [List.drop_of_length_le (by omega)]
      unfold sliced
      rw [h0]
      exact Src.ent_nil W _ _
    · obtain ⟨b, o, rfl, _⟩ := hre.2 (by omega)
      have hr := (hre.keep hW).drop hk'
      unfold sliced
      rw [if_neg (by omega)]
      simp only [Option.map_some, addr_add]
      exact hr.src
end Go.Proofs.Ytgiaifglkecdjaa
