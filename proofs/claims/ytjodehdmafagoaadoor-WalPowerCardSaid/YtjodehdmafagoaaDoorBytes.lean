/- Appends onto slices of bytes, at this program's numbers. -/
import Derived.Test.YtjodehdmafagoaaDoorOwn
import Derived.Test.YtjodehdmafagoaaDoorRows
namespace Go.Proofs.YtjodehdmafagoaaDoor
open Go.RowKit

theorem info_u8 : (Tryd.prog.info? 5).map (fun i => (i.zero, i.size, i.bytes)) = some (some (.int .u8 0), 1, 1) := by kernel_rfl

/-- v owns the bytes l. -/
def OB (w : World) (base : Nat) (v : Value) (l : List UInt8) : Prop := OwnS w base 5 1 v l.length (bcells l)

theorem OB.nil (w : World) (base : Nat) : OB w base (.slice none 0 0) [] := OwnS.nil _ _ _ _
theorem OB.form {w : World} {base : Nat} {v : Value} {l : List UInt8} (h : OB w base v l) : ∃ A cap, v = .slice A l.length cap ∧ l.length ≤ cap ∧ cap ≤ maxLen ∧ RB w A l.length l := by
  obtain ⟨A, cap, rfl, h1, h2⟩ := OwnS.form h
  exact ⟨A, cap, rfl, h1, h2, RB.of_ownS h⟩
theorem OB.sb {w : World} {base : Nat} {v : Value} {l : List UInt8} (h : OB w base v l) : SB w v l := SB.of_ownS h
theorem OB.keepB {w : World} {base : Nat} {v : Value} {l : List UInt8} (h : OB w base v l) {w' : World} (hk : ∀ k, v.ownBlock = some k → w'.heap[k]? = w.heap[k]?) : OB w' base v l := OwnS.keepB h hk
theorem OB.below {w : World} {base : Nat} {v : Value} {l : List UInt8} (h : OB w base v l) {w' : World} (hf : Below w.heap.size w w') : OB w' base v l := OwnS.below h hf
theorem OB.lt {w : World} {base : Nat} {v : Value} {l : List UInt8} (h : OB w base v l) : ∀ k, v.ownBlock = some k → base ≤ k ∧ k < w.heap.size := OwnS.lt h
theorem OB.mono {w : World} {base b' : Nat} {v : Value} {l : List UInt8} (h : OB w base v l) (hb : b' ≤ base) : OB w b' v l := OwnS.mono h fun k hk => Nat.le_trans hb (OwnS.lt h k hk).1

/-- A slice literal of bytes: its block. -/
theorem OB.lit (w : World) (base : Nat) (hb : base ≤ w.heap.size) (l : List UInt8) (n : Nat) (hn : n = l.length) (hl : l.length ≤ maxLen) :
    OB (w.alloc (.cells (bcells l).toArray 5)) base (.slice (some ⟨w.heap.size, 0, none⟩) n n) l := by
  subst hn
  have := OwnS.made (w := w.alloc (.cells (bcells l).toArray 5)) (base := base) (n := w.heap.size) (e := 5) (size := 1) hb (g := w.heap.size) (cap := l.length) (len := l.length) (heap_alloc_new w _) rfl (Nat.le_refl _) hl (by simp [bcells_length])
  have e : (bcells l).toArray.toList.take (l.length * 1) = bcells l := by rw [Nat.mul_one]; exact List.take_of_length_le (by simp [bcells_length])
  rw [e] at this
  exact this

theorem OB.alloc {w : World} {base : Nat} {v : Value} {l : List UInt8} (h : OB w base v l) (o : Obj) : OB (w.alloc o) base v l := OwnS.alloc h o

/-- A literal of bytes as an append's source. -/
theorem Src.lit (w : World) (cs : Array Value) (l : List UInt8) (hcs : cs.toList = bcells l) (n c : Nat) (hn : n = l.length) :
    Src Tryd.prog 1 31 (.slice (some ⟨w.heap.size, 0, none⟩) n c) n (bcells l) (w.alloc (.cells cs 5)) := by
  subst hn
  refine Src.ofSlice _ Tryd.underlying31 _ _ c (bcells l) (by rw [bcells_length, Nat.mul_one]) (fun j u hu => ?_) (bcells_one l)
  rw [← hcs] at hu
  exact World.news_of_block (heap_alloc_new w _) j u hu

theorem wpList_append_b {ops : Array Oper} {rest : List Oper} {o : Oper} {a : Act} {w : World} {Q : Exit → Act → World → Prop} (hgd : o.guard = none) (s x : Operand) (tx : TypeId)
    (ho : o.op = .call { callee := .builtin .append, args := #[s, x], argTypes := #[31, tx] })
    {base : Nat} {v : Value} {l : List UInt8} (hown : OB w base v l) (hs : a.eval s = v)
    {xv : Value} {m : Nat} {r : List UInt8} (hsrc : Src Tryd.prog 1 tx xv m (bcells r) w) (hx : a.eval x = xv)
    (hbytes : l.length + r.length ≤ 140737488355328) (hbase : base ≤ w.heap.size)
    (h : ∀ v' w', OB w' base v' (l ++ r) → w.grownBy w' v.ownBlock → (v'.ownBlock = v.ownBlock ∨ v'.ownBlock = some w.heap.size) → wpList Tryd.prog ops Q rest (a.put o.dst v') w') : wpList Tryd.prog ops Q (o :: rest) a w := by
  obtain ⟨i0, hi, hz0, hz1, hz2⟩ := info_parts info_u8
  have hm : r.length = m := by have := hsrc.newsLen; rw [bcells_length] at this; omega
  refine wpList_append_ownS hgd s x 31 tx ho i0 _ 1 Tryd.underlying31 hi hz0 hz1 hz2 rfl (by omega) hs hown xv m (bcells r) hx hsrc (by unfold maxLen; omega) (by omega) hbase fun v' w' h1 h2 h3 => ?_
  refine h v' w' ?_ h2 h3
  unfold OB
  rw [bcells_append, List.length_append, hm]
  exact h1

theorem step_append_b {ops : Array Oper} {o : Oper} {a : Act} {w : World} {K : Act → World → Prop} {Q : Exit → Act → World → Prop} {E : Prop} (hgd : o.guard = none) (s x : Operand) (tx : TypeId)
    (ho : o.op = .call { callee := .builtin .append, args := #[s, x], argTypes := #[31, tx] })
    {base : Nat} {v : Value} {l : List UInt8} (hown : OB w base v l) (hs : a.eval s = v)
    {xv : Value} {m : Nat} {r : List UInt8} (hsrc : Src Tryd.prog 1 tx xv m (bcells r) w) (hx : a.eval x = xv)
    (hbytes : l.length + r.length ≤ 140737488355328) (hbase : base ≤ w.heap.size)
    (h : ∀ v' w', OB w' base v' (l ++ r) → w.grownBy w' v.ownBlock → (v'.ownBlock = v.ownBlock ∨ v'.ownBlock = some w.heap.size) → K (a.put o.dst v') w') :
    if Region.wanted o (yielded ops a.tmps) = true then Oper.wp Tryd.prog o a w K Q else E := by
  obtain ⟨i0, hi, hz0, hz1, hz2⟩ := info_parts info_u8
  have hm : r.length = m := by have := hsrc.newsLen; rw [bcells_length] at this; omega
  refine step_append_ownS hgd s x 31 tx ho i0 _ 1 Tryd.underlying31 hi hz0 hz1 hz2 rfl (by omega) hs hown xv m (bcells r) hx hsrc (by unfold maxLen; omega) (by omega) hbase fun v' w' h1 h2 h3 => ?_
  refine h v' w' ?_ h2 h3
  unfold OB
  rw [bcells_append, List.length_append, hm]
  exact h1

/-- What has been appended to, in a frame from B on. -/
theorem below_append {B base : Nat} {a w w' : World} {v : Value} {l : List UInt8} (h : Below B a w) (hg : w.grownBy w' v.ownBlock) (hown : OB w base v l) (hb : B ≤ base) (hB : B ≤ w.heap.size) : Below B a w' :=
  h.grown hg hB fun k hk => Nat.le_trans hb (hown.lt k hk).1

theorem byteCells_eq (s : ByteArray) : byteCells s = bcells s.data.toList := rfl
end Go.Proofs.YtjodehdmafagoaaDoor
