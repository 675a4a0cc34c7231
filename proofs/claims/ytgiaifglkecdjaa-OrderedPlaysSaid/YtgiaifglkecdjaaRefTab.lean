/- The reference's tables of texts (layer 16): rows of entries in memory; Rank, Get, keysOf, Between. -/
import Derived.Test.YtgiaifglkecdjaaPlayP
import Derived.Test.YtgiaifglkecdjaaTabSI
import Derived.Test.YtgiaifglkecdjaaRX
namespace Go.Proofs.Ytgiaifglkecdjaa
open Go.RowKit
open SI

def ecells (l : List (ByteArray × Int)) : List Value := l.flatMap fun y => [.string y.1, .int .i64 y.2]
theorem ecells_length (l : List (ByteArray × Int)) : (ecells l).length = l.length * 2 := by
  induction l with
  | nil => rfl
  | cons a l ih => simp only [ecells, List.flatMap_cons, List.length_append, List.length_cons, List.length_nil] at *; omega
theorem ecells_append (l r : List (ByteArray × Int)) : ecells (l ++ r) = ecells l ++ ecells r := by simp [ecells]
theorem ecells_get : ∀ (l : List (ByteArray × Int)) (k : Nat), k < l.length → (ecells l)[k * 2]? = some (.string (l.getD k default).1) ∧ (ecells l)[k * 2 + 1]? = some (.int .i64 (l.getD k default).2) := by
  intro l
  induction l with
  | nil => intro k h; exact absurd h (by simp)
  | cons a l ih =>
    intro k h
    cases k with
    | zero => exact ⟨rfl, rfl⟩
    | succ k =>
      have := ih k (by simpa using h)
      rw [show (k + 1) * 2 = k * 2 + 1 + 1 by omega]
      exact this
theorem ecells_one (l : List (ByteArray × Int)) : ∀ u ∈ ecells l, u.oneCell' = true := by
  intro u hu
  simp only [ecells, List.mem_flatMap, List.mem_cons, List.not_mem_nil, or_false] at hu
  obtain ⟨y, _, rfl | rfl⟩ := hu <;> rfl

/-- The slice header (A, n) reads as the entries l. -/
def RE (w : World) (A : Option Addr) (n : Nat) (l : List (ByteArray × Int)) : Prop :=
  l.length = n ∧ (0 < n → ∃ b o, A = some ⟨b, o, none⟩ ∧ ∀ k, k < n → w.cell? ⟨b, o + k * 2, none⟩ = some (.string (l.getD k default).1) ∧ w.cell? ⟨b, o + k * 2 + 1, none⟩ = some (.int .i64 (l.getD k default).2))
theorem RE.keep {w w' : World} {A n l} (h : RE w A n l) (k : Keeps w w') : RE w' A n l :=
  ⟨h.1, fun hn => let ⟨b, o, e, hc⟩ := h.2 hn; ⟨b, o, e, fun i hi => ⟨k _ _ (hc i hi).1, k _ _ (hc i hi).2⟩⟩⟩
theorem RE.of_own {w : World} {base e n c : Nat} {A : Option Addr} {l : List (ByteArray × Int)} (h : OwnS w base e 2 (.slice A n c) n (ecells l)) : RE w A n l := by
  have hl : l.length = n := by have := h.1; rw [ecells_length] at this; omega
  refine ⟨hl, fun hn => ?_⟩
  obtain ⟨g, o, cap, hv, _, _, hc⟩ := h.cells (by rw [ecells_length]; omega)
  injection hv with hA _ _
  subst hA
  refine ⟨g, o, rfl, fun k hk => ?_⟩
  have := ecells_get l k (by omega)
  exact ⟨hc _ _ this.1, hc _ _ this.2⟩

/-- Block R is a table of the reference, of the entries l. -/
def RTab (w : World) (R : Nat) (l : List (ByteArray × Int)) : Prop :=
  ∃ v, w.heap[R]? = some (.cells #[v] 30 (0, 0)) ∧ OwnS w 0 43 2 v l.length (ecells l)

theorem RTab.kept {S : Nat → Prop} {w w' : World} {R : Nat} {l : List (ByteArray × Int)} (a : RTab w R l) (hf : Fr S w w') (hs : ∀ (b : Nat) (cs : Array Value) (t : TypeId), w.heap[b]? = some (.cells cs t (0, 0)) → t = 30 ∨ t = 43 → ¬ S b) : RTab w' R l := by
  obtain ⟨v, h1, h2⟩ := a
  refine ⟨v, (hf.block R (Array.getElem?_eq_some_iff.1 h1).1 (hs _ _ _ h1 (.inl rfl))).trans h1, h2.kept hf fun k hk => ?_⟩
  rcases h2.2 with ⟨rfl, _⟩ | ⟨g, o, cap, cur, rfl, _, hg, _⟩
  · cases hk
  · injection hk with hk
    subst hk
    exact hs _ _ _ hg (.inr rfl)
theorem RTab.below {w w' : World} {R : Nat} {l : List (ByteArray × Int)} (a : RTab w R l) (hb : Below w.heap.size w w') : RTab w' R l :=
  a.kept (S := fun _ => False) (Fr.of_below hb) fun _ _ _ _ _ h => h

set_option maxHeartbeats 1000000 in
theorem RefRank_T (R : Nat) (k : ByteArray) (l : List (ByteArray × Int)) (w : World) (a : RTab w R l) (hlen : l.length ≤ 1000000000) :
    Calls Try.prog 22 #[.pointer (some ⟨R, 0, none⟩), .string k] w fun e w' => e = .returned (.int .i64 (rank klt k l : Int)) ∧ Below w.heap.size w w' := by
  obtain ⟨v, h1, h2⟩ := a
  obtain ⟨A, c, rfl, hc1, hc2⟩ := h2.form
  have c0 := cell_of_one h1
  have HX := Lib.hid (RE.of_own h2)
  clear h1 h2
  generalize hn : l.length = n at *
  have Hn := Lib.hid hn
  clear hn
  go_enter Try.func22, Try.ntmps22
  go_wp2
  go_loopw [5, 13] (fun s i wr => ∃ j : Nat, j ≤ n ∧ i = .int .i64 (j : Int) ∧ s = .int .i64 (rank klt k (l.take j) : Int) ∧ Below w.heap.size w wr) (fun _ i _ => n - (intOf i).toNat)
  case atStart => exact ⟨0, by omega, rfl, rfl, Below.refl _ _⟩
  case round =>
    obtain ⟨j, hj, rfl, rfl, hbel⟩ := hrel
    have HBe := Lib.hid hbel
    clear hbel
    by_cases hlt : j < n
    · obtain ⟨b, o, rfl, hb⟩ := HX.out.2 (by omega)
      have c1 := Keeps.of_below HBe.out _ _ (hb j hlt).1
      have c2 := Keeps.of_below HBe.out _ _ (hb j hlt).2
      have HS := Lib.hid (show rank klt k (l.take (j + 1)) = _ by
        rw [List.take_succ_eq_append_getElem (by rw [Hn.out]; exact hlt), rank_snoc])
      rw [List.getD_eq_getElem?_getD, List.getElem?_eq_getElem (by rw [Hn.out]; exact hlt)] at c1 c2
      simp only [Option.getD_some] at c1 c2
      have hrl := rank_le (lt := klt) k (l.take j)
      rw [List.length_take, Hn.out] at hrl
      generalize rank klt k (l.take j) = r at *
      generalize l[j]'(by rw [Hn.out]; exact hlt) = x at *
      clear hb
      have k0 : (0 : Int) ≤ (j : Int) := by omega
      have k1 : (j : Int) < (n : Int) := by omega
      cases hx : klt x.1 k with
      | true =>
        have q2 : Op.bytesLess x.1.toList k.toList = true := hx
        rw [hx] at HS
        clear hx
        go_wp2
        go_roundw
        case rel => exact ⟨j + 1, by omega, by go_num, by rw [HS.out]; rfl, HBe.out.alloc HBe.out.size _⟩
        case measure => simp [intOf]; omega
      | false =>
        have q2 : Op.bytesLess x.1.toList k.toList = false := hx
        rw [hx] at HS
        clear hx
        go_wp2
        go_roundw
        case rel => exact ⟨j + 1, by omega, by go_num, by rw [HS.out]; rfl, HBe.out.alloc HBe.out.size _⟩
        case measure => simp [intOf]; omega
    · obtain rfl : j = n := by omega
      have HL : Hid (l.take j = l) := Lib.hid (List.take_of_length_le (Nat.le_of_eq Hn.out))
      rw [HL.out]
      go_wp2
      go_ret
      exact ⟨rfl, HBe.out⟩

/-! ### rows of texts of a call's own -/
theorem info_str : (Try.prog.info? 9).map (fun i => (i.zero, i.size, i.bytes)) = some (some (.string ⟨#[]⟩), 1, 16) := by kernel_rfl
def OT (w : World) (base : Nat) (v : Value) (l : List ByteArray) : Prop := OwnS w base 9 1 v l.length (l.map Value.string)
theorem OT.nil (w : World) (base : Nat) : OT w base (.slice none 0 0) [] := OwnS.nil _ _ _ _
theorem OT.empty (w : World) (base : Nat) (hb : base ≤ w.heap.size) : OT (w.alloc (.cells #[] 9)) base (.slice (some ⟨w.heap.size, 0, none⟩) 0 0) [] := by
  have := OwnS.made (w := w.alloc (.cells #[] 9)) (base := base) (n := w.heap.size) (e := 9) (size := 1) hb (g := w.heap.size) (cap := 0) (len := 0) (heap_alloc_new w _) rfl (Nat.le_refl _) (by unfold maxLen; omega) (by simp)
  unfold OT
  simpa using this
theorem OT.alloc {w : World} {base : Nat} {v : Value} {l : List ByteArray} (h : OT w base v l) (o : Obj) : OT (w.alloc o) base v l := OwnS.alloc h o
theorem OT.form {w : World} {base : Nat} {v : Value} {l : List ByteArray} (h : OT w base v l) : ∃ A cap, v = .slice A l.length cap ∧ l.length ≤ cap ∧ cap ≤ maxLen ∧ RX w A l.length (l.map Value.string) := by
  obtain ⟨A, cap, rfl, h1, h2⟩ := OwnS.form h
  exact ⟨A, cap, rfl, h1, h2, RX.of_ownS h⟩
theorem Src.text (w : World) (g : Nat) (x : ByteArray) (c : Nat) (hg : g = w.heap.size) : Src Try.prog 1 38 (.slice (some ⟨g, 0, none⟩) 1 c) 1 ([x].map Value.string) (w.alloc (.cells #[.string x] 9)) :=
  hg ▸ Src.ofSlice _ Try.underlying38 _ _ c _ rfl (fun j u hu => World.news_of_block (cs := #[.string x]) (heap_alloc_new w _) j u hu) (fun u hu => by
    rcases List.mem_singleton.1 hu with rfl
    rfl)

theorem wpList_append_t {ops : Array Oper} {rest : List Oper} {o : Oper} {a : Act} {w : World} {Q : Exit → Act → World → Prop} (hgd : o.guard = none) (s x : Operand)
    (ho : o.op = .call { callee := .builtin .append, args := #[s, x], argTypes := #[38, 38] })
    {base : Nat} {v : Value} {l : List ByteArray} (hown : OT w base v l) (hs : a.eval s = v)
    {xv : Value} {m : Nat} {r : List ByteArray} (hsrc : Src Try.prog 1 38 xv m (r.map Value.string) w) (hx : a.eval x = xv)
    (hbytes : l.length + r.length ≤ 1000000000000) (hbase : base ≤ w.heap.size)
    (h : ∀ v' w', OT w' base v' (l ++ r) → w.grownBy w' v.ownBlock → wpList Try.prog ops Q rest (a.put o.dst v') w') : wpList Try.prog ops Q (o :: rest) a w := by
  obtain ⟨i0, hi, hz0, hz1, hz2⟩ := info_parts info_str
  have hm : r.length = m := by have := hsrc.newsLen; rw [List.length_map] at this; omega
  refine wpList_append_ownS hgd s x 38 38 ho i0 _ 16 Try.underlying38 hi hz0 hz1 hz2 rfl (by omega) hs hown xv m _ hx hsrc (by unfold maxLen; omega) (by omega) hbase fun v' w' h1 h2 _ => ?_
  refine h v' w' ?_ h2
  unfold OT
  rw [List.map_append, List.length_append, hm]
  exact h1
theorem below_append_t {B base : Nat} {a w w' : World} {v : Value} {l : List ByteArray} (h : Below B a w) (hg : w.grownBy w' v.ownBlock) (hown : OT w base v l) (hb : B ≤ base) (hB : B ≤ w.heap.size) : Below B a w' :=
  h.grown hg hB fun k hk => Nat.le_trans hb (OwnS.lt hown k hk).1

set_option maxHeartbeats 1000000 in
theorem RefGet_T (R : Nat) (k : ByteArray) (l : List (ByteArray × Int)) (w : World) (a : RTab w R l) (hri : Rises klt l) (hlen : l.length ≤ 1000000000) :
    Calls Try.prog 12 #[.pointer (some ⟨R, 0, none⟩), .string k] w fun e w' => e = .returned (match look klt k l with | some v => .tuple #[(.int .i64 v), .bool true] | none => .tuple #[(.int .i64 0), .bool false]) ∧ Below w.heap.size w w' := by
  obtain ⟨v, h1, h2⟩ := a
  obtain ⟨A, c, rfl, hc1, hc2⟩ := h2.form
  have c0 := cell_of_one h1
  have HX := Lib.hid (RE.of_own h2)
  have HR := Lib.hid hri
  clear h1 h2 hri
  generalize hn : l.length = n at *
  have Hn := Lib.hid hn
  clear hn
  generalize hr : look klt k l = r
  have Hlk := Lib.hid hr
  clear hr
  go_enter Try.func12, Try.ntmps12
  go_wp2
  go_loopw [13] (fun i wr => ∃ j : Nat, j ≤ n ∧ i = .int .i64 (j : Int) ∧ (∀ e ∈ l.take j, e.1 ≠ k) ∧ Below w.heap.size w wr) (fun i _ => n - (intOf i).toNat)
  case atStart => exact ⟨0, by omega, rfl, by simp, Below.refl _ _⟩
  case round =>
    obtain ⟨j, hj, rfl, hall, hbel⟩ := hrel
    have HBe := Lib.hid hbel
    have Hall := Lib.hid hall
    clear hbel hall
    by_cases hlt : j < n
    · obtain ⟨b, o, rfl, hb⟩ := HX.out.2 (by omega)
      have c1 := Keeps.of_below HBe.out _ _ (hb j hlt).1
      have c2 := Keeps.of_below HBe.out _ _ (hb j hlt).2
      have HS := Lib.hid (List.take_succ_eq_append_getElem (l := l) (i := j) (by rw [Hn.out]; exact hlt))
      have HG := Lib.hid (List.getElem?_eq_getElem (l := l) (i := j) (by rw [Hn.out]; exact hlt))
      rw [List.getD_eq_getElem?_getD, List.getElem?_eq_getElem (by rw [Hn.out]; exact hlt)] at c1 c2
      simp only [Option.getD_some] at c1 c2
      generalize l[j]'(by rw [Hn.out]; exact hlt) = x at *
      clear hb
      have k0 : (0 : Int) ≤ (j : Int) := by omega
      have k1 : (j : Int) < (n : Int) := by omega
      by_cases hx : x.1 = k
      · have q2 : (x.1.toList == k.toList) = true := by rw [hx]; simp
        have HL := Lib.hid (look_at klin HR.out HG.out)
        rw [hx] at HL
        obtain rfl : r = some x.2 := Hlk.out.symm.trans HL.out
        clear hx
        go_wp2
        go_ret2
        exact ⟨rfl, HBe.out.alloc HBe.out.size _⟩
      · have q2 : (x.1.toList == k.toList) = false := beq_eq_false_iff_ne.2 fun h => hx (ByteArray.ext (Array.toList_inj.1 (by rwa [ByteArray.toList_eq, ByteArray.toList_eq] at h)))
        have HN := Lib.hid hx
        clear hx
        go_wp2
        go_roundw
        case rel =>
          refine ⟨j + 1, by omega, by go_num, ?_, HBe.out.alloc HBe.out.size _⟩
          rw [HS.out]
          intro e he
          rcases List.mem_append.1 he with he | he
          · exact Hall.out e he
          · rw [List.mem_singleton.1 he]
            exact HN.out
        case measure => simp [intOf]; omega
    · obtain rfl : j = n := by omega
      obtain rfl : r = none := Hlk.out.symm.trans (look_none klin (by have := Hall.out; rwa [List.take_of_length_le (Nat.le_of_eq Hn.out)] at this))
      go_wp2
      go_ret2
      exact ⟨rfl, HBe.out⟩

end Go.Proofs.Ytgiaifglkecdjaa
