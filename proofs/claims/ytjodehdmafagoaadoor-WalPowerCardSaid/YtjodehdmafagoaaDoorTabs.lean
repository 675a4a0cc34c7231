/- The tables as the row lays them; layer 1's alive and long. -/
import Derived.Test.YtjodehdmafagoaaDoorTables
import Derived.Test.YtjodehdmafagoaaDoorRows
import Derived.Lib.LaidTab
import Derived.LaidMore
import Derived.Lib.SlBytesConst
namespace Go.Proofs.YtjodehdmafagoaaDoor
open Go.RowKit

set_option maxRecDepth 100000 in
theorem laid_tab {W : World} : ∀ {L : List (String × DataW Unit)} {ps : List MemPlace}, DataW.LaidVars Tryd.prog W L ps →
    ∀ {name : String} {k : IntKind} {zs : List Int} {g : Nat} {t e : TypeId} {n : Nat}, (name, Lib.tabData k zs) ∈ L → Tryd.prog.globalNamed name = some g → (Tryd.prog.globals[g]?).map (·.type) = some t →
    Tryd.prog.underlying t = some (.array n e) → Tryd.prog.underlying e = some (.int k) → Tryd.prog.cellsOf e = 1 → Tryd.prog.cellsOf t = n → Lib.TabIs Tryd.prog W name k zs
  | [], _, _, _, _, _, _, _, _, _, hm, _, _, _, _, _, _ => by cases hm
  | (n0, d0) :: r, ps, h, name, k, zs, g, t, e, n, hm, hg, hty, ht, he, hce, hct => by
    obtain ⟨g0, t0, cs0, f0, p0, q0, hg0, ht0, hv0, hd0, hq, rfl⟩ := h
    rcases List.mem_cons.1 hm with e' | hm
    · injection e' with e1 e2
      subst e1; subst e2
      obtain rfl := Option.some.inj (hg.symm.trans hg0)
      obtain rfl := Option.some.inj (hty.symm.trans ht0)
      have := Lib.cells_of_tab ht he hce hct hd0
      unfold Lib.TabIs
      rw [hv0]
      congr 1
      exact Array.toList_inj.1 (by rw [this])
    · exact laid_tab hq hm hg hty ht he hce hct

section
variable {L : List (String × DataW Unit)} {W : World}
set_option maxRecDepth 100000 in
theorem tab_of_laid (h : laidMetH Tryd.prog L W) (hp : (L.all fun x => x.2.handleName?.isNone) = true) {name : String} {k : IntKind} {zs : List Int} {g : Nat} {t e : TypeId} {n : Nat} (hm : (name, Lib.tabData k zs) ∈ L)
    (hg : Tryd.prog.globalNamed name = some g) (hty : (Tryd.prog.globals[g]?).map (·.type) = some t)
    (ht : Tryd.prog.underlying t = some (.array n e)) (he : Tryd.prog.underlying e = some (.int k)) (hce : Tryd.prog.cellsOf e = 1) (hct : Tryd.prog.cellsOf t = n) : Lib.TabIs Tryd.prog W name k zs := by
  rw [MakeChecks.laidMetH_plain _ _ _ hp] at h
  obtain ⟨ps, hv, _⟩ := h
  exact laid_tab hv hm hg hty ht he hce hct

theorem kdata : (Rows.laid_bulla_sha_constants : DataW Unit) = Lib.tabData .u32 (ktab.map fun x => (x.toNat : Int)) := by rfl
theorem fdata : (Rows.laid_bulla_sha_first : DataW Unit) = Lib.tabData .u32 (htab.list.map fun x => (x.toNat : Int)) := by rfl
theorem getD_map_nat (l : List UInt32) (k : Nat) : (l.map fun x => (x.toNat : Int)).getD k 0 = ((l.getD k 0).toNat : Int) := by
  simp only [List.getD_eq_getElem?_getD, List.getElem?_map]
  cases l[k]? <;> rfl
set_option maxRecDepth 100000 in
theorem kcells_of_laid (h : laidMetH Tryd.prog L W) (hp : (L.all fun x => x.2.handleName?.isNone) = true) (hm : ("bulla/sha.constants", Rows.laid_bulla_sha_constants) ∈ L) : KCells W kfun := by
  rw [kdata] at hm
  have hg : Tryd.prog.globalNamed "bulla/sha.constants" = some 29 := by kernel_rfl
  have ht := tab_of_laid h hp hm hg (t := 140) (by kernel_rfl) Tryd.underlying140 Tryd.underlying132 (by kernel_rfl) (by kernel_rfl)
  intro k hk
  rw [ht.cell hg k (by rw [List.length_map]; exact hk), getD_map_nat]
  rfl
set_option maxRecDepth 100000 in
theorem first_of_laid (h : laidMetH Tryd.prog L W) (hp : (L.all fun x => x.2.handleName?.isNone) = true) (hm : ("bulla/sha.first", Rows.laid_bulla_sha_first) ∈ L) : FirstCells W htab := by
  rw [fdata] at hm
  have hg : Tryd.prog.globalNamed "bulla/sha.first" = some 28 := by kernel_rfl
  have ht := tab_of_laid h hp hm hg (t := 134) (by kernel_rfl) Tryd.underlying134 Tryd.underlying132 (by kernel_rfl) (by kernel_rfl)
  intro k hk
  rw [ht.cell hg k (by rw [List.length_map]; exact hk), getD_map_nat]
end

/-- Both tables stand. -/
structure ShaTabs (w : World) : Prop where
  k : KCells w kfun
  f : FirstCells w htab
theorem ShaTabs.keep {w w' : World} (h : ShaTabs w) (k : Keeps w w') : ShaTabs w' := ⟨h.k.keep k, h.f.keep k⟩
theorem ShaTabs.lt {w : World} (h : ShaTabs w) : 29 < w.heap.size := World.block_lt_of_cell? w _ (h.k 0 (by decide))
theorem ShaTabs.of_laid {L : List (String × DataW Unit)} {W : World} (h : laidMetH Tryd.prog L W) (hp : (L.all fun x => x.2.handleName?.isNone) = true) (hm : ("bulla/sha.constants", Rows.laid_bulla_sha_constants) ∈ L) (hf : ("bulla/sha.first", Rows.laid_bulla_sha_first) ∈ L) : ShaTabs W :=
  ⟨kcells_of_laid h hp hm, first_of_laid h hp hf⟩

theorem abc_sum : (shaB kfun htab [97, 98, 99]).take 4 = [186, 120, 22, 191] := by decide +kernel
theorem abc_get (k : Nat) (hk : k < 4) : (shaB kfun htab [97, 98, 99]).getD k 0 = [186, 120, 22, 191].getD k (0 : UInt8) := by
  rw [← abc_sum, List.getD_eq_getElem?_getD, List.getD_eq_getElem?_getD, List.getElem?_take, if_pos hk]

/-- A slice literal of bytes, read. -/
theorem SB.cells {w : World} {g : Nat} {l : List UInt8} {n c : Nat} {T : TypeId} {fr : Nat × Nat} (h : w.heap[g]? = some (.cells (bcells l).toArray T fr)) (hn : l.length = n) (hc : n ≤ c) (hm : c ≤ maxLen) : SB w (.slice (some ⟨g, 0, none⟩) n c) l := by
  refine SB.of_rb ⟨hn, fun _ => ⟨g, 0, rfl, fun k hk => ?_⟩⟩ hc hm
  rw [cell_of_row _ _ _ _ _ _ h, Nat.zero_add, List.getElem?_toArray]
  exact bcells_get (by omega)
theorem RBL.lits {w : World} {g : Nat} {vs : List Value} {ls : List (List UInt8)} {n : Nat} {T : TypeId} {fr : Nat × Nat} (h : w.heap[g]? = some (.cells vs.toArray T fr)) (hn : ls.length = n) (hs : ∀ k, k < n → ∃ v, vs[k]? = some v ∧ SB w v (ls.getD k [])) : RBL w (some ⟨g, 0, none⟩) n ls := by
  refine ⟨hn, fun _ => ⟨g, 0, rfl, fun k hk => ?_⟩⟩
  obtain ⟨v, h1, h2⟩ := hs k hk
  exact ⟨v, by rw [cell_of_row _ _ _ _ _ _ h, Nat.zero_add, List.getElem?_toArray]; exact h1, h2⟩

theorem abc_parts (w : World) : RBL (((w.alloc (.cells #[.int .u8 97, .int .u8 98] 5 (2, 3))).alloc (.cells #[.int .u8 99] 5 (1, 2))).alloc (.cells #[.slice (some ⟨w.heap.size, 0, none⟩) 2 2, .slice (some ⟨w.heap.size + 1, 0, none⟩) 1 1] 31)) (some ⟨w.heap.size + 2, 0, none⟩) 2 [[97, 98], [99]] := by
  have h0 : ∀ o p, (((w.alloc (.cells #[.int .u8 97, .int .u8 98] 5 (2, 3))).alloc o).alloc p).heap[w.heap.size]? = some (.cells (bcells [97, 98]).toArray 5 (2, 3)) := fun o p =>
    (Below.heap_alloc _ p _ (by simp; omega)).trans ((Below.heap_alloc _ o _ (by simp)).trans (heap_alloc_new w _))
  have h1 : ∀ p, (((w.alloc (.cells #[.int .u8 97, .int .u8 98] 5 (2, 3))).alloc (.cells #[.int .u8 99] 5 (1, 2))).alloc p).heap[w.heap.size + 1]? = some (.cells (bcells [99]).toArray 5 (1, 2)) := fun p => by
    have := heap_alloc_new (w.alloc (.cells #[.int .u8 97, .int .u8 98] 5 (2, 3))) (.cells #[.int .u8 99] 5 (1, 2))
    rw [show (w.alloc (.cells #[.int .u8 97, .int .u8 98] 5 (2, 3))).heap.size = w.heap.size + 1 by simp] at this
    exact (Below.heap_alloc _ p _ (by simp)).trans this
  have h2 := heap_alloc_new ((w.alloc (.cells #[.int .u8 97, .int .u8 98] 5 (2, 3))).alloc (.cells #[.int .u8 99] 5 (1, 2))) (.cells [Value.slice (some ⟨w.heap.size, 0, none⟩) 2 2, .slice (some ⟨w.heap.size + 1, 0, none⟩) 1 1].toArray 31)
  rw [show ((w.alloc (.cells #[.int .u8 97, .int .u8 98] 5 (2, 3))).alloc (.cells #[.int .u8 99] 5 (1, 2))).heap.size = w.heap.size + 2 by simp] at h2
  refine RBL.lits h2 rfl (fun k hk => ?_)
  have : k = 0 ∨ k = 1 := by omega
  rcases this with rfl | rfl
  · exact ⟨_, rfl, SB.cells (h0 _ _) rfl (by decide) (by unfold maxLen; omega)⟩
  · exact ⟨_, rfl, SB.cells (h1 _) rfl (by decide) (by unfold maxLen; omega)⟩

theorem setRow_cell (w1 : World) (old cur : Array Value) (T : TypeId) (k : Nat) (v : Value) (h : cur[k]? = some v) : ((w1.alloc (.cells old T)).setRow w1.heap.size cur).cell? ⟨w1.heap.size, k, none⟩ = some v := by
  rw [cell_of_row _ _ _ _ _ _ (setRow_heap _ _ _ _ _ _ (heap_alloc_new w1 _))]
  exact h
theorem below_setRow {B : Nat} {a w : World} (h : Below B a w) {g : Nat} (hg : B ≤ g) (c : Array Value) : Below B a (w.setRow g c) :=
  ⟨h.os, h.tape, h.output, by simpa [World.setRow] using h.size, fun i hi => (setRow_other _ _ _ _ (by omega)).trans (h.block i hi)⟩
end Go.Proofs.YtjodehdmafagoaaDoor
