/- The document's disk (layer 17), in plain words: what is seen is what is sure behind all that waits. -/
import Derived.Test.YtifjddkgnfanaaaDoorWalK
import Derived.Test.YtifjddkgnfanaaaDoorZeros
import Derived.Test.YtifjddkgnfanaaaDoorDiskAt
import Derived.Deep.LoopGhost
namespace Go.Proofs.YtifjddkgnfanaaaDoor

theorem list_ext0 {a b : List UInt8} (h : a.length = b.length) (hg : ∀ j, a.getD j 0 = b.getD j 0) : a = b := by
  refine List.ext_getElem h fun j h1 h2 => ?_
  have := hg j
  simpa [List.getD_eq_getElem?_getD, h1, h2] using this
theorem padTo_getD (l : List UInt8) (n j : Nat) : (padTo l n).getD j 0 = l.getD j 0 := by
  unfold padTo
  simp only [List.getD_eq_getElem?_getD]
  rcases Nat.lt_or_ge j l.length with h | h
  · rw [List.getElem?_append_left h]
  · rw [List.getElem?_append_right h, List.getElem?_replicate, List.getElem?_eq_none h]
    split <;> rfl
theorem take_getD (l : List UInt8) (n j : Nat) (h : j < n) : (l.take n).getD j 0 = l.getD j 0 := by
  simp [List.getD_eq_getElem?_getD, h]
/-- An area behind a write, by its bytes. -/
theorem doB_char {l B : List UInt8} {c : DChg} (hc : c.cuts = false) (hl : B.length = max l.length (c.pos + c.bytes.length)) (hg : ∀ j, B.getD j 0 = if c.pos ≤ j ∧ j < c.pos + c.bytes.length then c.bytes.getD (j - c.pos) 0 else l.getD j 0) : B = doB l c := by
  unfold doB
  rw [hc, if_neg (by decide)]
  have hp := padTo_length l (c.pos + c.bytes.length)
  have ht : ((padTo l (c.pos + c.bytes.length)).take c.pos).length = c.pos := by rw [List.length_take, hp]; omega
  refine list_ext0 ?_ fun j => ?_
  · rw [List.length_append, List.length_append, List.length_drop, ht, hp, hl]
    omega
  · rw [hg j]
    simp only [List.getD_eq_getElem?_getD]
    by_cases h1 : j < c.pos
    · rw [if_neg (by omega), List.getElem?_append_left (by rw [List.length_append, ht]; omega), List.getElem?_append_left (by rw [ht]; exact h1), ← List.getD_eq_getElem?_getD, ← List.getD_eq_getElem?_getD, take_getD _ _ _ h1, padTo_getD]
    · by_cases h2 : j < c.pos + c.bytes.length
      · rw [if_pos ⟨by omega, h2⟩, List.getElem?_append_left (by rw [List.length_append, ht]; exact h2), List.getElem?_append_right (by rw [ht]; omega), ht]
      · rw [if_neg (by omega), List.getElem?_append_right (by rw [List.length_append, ht]; omega), List.getElem?_drop, List.length_append, ht, show c.pos + c.bytes.length + (j - (c.pos + c.bytes.length)) = j by omega, ← List.getD_eq_getElem?_getD, ← List.getD_eq_getElem?_getD, padTo_getD]

/-- Areas behind changes, one behind the other. -/
def foldC (f : Nat → List UInt8) : List DChg → Nat → List UInt8
  | [] => f
  | c :: r => foldC (updB f c.area (doB (f c.area) c)) r
theorem foldC_snoc (c : DChg) : ∀ (ws : List DChg) (f : Nat → List UInt8), foldC f (ws ++ [c]) = updB (foldC f ws) c.area (doB (foldC f ws c.area) c) := by
  intro ws
  induction ws with
  | nil => intro f; rfl
  | cons a r ih => intro f; exact ih _
theorem foldC_congr : ∀ (ws : List DChg) (f h : Nat → List UInt8), (∀ c ∈ ws, c.area < 3) → (∀ i, i < 3 → f i = h i) → ∀ i, i < 3 → foldC f ws i = foldC h ws i := by
  intro ws
  induction ws with
  | nil => intro f h _ e i hi; exact e i hi
  | cons a r ih =>
    intro f h ha e i hi
    refine ih _ _ (fun c hc => ha c (by simp [hc])) (fun j hj => ?_) i hi
    have h3 := ha a (by simp)
    by_cases hj2 : j = a.area
    · subst hj2; rw [updB_same, updB_same, e _ h3]
    · rw [updB_other _ _ _ _ hj2, updB_other _ _ _ _ hj2, e j hj]
/-- What is seen is what is sure behind all that waits. -/
def DM.Fold (m : DM) : Prop := ∀ i, i < 3 → m.b (3 + i) = foldC m.b m.waits i
section
variable {m : DM}
theorem DM.Fold.unit (h : m.Fold) : m.unit.Fold := by
  intro i hi
  rw [m.unit_b, m.unit_waits]
  exact h i hi
theorem DM.Fold.wait (h : m.Fold) (hw : ∀ c ∈ m.waits, c.area < 3) {c : DChg} (hc : c.area < 3) : (m.wait c).Fold := by
  intro i hi
  show updB m.b (3 + c.area) (doB (m.b (3 + c.area)) c) (3 + i) = foldC (updB m.b (3 + c.area) (doB (m.b (3 + c.area)) c)) (m.waits ++ [c]) i
  rw [foldC_snoc]
  have e : ∀ j, j < 3 → foldC (updB m.b (3 + c.area) (doB (m.b (3 + c.area)) c)) m.waits j = foldC m.b m.waits j := foldC_congr _ _ _ hw fun j hj => updB_other _ _ _ _ (by omega)
  by_cases hi2 : i = c.area
  · subst hi2
    rw [updB_same, updB_same, e _ hc, h _ hc]
  · rw [updB_other _ _ _ _ (by omega), updB_other _ _ _ _ hi2, e i hi, h i hi]
theorem DM.Fold.flush (m : DM) : m.flush.Fold := fun i hi => by
  show (if 3 + i < 3 then _ else m.b (3 + i)) = (if i < 3 then m.b (3 + i) else _)
  rw [if_neg (by omega), if_pos hi]
theorem DM.Fold.sync (h : m.Fold) : m.sync.Fold := by
  unfold DM.sync
  split
  · exact h.unit
  · exact DM.Fold.flush _
theorem DM.Fold.write (h : m.Fold) (hok : m.Ok) (a p : Int) (bs : List UInt8) : (m.write a p bs).Fold := by
  unfold DM.write
  split
  · rename_i h0
    refine h.unit.wait (fun c hc => ?_) ?_
    · rw [m.unit_waits] at hc
      exact (hok.wait c hc).1
    · unfold DM.writeE at h0
      split at h0
      · cases h0
      · show a.toNat < 3
        omega
  · split
    · exact h.unit
    · exact h
theorem DM.Fold.cut (h : m.Fold) (hok : m.Ok) (a p : Int) : (m.cut a p).Fold := by
  unfold DM.cut
  split
  · rename_i h0
    refine h.unit.wait (fun c hc => ?_) ?_
    · rw [m.unit_waits] at hc
      exact (hok.wait c hc).1
    · unfold DM.cutE at h0
      split at h0
      · cases h0
      · show a.toNat < 3
        omega
  · split
    · exact h.unit
    · exact h
theorem DM.Fold.crash (m : DM) (kept s torn : Int) : (m.crash kept s torn).Fold := fun i hi => by
  rw [(m.crash_b kept s torn hi).2]
  exact ((m.crash_b kept s torn hi).1).symm
theorem DM.Fold.wr (h : m.Fold) (hok : m.Ok) (a p : Int) (bs : List UInt8) : (wrM m a p bs).Fold := by
  unfold wrM
  split
  · exact (h.write hok a p bs).sync
  · exact h.write hok a p bs
theorem DM.Fold.cl (h : m.Fold) (hok : m.Ok) (a : Int) : (clM m a).Fold := by
  unfold clM
  split
  · exact (h.cut hok a 0).sync
  · exact h.cut hok a 0
theorem DM.Fold.sw (h : m.Fold) (hok : m.Ok) (a : Int) (bs : List UInt8) : (swM m a bs).Fold := by
  unfold swM
  split
  · split
    · exact ((h.cl hok a).wr (hok.clM a) a 0 bs).cl ((hok.clM a).wrM a 0 bs) 2
    · exact (h.cl hok a).wr (hok.clM a) a 0 bs
  · exact h.cl hok a
end
end Go.Proofs.YtifjddkgnfanaaaDoor

/- The document's disk (layer 17): Done. -/
namespace Go.Proofs.YtifjddkgnfanaaaDoor
open Go.RowKit

theorem own_emptyB {w : World} {q base : Nat} (h : w.heap[q]? = some (.cells #[] 5 (0, 0))) (hb : base ≤ q) : OB w base (.slice (some ⟨q, 0, none⟩) 0 0) [] :=
  ⟨rfl, .inr ⟨q, 0, 0, #[], rfl, hb, h, Nat.le_refl _, by unfold maxLen; omega, by simp, rfl⟩⟩
theorem four_allocs (w : World) (o1 o2 o3 o4 : Obj) : ((((w.alloc o1).alloc o2).alloc o3).alloc o4).heap[w.heap.size]? = some o1 ∧ ((((w.alloc o1).alloc o2).alloc o3).alloc o4).heap[w.heap.size + 1]? = some o2 ∧ ((((w.alloc o1).alloc o2).alloc o3).alloc o4).heap[w.heap.size + 1 + 1]? = some o3 ∧ ((((w.alloc o1).alloc o2).alloc o3).alloc o4).heap[w.heap.size + 3]? = some o4 ∧ ((((w.alloc o1).alloc o2).alloc o3).alloc o4).heap.size = w.heap.size + 4 ∧ Below w.heap.size w ((((w.alloc o1).alloc o2).alloc o3).alloc o4) := by
  have s1 : (w.alloc o1).heap.size = w.heap.size + 1 := by simp
  have s2 : ((w.alloc o1).alloc o2).heap.size = w.heap.size + 1 + 1 := by simp
  have s3 : (((w.alloc o1).alloc o2).alloc o3).heap.size = w.heap.size + 3 := by simp
  refine ⟨?_, ?_, ?_, ?_, by simp, ((((Below.refl _ w).alloc (Nat.le_refl _) _).alloc (by simp) _).alloc (by simp; omega) _).alloc (by simp; omega) _⟩
  · rw [heap_alloc_old _ o4 (by omega), heap_alloc_old _ o3 (by omega), heap_alloc_old _ o2 (by omega)]; exact heap_alloc_new w o1
  · rw [heap_alloc_old _ o4 (by omega), heap_alloc_old _ o3 (by omega), ← s1]; exact heap_alloc_new _ o2
  · rw [heap_alloc_old _ o4 (by omega), ← s2]; exact heap_alloc_new _ o3
  · rw [← s3]; exact heap_alloc_new _ o4
/-- What stands beneath the new area's block. -/
structure DoneW (w W : World) (arr chg : Array Value) : Prop where
  a : W.heap[w.heap.size]? = some (.cells arr 29 (0, 0))
  c : W.heap[w.heap.size + 1]? = some (.cells chg 70 (0, 0))
  r : W.heap[w.heap.size + 1 + 1]? = some (.cells #[.slice none 0 0, .slice none 0 0, .slice none 0 0] 29 (0, 0))
  bel : Below w.heap.size w W
  size : w.heap.size + 4 ≤ W.heap.size
theorem DoneW.next {w W W' : World} {arr chg : Array Value} (h : DoneW w W arr chg) (hb : Below (w.heap.size + 3) W W') : DoneW w W' arr chg :=
  ⟨(hb.block _ (by omega)).trans h.a, (hb.block _ (by omega)).trans h.c, (hb.block _ (by omega)).trans h.r, h.bel.trans (hb.mono (by omega)), Nat.le_trans h.size hb.size⟩
/-- The end: the area is stored, the array given back. -/
theorem done_end {w W : World} {chg : Array Value} {u0 u1 u2 x0 x1 x2 v : Value} {l : List UInt8} {i : Nat} (_hi : i < 3) (h : DoneW w W #[u0, u1, u2] chg) (ho : OB W (w.heap.size + 3) v l) : 
    OB ((((W.setCell ⟨w.heap.size, i, none⟩ v).setCell ⟨w.heap.size + 1 + 1, 0, none⟩ x0).setCell ⟨w.heap.size + 1 + 1, 1, none⟩ x1).setCell ⟨w.heap.size + 1 + 1, 2, none⟩ x2) w.heap.size v l ∧
    Below w.heap.size w ((((W.setCell ⟨w.heap.size, i, none⟩ v).setCell ⟨w.heap.size + 1 + 1, 0, none⟩ x0).setCell ⟨w.heap.size + 1 + 1, 1, none⟩ x1).setCell ⟨w.heap.size + 1 + 1, 2, none⟩ x2) ∧
    ((((W.setCell ⟨w.heap.size, i, none⟩ v).setCell ⟨w.heap.size + 1 + 1, 0, none⟩ x0).setCell ⟨w.heap.size + 1 + 1, 1, none⟩ x1).setCell ⟨w.heap.size + 1 + 1, 2, none⟩ x2).heap[w.heap.size + 1 + 1]? = some (.cells #[x0, x1, x2] 29 (0, 0)) := by
  have hF := ((((Fr.refl (fun k => k < w.heap.size + 3 ∧ w.heap.size ≤ k) W).setCell (p := ⟨w.heap.size, i, none⟩) (fun _ => ⟨by show w.heap.size < _; omega, Nat.le_refl _⟩) v).setCell (p := ⟨w.heap.size + 1 + 1, 0, none⟩) (fun _ => ⟨by show w.heap.size + 1 + 1 < _; omega, by show w.heap.size ≤ w.heap.size + 1 + 1; omega⟩) x0).setCell (p := ⟨w.heap.size + 1 + 1, 1, none⟩) (fun _ => ⟨by show w.heap.size + 1 + 1 < _; omega, by show w.heap.size ≤ w.heap.size + 1 + 1; omega⟩) x1).setCell (p := ⟨w.heap.size + 1 + 1, 2, none⟩) (fun _ => ⟨by show w.heap.size + 1 + 1 < _; omega, by show w.heap.size ≤ w.heap.size + 1 + 1; omega⟩) x2
  refine ⟨(OwnS.kept ho hF fun k hk e => ?_).mono fun k hk => ?_, h.bel.trans (hF.below (by have := h.size; omega) fun k _ e => e.2), ?_⟩
  · have := (OB.lt ho k hk).1; omega
  · have := (OB.lt ho k hk).1; omega
  · have hr : (W.setCell ⟨w.heap.size, i, none⟩ v).heap[w.heap.size + 1 + 1]? = some (.cells #[.slice none 0 0, .slice none 0 0, .slice none 0 0] 29 (0, 0)) := (Below.heap_setCell W ⟨w.heap.size, i, none⟩ v (w.heap.size + 1 + 1) (by show w.heap.size + 1 + 1 ≠ w.heap.size; omega)).trans h.r
    have := heap_setCell_same _ _ 2 _ _ x2 (heap_setCell_same _ _ 1 _ _ x1 (heap_setCell_same _ _ 0 _ _ x0 hr))
    exact this
/-- So many bytes of a change are written. -/
def Half (l : List UInt8) (pos : Nat) (bs : List UInt8) (i : Nat) (B : List UInt8) : Prop :=
  B.length = (if i = 0 then l.length else max l.length (pos + i)) ∧ ∀ j, B.getD j 0 = if pos ≤ j ∧ j < pos + i then bs.getD (j - pos) 0 else l.getD j 0
theorem snoc0_getD (B : List UInt8) (j : Nat) : (B ++ [0]).getD j 0 = B.getD j 0 := by
  simp only [List.getD_eq_getElem?_getD]
  rcases Nat.lt_or_ge j B.length with h | h
  · rw [List.getElem?_append_left h]
  · rw [List.getElem?_append_right h, List.getElem?_eq_none h]
    rcases Nat.eq_zero_or_pos (j - B.length) with h0 | h0
    · rw [h0]; rfl
    · rw [List.getElem?_eq_none (by simp; omega)]
theorem Half.zero (l : List UInt8) (pos : Nat) (bs : List UInt8) : Half l pos bs 0 l := ⟨by rw [if_pos rfl], fun j => by rw [if_neg (by omega)]⟩
theorem Half.next {l bs B B' : List UInt8} {pos i : Nat} (h : Half l pos bs i B) (hg : ∀ j, B'.getD j 0 = B.getD j 0) (hl : B'.length = max B.length (pos + i + 1)) : Half l pos bs (i + 1) (B'.set (pos + i) (bs.getD i 0)) := by
  refine ⟨?_, fun j => ?_⟩
  · have e2 : ¬ (i + 1 = 0) := by omega
    rw [List.length_set, hl, h.1, if_neg e2]
    split <;> omega
  · rw [List.getD_eq_getElem?_getD, List.getElem?_set]
    by_cases e : pos + i = j
    · subst e
      rw [if_pos rfl, if_pos (by rw [hl]; omega), if_pos (by omega), Nat.add_sub_cancel_left]
      rfl
    · rw [if_neg e, ← List.getD_eq_getElem?_getD, hg j, h.2 j]
      by_cases h1 : pos ≤ j ∧ j < pos + i
      · rw [if_pos h1, if_pos (by omega)]
      · rw [if_neg h1, if_neg (by omega)]
theorem Half.done {l bs B B' : List UInt8} {pos a : Nat} (h : Half l pos bs bs.length B) (hg : ∀ j, B'.getD j 0 = B.getD j 0) (hl : B'.length = max B.length pos) : B' = doB l ⟨a, pos, bs, false⟩ := by
  refine doB_char rfl ?_ fun j => ?_
  · show _ = max l.length (pos + bs.length)
    rw [hl, h.1]
    split <;> omega
  · rw [hg j, h.2 j]
theorem info_arr3 : (Tryd.prog.info? 29).map (·.size) = some 3 := by kernel_rfl

set_option maxHeartbeats 4000000 in
set_option maxRecDepth 100000 in
theorem Done_cut0 (A0 A1 A2 : Option Addr) (k0 k1 k2 : Nat) (f0 f1 f2 : List UInt8) (pos : Nat) (bs : List UInt8) (A : Option Addr) (k : Nat) (w : World) (hf : RB w A0 f0.length f0) (hl : f0.length ≤ 1048576) (hc : RB w A bs.length bs) (_hp : pos + bs.length ≤ 1048576) :
    Calls Tryd.prog 50 #[.agg #[.slice A0 f0.length k0, .slice A1 f1.length k1, .slice A2 f2.length k2], .agg #[.int .i64 0, .int .i64 (pos : Int), .slice A bs.length k, .bool true]] w fun e w' => ∃ A' k', e = .returned (.agg #[.slice A' (doB f0 ⟨0, pos, bs, true⟩).length k', .slice A1 f1.length k1, .slice A2 f2.length k2]) ∧ OB w' w.heap.size (.slice A' (doB f0 ⟨0, pos, bs, true⟩).length k') (doB f0 ⟨0, pos, bs, true⟩) ∧ Below w.heap.size w w' := by
  obtain ⟨z0, z1, z2, z3, z4, z5⟩ := four_allocs w (.cells #[.slice A0 f0.length k0, .slice A1 f1.length k1, .slice A2 f2.length k2] 29) (.cells #[.int .i64 0, .int .i64 (pos : Int), .slice A bs.length k, .bool true] 70) (.cells #[.slice none 0 0, .slice none 0 0, .slice none 0 0] 29) (.cells #[] 5)
  obtain ⟨wz, hwz⟩ : ∃ W, W = (((w.alloc (.cells #[.slice A0 f0.length k0, .slice A1 f1.length k1, .slice A2 f2.length k2] 29)).alloc (.cells #[.int .i64 0, .int .i64 (pos : Int), .slice A bs.length k, .bool true] 70)).alloc (.cells #[.slice none 0 0, .slice none 0 0, .slice none 0 0] 29)).alloc (.cells #[] 5) := ⟨_, rfl⟩
  rw [← hwz] at z0 z1 z2 z3 z4 z5
  have HWZ := Lib.hid hwz
  have HSZ := Lib.hid z4
  have DW0 : Hid (DoneW w wz #[.slice A0 f0.length k0, .slice A1 f1.length k1, .slice A2 f2.length k2] #[.int .i64 0, .int .i64 (pos : Int), .slice A bs.length k, .bool true]) := Lib.hid ⟨z0, z1, z2, z5, Nat.le_of_eq z4.symm⟩
  have Z3 := Lib.hid z3
  have HF := Lib.hid (hf.keep (Keeps.of_below z5))
  have HCW := Lib.hid hc
  have p0 : (0 : Int) ≤ (pos : Int) := by omega
  by_cases hlt : pos < f0.length
  · have q1 : decide ((pos : Int) < (f0.length : Int)) = true := decide_eq_true (by omega)
    have q1n : decide (pos < f0.length) = true := decide_eq_true hlt
    have q2 : (pos : Int) ≤ (f0.length : Int) := by omega
    have HEq : Hid (doB f0 ⟨0, pos, bs, true⟩ = f0.take pos) := Lib.hid rfl
    have HTl : Hid ((f0.take pos).length = pos) := Lib.hid (by rw [List.length_take]; omega)
    have HLt := Lib.hid hlt
    clear hlt
    clear hwz z0 z1 z2 z3 z4 z5 hf hc
    go_enter Tryd.func50, Tryd.ntmps50
    go_wp2_with (first
      | (at_builtin; go_loud (rw [← HWZ.out]; refine wpList_append_b rfl (.tmp 8) (.tmp 12) 28 (by rfl) (own_emptyB (q := w.heap.size + 3) (base := w.heap.size + 3) Z3.out (Nat.le_refl _)) (by rfl) (HF.out.src Tryd.underlying28 (c := k0)) (by rfl) (by simp; omega) (by have := HSZ.out; omega) ?_; intro v5 w5 hown5 hgr5 hat5; rw [List.nil_append] at hown5; obtain ⟨A5, c5, rfl, h5, h5', -⟩ := hown5.form; have O5 := Lib.hid hown5; have B5 : Hid (Below (w.heap.size + 3) wz w5) := Lib.hid (Fr.below (Fr.of_grown hgr5) (by have := HSZ.out; omega) (fun i _ e => Nat.le_of_eq (Option.some.inj (show some i = some (w.heap.size + 3) from e)).symm)); have DW5 := Lib.hid (DW0.out.next B5.out); have d0 : w5.cell? ⟨w.heap.size + 1, 0, none⟩ = some (.int .i64 0) := cell_of_row _ _ 0 _ _ _ DW5.out.c; have d1 : w5.cell? ⟨w.heap.size + 1, 1, none⟩ = some (.int .i64 (pos : Int)) := cell_of_row _ _ 1 _ _ _ DW5.out.c; have d2 : w5.cell? ⟨w.heap.size + 1, 2, none⟩ = some (.slice A bs.length k) := cell_of_row _ _ 2 _ _ _ DW5.out.c; have d3 : w5.cell? ⟨w.heap.size + 1, 3, none⟩ = some (.bool true) := cell_of_row _ _ 3 _ _ _ DW5.out.c; have u0 : w5.cell? ⟨w.heap.size, 0, none⟩ = some (.slice A0 f0.length k0) := cell_of_row _ _ 0 _ _ _ DW5.out.a; have u1 : w5.cell? ⟨w.heap.size, 1, none⟩ = some (.slice A1 f1.length k1) := cell_of_row _ _ 1 _ _ _ DW5.out.a; have u2 : w5.cell? ⟨w.heap.size, 2, none⟩ = some (.slice A2 f2.length k2) := cell_of_row _ _ 2 _ _ _ DW5.out.a; have fu : w5.frozen? ⟨w.heap.size, 0, none⟩ = false := frozen_of_row _ _ _ _ _ DW5.out.a; have r0 : w5.cell? ⟨w.heap.size + 1 + 1, 0, none⟩ = some (.slice none 0 0) := cell_of_row _ _ 0 _ _ _ DW5.out.r; have fr0 : w5.frozen? ⟨w.heap.size + 1 + 1, 0, none⟩ = false := frozen_of_row _ _ _ _ _ DW5.out.r; have r1 : w5.cell? ⟨w.heap.size + 1 + 1, 1, none⟩ = some (.slice none 0 0) := cell_of_row _ _ 1 _ _ _ DW5.out.r; have fr1 : w5.frozen? ⟨w.heap.size + 1 + 1, 1, none⟩ = false := frozen_of_row _ _ _ _ _ DW5.out.r; have r2 : w5.cell? ⟨w.heap.size + 1 + 1, 2, none⟩ = some (.slice none 0 0) := cell_of_row _ _ 2 _ _ _ DW5.out.r; have fr2 : w5.frozen? ⟨w.heap.size + 1 + 1, 2, none⟩ = false := frozen_of_row _ _ _ _ _ DW5.out.r;  clear hown5 hgr5 hat5))
      | fail)
    have l5 : (f0.length : Int) ≤ (c5 : Int) := by omega
    go_wp2
    have HE := done_end (x0 := (.slice A5 pos c5)) (x1 := (.slice A1 f1.length k1)) (x2 := (.slice A2 f2.length k2)) (i := 0) (by decide) DW5.out (by have h := O5.out.cutTo pos (by have := HLt.out; omega); exact h)
    refine bodyPost_ret (results_cell_row rfl _ _ (w.heap.size + 1 + 1) 29 #[(.slice A5 pos c5), (.slice A1 f1.length k1), (.slice A2 f2.length k2)] (0, 0) _ rfl HE.2.2 Tryd.underlying29 rfl info_arr3) rfl ⟨A5, c5, ?_, ?_, HE.2.1⟩
    · rw [HEq.out, HTl.out]
    · rw [HEq.out, HTl.out]; exact HE.1
  · have q1 : decide ((pos : Int) < (f0.length : Int)) = false := decide_eq_false (by omega)
    have q1n : decide (pos < f0.length) = false := decide_eq_false hlt
    have HEq : Hid (doB f0 ⟨0, pos, bs, true⟩ = f0) := Lib.hid (by show f0.take pos = _; exact List.take_of_length_le (by omega))
    clear hlt
    clear hwz z0 z1 z2 z3 z4 z5 hf hc
    go_enter Tryd.func50, Tryd.ntmps50
    go_wp2_with (first
      | (at_builtin; go_loud (rw [← HWZ.out]; refine wpList_append_b rfl (.tmp 8) (.tmp 12) 28 (by rfl) (own_emptyB (q := w.heap.size + 3) (base := w.heap.size + 3) Z3.out (Nat.le_refl _)) (by rfl) (HF.out.src Tryd.underlying28 (c := k0)) (by rfl) (by simp; omega) (by have := HSZ.out; omega) ?_; intro v5 w5 hown5 hgr5 hat5; rw [List.nil_append] at hown5; obtain ⟨A5, c5, rfl, h5, h5', -⟩ := hown5.form; have O5 := Lib.hid hown5; have B5 : Hid (Below (w.heap.size + 3) wz w5) := Lib.hid (Fr.below (Fr.of_grown hgr5) (by have := HSZ.out; omega) (fun i _ e => Nat.le_of_eq (Option.some.inj (show some i = some (w.heap.size + 3) from e)).symm)); have DW5 := Lib.hid (DW0.out.next B5.out); have d0 : w5.cell? ⟨w.heap.size + 1, 0, none⟩ = some (.int .i64 0) := cell_of_row _ _ 0 _ _ _ DW5.out.c; have d1 : w5.cell? ⟨w.heap.size + 1, 1, none⟩ = some (.int .i64 (pos : Int)) := cell_of_row _ _ 1 _ _ _ DW5.out.c; have d2 : w5.cell? ⟨w.heap.size + 1, 2, none⟩ = some (.slice A bs.length k) := cell_of_row _ _ 2 _ _ _ DW5.out.c; have d3 : w5.cell? ⟨w.heap.size + 1, 3, none⟩ = some (.bool true) := cell_of_row _ _ 3 _ _ _ DW5.out.c; have u0 : w5.cell? ⟨w.heap.size, 0, none⟩ = some (.slice A0 f0.length k0) := cell_of_row _ _ 0 _ _ _ DW5.out.a; have u1 : w5.cell? ⟨w.heap.size, 1, none⟩ = some (.slice A1 f1.length k1) := cell_of_row _ _ 1 _ _ _ DW5.out.a; have u2 : w5.cell? ⟨w.heap.size, 2, none⟩ = some (.slice A2 f2.length k2) := cell_of_row _ _ 2 _ _ _ DW5.out.a; have fu : w5.frozen? ⟨w.heap.size, 0, none⟩ = false := frozen_of_row _ _ _ _ _ DW5.out.a; have r0 : w5.cell? ⟨w.heap.size + 1 + 1, 0, none⟩ = some (.slice none 0 0) := cell_of_row _ _ 0 _ _ _ DW5.out.r; have fr0 : w5.frozen? ⟨w.heap.size + 1 + 1, 0, none⟩ = false := frozen_of_row _ _ _ _ _ DW5.out.r; have r1 : w5.cell? ⟨w.heap.size + 1 + 1, 1, none⟩ = some (.slice none 0 0) := cell_of_row _ _ 1 _ _ _ DW5.out.r; have fr1 : w5.frozen? ⟨w.heap.size + 1 + 1, 1, none⟩ = false := frozen_of_row _ _ _ _ _ DW5.out.r; have r2 : w5.cell? ⟨w.heap.size + 1 + 1, 2, none⟩ = some (.slice none 0 0) := cell_of_row _ _ 2 _ _ _ DW5.out.r; have fr2 : w5.frozen? ⟨w.heap.size + 1 + 1, 2, none⟩ = false := frozen_of_row _ _ _ _ _ DW5.out.r;  clear hown5 hgr5 hat5))
      | fail)
    go_wp2
    have HE := done_end (x0 := (.slice A5 f0.length c5)) (x1 := (.slice A1 f1.length k1)) (x2 := (.slice A2 f2.length k2)) (i := 0) (by decide) DW5.out O5.out
    refine bodyPost_ret (results_cell_row rfl _ _ (w.heap.size + 1 + 1) 29 #[(.slice A5 f0.length c5), (.slice A1 f1.length k1), (.slice A2 f2.length k2)] (0, 0) _ rfl HE.2.2 Tryd.underlying29 rfl info_arr3) rfl ⟨A5, c5, ?_, ?_, HE.2.1⟩
    · rw [HEq.out]
    · rw [HEq.out]; exact HE.1

set_option maxHeartbeats 4000000 in
set_option maxRecDepth 100000 in
theorem Done_wr0 (A0 A1 A2 : Option Addr) (k0 k1 k2 : Nat) (f0 f1 f2 : List UInt8) (pos : Nat) (bs : List UInt8) (A : Option Addr) (k : Nat) (w : World) (hf : RB w A0 f0.length f0) (hl : f0.length ≤ 1048576) (hc : RB w A bs.length bs) (hp : pos + bs.length ≤ 1048576) :
    Calls Tryd.prog 50 #[.agg #[.slice A0 f0.length k0, .slice A1 f1.length k1, .slice A2 f2.length k2], .agg #[.int .i64 0, .int .i64 (pos : Int), .slice A bs.length k, .bool false]] w fun e w' => ∃ A' k', e = .returned (.agg #[.slice A' (doB f0 ⟨0, pos, bs, false⟩).length k', .slice A1 f1.length k1, .slice A2 f2.length k2]) ∧ OB w' w.heap.size (.slice A' (doB f0 ⟨0, pos, bs, false⟩).length k') (doB f0 ⟨0, pos, bs, false⟩) ∧ Below w.heap.size w w' := by
  obtain ⟨z0, z1, z2, z3, z4, z5⟩ := four_allocs w (.cells #[.slice A0 f0.length k0, .slice A1 f1.length k1, .slice A2 f2.length k2] 29) (.cells #[.int .i64 0, .int .i64 (pos : Int), .slice A bs.length k, .bool false] 70) (.cells #[.slice none 0 0, .slice none 0 0, .slice none 0 0] 29) (.cells #[] 5)
  obtain ⟨wz, hwz⟩ : ∃ W, W = (((w.alloc (.cells #[.slice A0 f0.length k0, .slice A1 f1.length k1, .slice A2 f2.length k2] 29)).alloc (.cells #[.int .i64 0, .int .i64 (pos : Int), .slice A bs.length k, .bool false] 70)).alloc (.cells #[.slice none 0 0, .slice none 0 0, .slice none 0 0] 29)).alloc (.cells #[] 5) := ⟨_, rfl⟩
  rw [← hwz] at z0 z1 z2 z3 z4 z5
  have HWZ := Lib.hid hwz
  have HSZ := Lib.hid z4
  have DW0 : Hid (DoneW w wz #[.slice A0 f0.length k0, .slice A1 f1.length k1, .slice A2 f2.length k2] #[.int .i64 0, .int .i64 (pos : Int), .slice A bs.length k, .bool false]) := Lib.hid ⟨z0, z1, z2, z5, Nat.le_of_eq z4.symm⟩
  have Z3 := Lib.hid z3
  have HF := Lib.hid (hf.keep (Keeps.of_below z5))
  have HCW := Lib.hid hc
  have p0 : (0 : Int) ≤ (pos : Int) := by omega
  have pm : (pos : Int) ≤ 1048576 := by omega
  have bm : (bs.length : Int) ≤ 1048576 := by omega
  have HPB := Lib.hid hp
  have HLM := Lib.hid hl
  clear hwz z0 z1 z2 z3 z4 z5 hf hc
  go_enter Tryd.func50, Tryd.ntmps50
  go_wp2_with (first
    | (at_builtin; go_loud (rw [← HWZ.out]; refine wpList_append_b rfl (.tmp 8) (.tmp 12) 28 (by rfl) (own_emptyB (q := w.heap.size + 3) (base := w.heap.size + 3) Z3.out (Nat.le_refl _)) (by rfl) (HF.out.src Tryd.underlying28 (c := k0)) (by rfl) (by simp; omega) (by have := HSZ.out; omega) ?_; intro v5 w5 hown5 hgr5 hat5; rw [List.nil_append] at hown5; obtain ⟨A5, c5, rfl, h5, h5', -⟩ := hown5.form; have O5 := Lib.hid hown5; have B5 : Hid (Below (w.heap.size + 3) wz w5) := Lib.hid (Fr.below (Fr.of_grown hgr5) (by have := HSZ.out; omega) (fun i _ e => Nat.le_of_eq (Option.some.inj (show some i = some (w.heap.size + 3) from e)).symm)); have DW5 := Lib.hid (DW0.out.next B5.out); have d0 : w5.cell? ⟨w.heap.size + 1, 0, none⟩ = some (.int .i64 0) := cell_of_row _ _ 0 _ _ _ DW5.out.c; have d1 : w5.cell? ⟨w.heap.size + 1, 1, none⟩ = some (.int .i64 (pos : Int)) := cell_of_row _ _ 1 _ _ _ DW5.out.c; have d2 : w5.cell? ⟨w.heap.size + 1, 2, none⟩ = some (.slice A bs.length k) := cell_of_row _ _ 2 _ _ _ DW5.out.c; have d3 : w5.cell? ⟨w.heap.size + 1, 3, none⟩ = some (.bool false) := cell_of_row _ _ 3 _ _ _ DW5.out.c;  clear hown5 hgr5 hat5))
    | fail)
  go_loopg [5, 28] bs.length (fun gk s5 s28 wr => ∃ (i : Nat) (AX : Option Addr) (cX : Nat) (BX : List UInt8), i + gk = bs.length ∧ s28 = .int .i64 (i : Int) ∧ s5 = .slice AX BX.length cX ∧ BX.length ≤ cX ∧ cX ≤ maxLen ∧ OB wr (w.heap.size + 3) (.slice AX BX.length cX) BX ∧ DoneW w wr #[.slice A0 f0.length k0, .slice A1 f1.length k1, .slice A2 f2.length k2] #[.int .i64 0, .int .i64 (pos : Int), .slice A bs.length k, .bool false] ∧ Below (w.heap.size + 3) wz wr ∧ Half f0 pos bs i BX)
  case atStart => exact ⟨0, A5, c5, f0, by omega, rfl, rfl, h5, h5', O5.out, DW5.out, B5.out, Half.zero _ _ _⟩
  case round =>
    obtain ⟨i, AX, cX, BX, hik, rfl, rfl, hx1, hx2, hox, hdx, hbx, hhx⟩ := hrel
    have OX := Lib.hid hox
    have DX := Lib.hid hdx
    have BX0 := Lib.hid hbx
    have HH := Lib.hid hhx
    have HIK := Lib.hid hik
    have HXC := Lib.hid (And.intro hx1 hx2)
    have HXL : Hid (BX.length ≤ 1048576) := Lib.hid (by rw [hhx.1]; have := HPB.out; have := HLM.out; split <;> omega)
    have x0 : wr.cell? ⟨w.heap.size + 1, 0, none⟩ = some (.int .i64 0) := cell_of_row _ _ 0 _ _ _ hdx.c
    have x1 : wr.cell? ⟨w.heap.size + 1, 1, none⟩ = some (.int .i64 (pos : Int)) := cell_of_row _ _ 1 _ _ _ hdx.c
    have x2 : wr.cell? ⟨w.heap.size + 1, 2, none⟩ = some (.slice A bs.length k) := cell_of_row _ _ 2 _ _ _ hdx.c
    clear hox hdx hbx hhx hik hx1 hx2
    by_cases hlt : i < bs.length
    · have i0 : (0 : Int) ≤ (i : Int) := by omega
      have i1 : (i : Int) < (bs.length : Int) := by omega
      have i2 : (pos : Int) + (i : Int) ≤ 1048576 := by omega
      have HLT := Lib.hid hlt
      obtain ⟨bb, ob, rfl, hcell⟩ := HCW.out.2 (by omega)
      have hbw : bb < w.heap.size + 3 := Nat.lt_of_lt_of_le (World.block_lt_of_cell? w _ (hcell i hlt)) (by omega)
      have cb := Keeps.of_below DW0.out.bel _ _ (hcell i hlt)
      have cbr : wr.cell? ⟨bb, ob + i, none⟩ = some (.int .u8 ((bs.getD i 0).toNat : Int)) := (BX0.out.cell (p := ⟨bb, ob + i, none⟩) hbw).trans cb
      obtain ⟨xb, hxb⟩ : ∃ x, x = bs.getD i 0 := ⟨_, rfl⟩
      have HXB := Lib.hid hxb
      rw [← hxb] at cbr
      clear hlt hcell cb hxb
      go_wp2_with fail

      go_loopg [5] (pos + i + 1 - BX.length) (fun gk s5 wr => ∃ (A6 : Option Addr) (c6 : Nat) (B6 : List UInt8), s5 = .slice A6 B6.length c6 ∧ B6.length ≤ c6 ∧ c6 ≤ maxLen ∧ OB wr (w.heap.size + 3) (.slice A6 B6.length c6) B6 ∧ DoneW w wr #[.slice A0 f0.length k0, .slice A1 f1.length k1, .slice A2 f2.length k2] #[.int .i64 0, .int .i64 (pos : Int), .slice (some ⟨bb, ob, none⟩) bs.length k, .bool false] ∧ Below (w.heap.size + 3) wz wr ∧ (∀ j, B6.getD j 0 = BX.getD j 0) ∧ pos + i + 1 - B6.length = gk ∧ B6.length = max BX.length (min B6.length (pos + i + 1)))
      case atStart => exact ⟨AX, cX, BX, rfl, HXC.out.1, HXC.out.2, OX.out, DX.out, BX0.out, fun _ => rfl, rfl, by omega⟩
      case round =>
        obtain ⟨A6, c6, B6, rfl, h6, h6', ho6, hd6, hb6, hg6, hk6, hm6⟩ := hrel
        have O6 := Lib.hid ho6
        have D6 := Lib.hid hd6
        have BB6 := Lib.hid hb6
        have G6 := Lib.hid hg6
        have K6 := Lib.hid hk6
        have M6 := Lib.hid hm6
        have C6 := Lib.hid (And.intro h6 h6')
        have e0 : wr.cell? ⟨w.heap.size + 1, 0, none⟩ = some (.int .i64 0) := cell_of_row _ _ 0 _ _ _ hd6.c
        have e1 : wr.cell? ⟨w.heap.size + 1, 1, none⟩ = some (.int .i64 (pos : Int)) := cell_of_row _ _ 1 _ _ _ hd6.c
        have e2 : wr.cell? ⟨w.heap.size + 1, 2, none⟩ = some (.slice (some ⟨bb, ob, none⟩) bs.length k) := cell_of_row _ _ 2 _ _ _ hd6.c
        have l6 : B6.length ≤ 1048576 := by have := HPB.out; have := HLM.out; have := HXL.out; omega
        clear ho6 hd6 hb6 hg6 hk6 hm6 h6 h6'
        by_cases hpad : B6.length < pos + i + 1
        · have qa : decide ((B6.length : Int) ≤ (pos : Int) + (i : Int)) = true := decide_eq_true (by omega)
          have qb : decide (B6.length ≤ pos + i) = true := decide_eq_true (by omega)
          have HPAD := Lib.hid hpad
          clear hpad
          go_wp2_with (first
            | (at_builtin; go_loud (refine wpList_append_b rfl (.tmp 40) (.tmp 41) 28 (by rfl) (O6.out.alloc _) (by rfl) (Src.lit wr _ [0] rfl 1 1 rfl) (by rfl) (by simp; omega) (by have := D6.out.size; simp; omega) ?_; intro v7 w7 hown7 hgr7 hat7; obtain ⟨A7, c7, e7, h7, h7', -⟩ := hown7.form; rw [List.length_append, List.length_singleton] at e7 h7; subst e7; have O7 := Lib.hid hown7; have C7 := Lib.hid (And.intro h7 h7'); have B7 : Hid (Below (w.heap.size + 3) wr w7) := Lib.hid (((Below.refl (w.heap.size + 3) wr).alloc (by have := D6.out.size; omega) _).grown hgr7 (by have := D6.out.size; simp; omega) fun q hq => (OB.lt O6.out q hq).1); clear hown7 hgr7 hat7 h7 h7'))
            | fail)
          go_roundg (gk - 1)
          case measure => have := K6.out; have := HPAD.out; omega
          case rel =>
            have hlen : (B6 ++ [0]).length = B6.length + 1 := by simp
            refine ⟨A7, c7, B6 ++ [0], by rw [hlen], by rw [hlen]; exact C7.out.1, C7.out.2, by rw [hlen]; exact O7.out, D6.out.next B7.out, BB6.out.trans B7.out, fun j => (snoc0_getD B6 j).trans (G6.out j), ?_, ?_⟩
            · rw [hlen]; have := K6.out; have := HPAD.out; omega
            · rw [hlen]; have := M6.out; have := HPAD.out; omega
        · have qa : decide ((B6.length : Int) ≤ (pos : Int) + (i : Int)) = false := decide_eq_false (by omega)
          have qb : decide (B6.length ≤ pos + i) = false := decide_eq_false (by omega)
          have hfin : B6.length = max BX.length (pos + i + 1) := by have := M6.out; omega
          have HFin := Lib.hid hfin
          have lge : pos + i + 1 ≤ B6.length := by omega
          clear hpad hfin
          obtain ⟨bq, oq, eA6⟩ : ∃ b o, A6 = some ⟨b, o, none⟩ := by
            obtain ⟨b', o', e', _⟩ := (RB.of_ownS O6.out).2 (by omega)
            exact ⟨b', o', e'⟩
          subst eA6
          have hcl : wr.cell? ⟨bq, oq + (pos + i), none⟩ = some (.int .u8 ((B6.getD (pos + i) 0).toNat : Int)) := by
            obtain ⟨b', o', e', hc'⟩ := (RB.of_ownS O6.out).2 (by omega)
            injection e' with e'
            injection e' with e1' e2'
            subst e1'; subst e2'
            exact hc' (pos + i) (by omega)
          obtain ⟨hfz, hset⟩ := OB.setB xb O6.out rfl (show pos + i < B6.length by omega)
          have HSet := Lib.hid hset
          have y1 : (pos : Int) + (i : Int) < (B6.length : Int) := by omega
          have y2 : pos + i < B6.length := by omega
          have y3 : ((pos : Int) + (i : Int)).toNat = pos + i := by omega
          clear hset
          go_wp2
          go_roundg (bs.length - (i + 1))
          case measure => have := HIK.out; have := HLT.out; omega
          case rel =>
            have hb6 : Below (w.heap.size + 3) wr (wr.setCell ⟨bq, oq + (pos + i), none⟩ (.int .u8 (xb.toNat : Int))) := (Below.refl _ _).setCell (p := ⟨bq, oq + (pos + i), none⟩) ((OB.lt O6.out bq rfl).1) _
            refine ⟨i + 1, some ⟨bq, oq, none⟩, c6, B6.set (pos + i) xb, by have := HLT.out; omega, by go_num, by rw [List.length_set], by rw [List.length_set]; exact C6.out.1, C6.out.2, by rw [List.length_set]; exact HSet.out, D6.out.next hb6, BB6.out.trans hb6, ?_⟩
            rw [HXB.out]
            exact HH.out.next G6.out HFin.out
    · obtain rfl : i = bs.length := by have := HIK.out; omega
      clear hlt
      go_wp2_with fail

      go_loopg [5] (pos - BX.length) (fun gk s5 wr => ∃ (A6 : Option Addr) (c6 : Nat) (B6 : List UInt8), s5 = .slice A6 B6.length c6 ∧ B6.length ≤ c6 ∧ c6 ≤ maxLen ∧ OB wr (w.heap.size + 3) (.slice A6 B6.length c6) B6 ∧ DoneW w wr #[.slice A0 f0.length k0, .slice A1 f1.length k1, .slice A2 f2.length k2] #[.int .i64 0, .int .i64 (pos : Int), .slice A bs.length k, .bool false] ∧ Below (w.heap.size + 3) wz wr ∧ (∀ j, B6.getD j 0 = BX.getD j 0) ∧ pos - B6.length = gk ∧ B6.length = max BX.length (min B6.length (pos)))
      case atStart => exact ⟨AX, cX, BX, rfl, HXC.out.1, HXC.out.2, OX.out, DX.out, BX0.out, fun _ => rfl, rfl, by omega⟩
      case round =>
        obtain ⟨A6, c6, B6, rfl, h6, h6', ho6, hd6, hb6, hg6, hk6, hm6⟩ := hrel
        have O6 := Lib.hid ho6
        have D6 := Lib.hid hd6
        have BB6 := Lib.hid hb6
        have G6 := Lib.hid hg6
        have K6 := Lib.hid hk6
        have M6 := Lib.hid hm6
        have C6 := Lib.hid (And.intro h6 h6')
        have e0 : wr.cell? ⟨w.heap.size + 1, 0, none⟩ = some (.int .i64 0) := cell_of_row _ _ 0 _ _ _ hd6.c
        have e1 : wr.cell? ⟨w.heap.size + 1, 1, none⟩ = some (.int .i64 (pos : Int)) := cell_of_row _ _ 1 _ _ _ hd6.c
        have e2 : wr.cell? ⟨w.heap.size + 1, 2, none⟩ = some (.slice A bs.length k) := cell_of_row _ _ 2 _ _ _ hd6.c
        have l6 : B6.length ≤ 1048576 := by have := HPB.out; have := HLM.out; have := HXL.out; omega
        clear ho6 hd6 hb6 hg6 hk6 hm6 h6 h6'
        by_cases hpad : B6.length < pos
        · have qa : decide ((B6.length : Int) < (pos : Int)) = true := decide_eq_true (by omega)
          have qb : decide (B6.length < pos) = true := decide_eq_true (by omega)
          have HPAD := Lib.hid hpad
          clear hpad
          go_wp2_with (first
            | (at_builtin; go_loud (refine wpList_append_b rfl (.tmp 56) (.tmp 57) 28 (by rfl) (O6.out.alloc _) (by rfl) (Src.lit wr _ [0] rfl 1 1 rfl) (by rfl) (by simp; omega) (by have := D6.out.size; simp; omega) ?_; intro v7 w7 hown7 hgr7 hat7; obtain ⟨A7, c7, e7, h7, h7', -⟩ := hown7.form; rw [List.length_append, List.length_singleton] at e7 h7; subst e7; have O7 := Lib.hid hown7; have C7 := Lib.hid (And.intro h7 h7'); have B7 : Hid (Below (w.heap.size + 3) wr w7) := Lib.hid (((Below.refl (w.heap.size + 3) wr).alloc (by have := D6.out.size; omega) _).grown hgr7 (by have := D6.out.size; simp; omega) fun q hq => (OB.lt O6.out q hq).1); clear hown7 hgr7 hat7 h7 h7'))
            | fail)
          go_roundg (gk - 1)
          case measure => have := K6.out; have := HPAD.out; omega
          case rel =>
            have hlen : (B6 ++ [0]).length = B6.length + 1 := by simp
            refine ⟨A7, c7, B6 ++ [0], by rw [hlen], by rw [hlen]; exact C7.out.1, C7.out.2, by rw [hlen]; exact O7.out, D6.out.next B7.out, BB6.out.trans B7.out, fun j => (snoc0_getD B6 j).trans (G6.out j), ?_, ?_⟩
            · rw [hlen]; have := K6.out; have := HPAD.out; omega
            · rw [hlen]; have := M6.out; have := HPAD.out; omega
        · have qa : decide ((B6.length : Int) < (pos : Int)) = false := decide_eq_false (by omega)
          have qb : decide (B6.length < pos) = false := decide_eq_false (by omega)
          have hfin : B6.length = max BX.length (pos) := by have := M6.out; omega
          have HFin := Lib.hid hfin
          have lge : pos ≤ B6.length := by omega
          clear hpad hfin
          have HDn : Hid (B6 = doB f0 ⟨0, pos, bs, false⟩) := Lib.hid (HH.out.done G6.out HFin.out)
          have u0 : wr.cell? ⟨w.heap.size, 0, none⟩ = some (.slice A0 f0.length k0) := cell_of_row _ _ 0 _ _ _ D6.out.a
          have u1 : wr.cell? ⟨w.heap.size, 1, none⟩ = some (.slice A1 f1.length k1) := cell_of_row _ _ 1 _ _ _ D6.out.a
          have u2 : wr.cell? ⟨w.heap.size, 2, none⟩ = some (.slice A2 f2.length k2) := cell_of_row _ _ 2 _ _ _ D6.out.a
          have fu : wr.frozen? ⟨w.heap.size, 0, none⟩ = false := frozen_of_row _ _ _ _ _ D6.out.a
          have r0 : wr.cell? ⟨w.heap.size + 1 + 1, 0, none⟩ = some (.slice none 0 0) := cell_of_row _ _ 0 _ _ _ D6.out.r
          have fr0 : wr.frozen? ⟨w.heap.size + 1 + 1, 0, none⟩ = false := frozen_of_row _ _ _ _ _ D6.out.r
          have r1 : wr.cell? ⟨w.heap.size + 1 + 1, 1, none⟩ = some (.slice none 0 0) := cell_of_row _ _ 1 _ _ _ D6.out.r
          have fr1 : wr.frozen? ⟨w.heap.size + 1 + 1, 1, none⟩ = false := frozen_of_row _ _ _ _ _ D6.out.r
          have r2 : wr.cell? ⟨w.heap.size + 1 + 1, 2, none⟩ = some (.slice none 0 0) := cell_of_row _ _ 2 _ _ _ D6.out.r
          have fr2 : wr.frozen? ⟨w.heap.size + 1 + 1, 2, none⟩ = false := frozen_of_row _ _ _ _ _ D6.out.r
          go_wp2
          have HE := done_end (x0 := (.slice A6 B6.length c6)) (x1 := (.slice A1 f1.length k1)) (x2 := (.slice A2 f2.length k2)) (i := 0) (by decide) D6.out O6.out
          refine bodyPost_ret (results_cell_row rfl _ _ (w.heap.size + 1 + 1) 29 #[(.slice A6 B6.length c6), (.slice A1 f1.length k1), (.slice A2 f2.length k2)] (0, 0) _ rfl HE.2.2 Tryd.underlying29 rfl info_arr3) rfl ⟨A6, c6, ?_, ?_, HE.2.1⟩
          · rw [← HDn.out]
          · rw [← HDn.out]; exact HE.1

set_option maxHeartbeats 4000000 in
set_option maxRecDepth 100000 in
theorem Done_cut1 (A0 A1 A2 : Option Addr) (k0 k1 k2 : Nat) (f0 f1 f2 : List UInt8) (pos : Nat) (bs : List UInt8) (A : Option Addr) (k : Nat) (w : World) (hf : RB w A1 f1.length f1) (hl : f1.length ≤ 1048576) (hc : RB w A bs.length bs) (_hp : pos + bs.length ≤ 1048576) :
    Calls Tryd.prog 50 #[.agg #[.slice A0 f0.length k0, .slice A1 f1.length k1, .slice A2 f2.length k2], .agg #[.int .i64 1, .int .i64 (pos : Int), .slice A bs.length k, .bool true]] w fun e w' => ∃ A' k', e = .returned (.agg #[.slice A0 f0.length k0, .slice A' (doB f1 ⟨1, pos, bs, true⟩).length k', .slice A2 f2.length k2]) ∧ OB w' w.heap.size (.slice A' (doB f1 ⟨1, pos, bs, true⟩).length k') (doB f1 ⟨1, pos, bs, true⟩) ∧ Below w.heap.size w w' := by
  obtain ⟨z0, z1, z2, z3, z4, z5⟩ := four_allocs w (.cells #[.slice A0 f0.length k0, .slice A1 f1.length k1, .slice A2 f2.length k2] 29) (.cells #[.int .i64 1, .int .i64 (pos : Int), .slice A bs.length k, .bool true] 70) (.cells #[.slice none 0 0, .slice none 0 0, .slice none 0 0] 29) (.cells #[] 5)
  obtain ⟨wz, hwz⟩ : ∃ W, W = (((w.alloc (.cells #[.slice A0 f0.length k0, .slice A1 f1.length k1, .slice A2 f2.length k2] 29)).alloc (.cells #[.int .i64 1, .int .i64 (pos : Int), .slice A bs.length k, .bool true] 70)).alloc (.cells #[.slice none 0 0, .slice none 0 0, .slice none 0 0] 29)).alloc (.cells #[] 5) := ⟨_, rfl⟩
  rw [← hwz] at z0 z1 z2 z3 z4 z5
  have HWZ := Lib.hid hwz
  have HSZ := Lib.hid z4
  have DW0 : Hid (DoneW w wz #[.slice A0 f0.length k0, .slice A1 f1.length k1, .slice A2 f2.length k2] #[.int .i64 1, .int .i64 (pos : Int), .slice A bs.length k, .bool true]) := Lib.hid ⟨z0, z1, z2, z5, Nat.le_of_eq z4.symm⟩
  have Z3 := Lib.hid z3
  have HF := Lib.hid (hf.keep (Keeps.of_below z5))
  have HCW := Lib.hid hc
  have p0 : (0 : Int) ≤ (pos : Int) := by omega
  by_cases hlt : pos < f1.length
  · have q1 : decide ((pos : Int) < (f1.length : Int)) = true := decide_eq_true (by omega)
    have q1n : decide (pos < f1.length) = true := decide_eq_true hlt
    have q2 : (pos : Int) ≤ (f1.length : Int) := by omega
    have HEq : Hid (doB f1 ⟨1, pos, bs, true⟩ = f1.take pos) := Lib.hid rfl
    have HTl : Hid ((f1.take pos).length = pos) := Lib.hid (by rw [List.length_take]; omega)
    have HLt := Lib.hid hlt
    clear hlt
    clear hwz z0 z1 z2 z3 z4 z5 hf hc
    go_enter Tryd.func50, Tryd.ntmps50
    go_wp2_with (first
      | (at_builtin; go_loud (rw [← HWZ.out]; refine wpList_append_b rfl (.tmp 8) (.tmp 12) 28 (by rfl) (own_emptyB (q := w.heap.size + 3) (base := w.heap.size + 3) Z3.out (Nat.le_refl _)) (by rfl) (HF.out.src Tryd.underlying28 (c := k1)) (by rfl) (by simp; omega) (by have := HSZ.out; omega) ?_; intro v5 w5 hown5 hgr5 hat5; rw [List.nil_append] at hown5; obtain ⟨A5, c5, rfl, h5, h5', -⟩ := hown5.form; have O5 := Lib.hid hown5; have B5 : Hid (Below (w.heap.size + 3) wz w5) := Lib.hid (Fr.below (Fr.of_grown hgr5) (by have := HSZ.out; omega) (fun i _ e => Nat.le_of_eq (Option.some.inj (show some i = some (w.heap.size + 3) from e)).symm)); have DW5 := Lib.hid (DW0.out.next B5.out); have d0 : w5.cell? ⟨w.heap.size + 1, 0, none⟩ = some (.int .i64 1) := cell_of_row _ _ 0 _ _ _ DW5.out.c; have d1 : w5.cell? ⟨w.heap.size + 1, 1, none⟩ = some (.int .i64 (pos : Int)) := cell_of_row _ _ 1 _ _ _ DW5.out.c; have d2 : w5.cell? ⟨w.heap.size + 1, 2, none⟩ = some (.slice A bs.length k) := cell_of_row _ _ 2 _ _ _ DW5.out.c; have d3 : w5.cell? ⟨w.heap.size + 1, 3, none⟩ = some (.bool true) := cell_of_row _ _ 3 _ _ _ DW5.out.c; have u0 : w5.cell? ⟨w.heap.size, 0, none⟩ = some (.slice A0 f0.length k0) := cell_of_row _ _ 0 _ _ _ DW5.out.a; have u1 : w5.cell? ⟨w.heap.size, 1, none⟩ = some (.slice A1 f1.length k1) := cell_of_row _ _ 1 _ _ _ DW5.out.a; have u2 : w5.cell? ⟨w.heap.size, 2, none⟩ = some (.slice A2 f2.length k2) := cell_of_row _ _ 2 _ _ _ DW5.out.a; have fu : w5.frozen? ⟨w.heap.size, 1, none⟩ = false := frozen_of_row _ _ _ _ _ DW5.out.a; have r0 : w5.cell? ⟨w.heap.size + 1 + 1, 0, none⟩ = some (.slice none 0 0) := cell_of_row _ _ 0 _ _ _ DW5.out.r; have fr0 : w5.frozen? ⟨w.heap.size + 1 + 1, 0, none⟩ = false := frozen_of_row _ _ _ _ _ DW5.out.r; have r1 : w5.cell? ⟨w.heap.size + 1 + 1, 1, none⟩ = some (.slice none 0 0) := cell_of_row _ _ 1 _ _ _ DW5.out.r; have fr1 : w5.frozen? ⟨w.heap.size + 1 + 1, 1, none⟩ = false := frozen_of_row _ _ _ _ _ DW5.out.r; have r2 : w5.cell? ⟨w.heap.size + 1 + 1, 2, none⟩ = some (.slice none 0 0) := cell_of_row _ _ 2 _ _ _ DW5.out.r; have fr2 : w5.frozen? ⟨w.heap.size + 1 + 1, 2, none⟩ = false := frozen_of_row _ _ _ _ _ DW5.out.r;  clear hown5 hgr5 hat5))
      | fail)
    have l5 : (f1.length : Int) ≤ (c5 : Int) := by omega
    go_wp2
    have HE := done_end (x0 := (.slice A0 f0.length k0)) (x1 := (.slice A5 pos c5)) (x2 := (.slice A2 f2.length k2)) (i := 1) (by decide) DW5.out (by have h := O5.out.cutTo pos (by have := HLt.out; omega); exact h)
    refine bodyPost_ret (results_cell_row rfl _ _ (w.heap.size + 1 + 1) 29 #[(.slice A0 f0.length k0), (.slice A5 pos c5), (.slice A2 f2.length k2)] (0, 0) _ rfl HE.2.2 Tryd.underlying29 rfl info_arr3) rfl ⟨A5, c5, ?_, ?_, HE.2.1⟩
    · rw [HEq.out, HTl.out]
    · rw [HEq.out, HTl.out]; exact HE.1
  · have q1 : decide ((pos : Int) < (f1.length : Int)) = false := decide_eq_false (by omega)
    have q1n : decide (pos < f1.length) = false := decide_eq_false hlt
    have HEq : Hid (doB f1 ⟨1, pos, bs, true⟩ = f1) := Lib.hid (by show f1.take pos = _; exact List.take_of_length_le (by omega))
    clear hlt
    clear hwz z0 z1 z2 z3 z4 z5 hf hc
    go_enter Tryd.func50, Tryd.ntmps50
    go_wp2_with (first
      | (at_builtin; go_loud (rw [← HWZ.out]; refine wpList_append_b rfl (.tmp 8) (.tmp 12) 28 (by rfl) (own_emptyB (q := w.heap.size + 3) (base := w.heap.size + 3) Z3.out (Nat.le_refl _)) (by rfl) (HF.out.src Tryd.underlying28 (c := k1)) (by rfl) (by simp; omega) (by have := HSZ.out; omega) ?_; intro v5 w5 hown5 hgr5 hat5; rw [List.nil_append] at hown5; obtain ⟨A5, c5, rfl, h5, h5', -⟩ := hown5.form; have O5 := Lib.hid hown5; have B5 : Hid (Below (w.heap.size + 3) wz w5) := Lib.hid (Fr.below (Fr.of_grown hgr5) (by have := HSZ.out; omega) (fun i _ e => Nat.le_of_eq (Option.some.inj (show some i = some (w.heap.size + 3) from e)).symm)); have DW5 := Lib.hid (DW0.out.next B5.out); have d0 : w5.cell? ⟨w.heap.size + 1, 0, none⟩ = some (.int .i64 1) := cell_of_row _ _ 0 _ _ _ DW5.out.c; have d1 : w5.cell? ⟨w.heap.size + 1, 1, none⟩ = some (.int .i64 (pos : Int)) := cell_of_row _ _ 1 _ _ _ DW5.out.c; have d2 : w5.cell? ⟨w.heap.size + 1, 2, none⟩ = some (.slice A bs.length k) := cell_of_row _ _ 2 _ _ _ DW5.out.c; have d3 : w5.cell? ⟨w.heap.size + 1, 3, none⟩ = some (.bool true) := cell_of_row _ _ 3 _ _ _ DW5.out.c; have u0 : w5.cell? ⟨w.heap.size, 0, none⟩ = some (.slice A0 f0.length k0) := cell_of_row _ _ 0 _ _ _ DW5.out.a; have u1 : w5.cell? ⟨w.heap.size, 1, none⟩ = some (.slice A1 f1.length k1) := cell_of_row _ _ 1 _ _ _ DW5.out.a; have u2 : w5.cell? ⟨w.heap.size, 2, none⟩ = some (.slice A2 f2.length k2) := cell_of_row _ _ 2 _ _ _ DW5.out.a; have fu : w5.frozen? ⟨w.heap.size, 1, none⟩ = false := frozen_of_row _ _ _ _ _ DW5.out.a; have r0 : w5.cell? ⟨w.heap.size + 1 + 1, 0, none⟩ = some (.slice none 0 0) := cell_of_row _ _ 0 _ _ _ DW5.out.r; have fr0 : w5.frozen? ⟨w.heap.size + 1 + 1, 0, none⟩ = false := frozen_of_row _ _ _ _ _ DW5.out.r; have r1 : w5.cell? ⟨w.heap.size + 1 + 1, 1, none⟩ = some (.slice none 0 0) := cell_of_row _ _ 1 _ _ _ DW5.out.r; have fr1 : w5.frozen? ⟨w.heap.size + 1 + 1, 1, none⟩ = false := frozen_of_row _ _ _ _ _ DW5.out.r; have r2 : w5.cell? ⟨w.heap.size + 1 + 1, 2, none⟩ = some (.slice none 0 0) := cell_of_row _ _ 2 _ _ _ DW5.out.r; have fr2 : w5.frozen? ⟨w.heap.size + 1 + 1, 2, none⟩ = false := frozen_of_row _ _ _ _ _ DW5.out.r;  clear hown5 hgr5 hat5))
      | fail)
    go_wp2
    have HE := done_end (x0 := (.slice A0 f0.length k0)) (x1 := (.slice A5 f1.length c5)) (x2 := (.slice A2 f2.length k2)) (i := 1) (by decide) DW5.out O5.out
    refine bodyPost_ret (results_cell_row rfl _ _ (w.heap.size + 1 + 1) 29 #[(.slice A0 f0.length k0), (.slice A5 f1.length c5), (.slice A2 f2.length k2)] (0, 0) _ rfl HE.2.2 Tryd.underlying29 rfl info_arr3) rfl ⟨A5, c5, ?_, ?_, HE.2.1⟩
    · rw [HEq.out]
    · rw [HEq.out]; exact HE.1

set_option maxHeartbeats 4000000 in
set_option maxRecDepth 100000 in
theorem Done_wr1 (A0 A1 A2 : Option Addr) (k0 k1 k2 : Nat) (f0 f1 f2 : List UInt8) (pos : Nat) (bs : List UInt8) (A : Option Addr) (k : Nat) (w : World) (hf : RB w A1 f1.length f1) (hl : f1.length ≤ 1048576) (hc : RB w A bs.length bs) (hp : pos + bs.length ≤ 1048576) :
    Calls Tryd.prog 50 #[.agg #[.slice A0 f0.length k0, .slice A1 f1.length k1, .slice A2 f2.length k2], .agg #[.int .i64 1, .int .i64 (pos : Int), .slice A bs.length k, .bool false]] w fun e w' => ∃ A' k', e = .returned (.agg #[.slice A0 f0.length k0, .slice A' (doB f1 ⟨1, pos, bs, false⟩).length k', .slice A2 f2.length k2]) ∧ OB w' w.heap.size (.slice A' (doB f1 ⟨1, pos, bs, false⟩).length k') (doB f1 ⟨1, pos, bs, false⟩) ∧ Below w.heap.size w w' := by
  obtain ⟨z0, z1, z2, z3, z4, z5⟩ := four_allocs w (.cells #[.slice A0 f0.length k0, .slice A1 f1.length k1, .slice A2 f2.length k2] 29) (.cells #[.int .i64 1, .int .i64 (pos : Int), .slice A bs.length k, .bool false] 70) (.cells #[.slice none 0 0, .slice none 0 0, .slice none 0 0] 29) (.cells #[] 5)
  obtain ⟨wz, hwz⟩ : ∃ W, W = (((w.alloc (.cells #[.slice A0 f0.length k0, .slice A1 f1.length k1, .slice A2 f2.length k2] 29)).alloc (.cells #[.int .i64 1, .int .i64 (pos : Int), .slice A bs.length k, .bool false] 70)).alloc (.cells #[.slice none 0 0, .slice none 0 0, .slice none 0 0] 29)).alloc (.cells #[] 5) := ⟨_, rfl⟩
  rw [← hwz] at z0 z1 z2 z3 z4 z5
  have HWZ := Lib.hid hwz
  have HSZ := Lib.hid z4
  have DW0 : Hid (DoneW w wz #[.slice A0 f0.length k0, .slice A1 f1.length k1, .slice A2 f2.length k2] #[.int .i64 1, .int .i64 (pos : Int), .slice A bs.length k, .bool false]) := Lib.hid ⟨z0, z1, z2, z5, Nat.le_of_eq z4.symm⟩
  have Z3 := Lib.hid z3
  have HF := Lib.hid (hf.keep (Keeps.of_below z5))
  have HCW := Lib.hid hc
  have p0 : (0 : Int) ≤ (pos : Int) := by omega
  have pm : (pos : Int) ≤ 1048576 := by omega
  have bm : (bs.length : Int) ≤ 1048576 := by omega
  have HPB := Lib.hid hp
  have HLM := Lib.hid hl
  clear hwz z0 z1 z2 z3 z4 z5 hf hc
  go_enter Tryd.func50, Tryd.ntmps50
  go_wp2_with (first
    | (at_builtin; go_loud (rw [← HWZ.out]; refine wpList_append_b rfl (.tmp 8) (.tmp 12) 28 (by rfl) (own_emptyB (q := w.heap.size + 3) (base := w.heap.size + 3) Z3.out (Nat.le_refl _)) (by rfl) (HF.out.src Tryd.underlying28 (c := k1)) (by rfl) (by simp; omega) (by have := HSZ.out; omega) ?_; intro v5 w5 hown5 hgr5 hat5; rw [List.nil_append] at hown5; obtain ⟨A5, c5, rfl, h5, h5', -⟩ := hown5.form; have O5 := Lib.hid hown5; have B5 : Hid (Below (w.heap.size + 3) wz w5) := Lib.hid (Fr.below (Fr.of_grown hgr5) (by have := HSZ.out; omega) (fun i _ e => Nat.le_of_eq (Option.some.inj (show some i = some (w.heap.size + 3) from e)).symm)); have DW5 := Lib.hid (DW0.out.next B5.out); have d0 : w5.cell? ⟨w.heap.size + 1, 0, none⟩ = some (.int .i64 1) := cell_of_row _ _ 0 _ _ _ DW5.out.c; have d1 : w5.cell? ⟨w.heap.size + 1, 1, none⟩ = some (.int .i64 (pos : Int)) := cell_of_row _ _ 1 _ _ _ DW5.out.c; have d2 : w5.cell? ⟨w.heap.size + 1, 2, none⟩ = some (.slice A bs.length k) := cell_of_row _ _ 2 _ _ _ DW5.out.c; have d3 : w5.cell? ⟨w.heap.size + 1, 3, none⟩ = some (.bool false) := cell_of_row _ _ 3 _ _ _ DW5.out.c;  clear hown5 hgr5 hat5))
    | fail)
  go_loopg [5, 28] bs.length (fun gk s5 s28 wr => ∃ (i : Nat) (AX : Option Addr) (cX : Nat) (BX : List UInt8), i + gk = bs.length ∧ s28 = .int .i64 (i : Int) ∧ s5 = .slice AX BX.length cX ∧ BX.length ≤ cX ∧ cX ≤ maxLen ∧ OB wr (w.heap.size + 3) (.slice AX BX.length cX) BX ∧ DoneW w wr #[.slice A0 f0.length k0, .slice A1 f1.length k1, .slice A2 f2.length k2] #[.int .i64 1, .int .i64 (pos : Int), .slice A bs.length k, .bool false] ∧ Below (w.heap.size + 3) wz wr ∧ Half f1 pos bs i BX)
  case atStart => exact ⟨0, A5, c5, f1, by omega, rfl, rfl, h5, h5', O5.out, DW5.out, B5.out, Half.zero _ _ _⟩
  case round =>
    obtain ⟨i, AX, cX, BX, hik, rfl, rfl, hx1, hx2, hox, hdx, hbx, hhx⟩ := hrel
    have OX := Lib.hid hox
    have DX := Lib.hid hdx
    have BX0 := Lib.hid hbx
    have HH := Lib.hid hhx
    have HIK := Lib.hid hik
    have HXC := Lib.hid (And.intro hx1 hx2)
    have HXL : Hid (BX.length ≤ 1048576) := Lib.hid (by rw [hhx.1]; have := HPB.out; have := HLM.out; split <;> omega)
    have x0 : wr.cell? ⟨w.heap.size + 1, 0, none⟩ = some (.int .i64 1) := cell_of_row _ _ 0 _ _ _ hdx.c
    have x1 : wr.cell? ⟨w.heap.size + 1, 1, none⟩ = some (.int .i64 (pos : Int)) := cell_of_row _ _ 1 _ _ _ hdx.c
    have x2 : wr.cell? ⟨w.heap.size + 1, 2, none⟩ = some (.slice A bs.length k) := cell_of_row _ _ 2 _ _ _ hdx.c
    clear hox hdx hbx hhx hik hx1 hx2
    by_cases hlt : i < bs.length
    · have i0 : (0 : Int) ≤ (i : Int) := by omega
      have i1 : (i : Int) < (bs.length : Int) := by omega
      have i2 : (pos : Int) + (i : Int) ≤ 1048576 := by omega
      have HLT := Lib.hid hlt
      obtain ⟨bb, ob, rfl, hcell⟩ := HCW.out.2 (by omega)
      have hbw : bb < w.heap.size + 3 := Nat.lt_of_lt_of_le (World.block_lt_of_cell? w _ (hcell i hlt)) (by omega)
      have cb := Keeps.of_below DW0.out.bel _ _ (hcell i hlt)
      have cbr : wr.cell? ⟨bb, ob + i, none⟩ = some (.int .u8 ((bs.getD i 0).toNat : Int)) := (BX0.out.cell (p := ⟨bb, ob + i, none⟩) hbw).trans cb
      obtain ⟨xb, hxb⟩ : ∃ x, x = bs.getD i 0 := ⟨_, rfl⟩
      have HXB := Lib.hid hxb
      rw [← hxb] at cbr
      clear hlt hcell cb hxb
      go_wp2_with fail

      go_loopg [5] (pos + i + 1 - BX.length) (fun gk s5 wr => ∃ (A6 : Option Addr) (c6 : Nat) (B6 : List UInt8), s5 = .slice A6 B6.length c6 ∧ B6.length ≤ c6 ∧ c6 ≤ maxLen ∧ OB wr (w.heap.size + 3) (.slice A6 B6.length c6) B6 ∧ DoneW w wr #[.slice A0 f0.length k0, .slice A1 f1.length k1, .slice A2 f2.length k2] #[.int .i64 1, .int .i64 (pos : Int), .slice (some ⟨bb, ob, none⟩) bs.length k, .bool false] ∧ Below (w.heap.size + 3) wz wr ∧ (∀ j, B6.getD j 0 = BX.getD j 0) ∧ pos + i + 1 - B6.length = gk ∧ B6.length = max BX.length (min B6.length (pos + i + 1)))
      case atStart => exact ⟨AX, cX, BX, rfl, HXC.out.1, HXC.out.2, OX.out, DX.out, BX0.out, fun _ => rfl, rfl, by omega⟩
      case round =>
        obtain ⟨A6, c6, B6, rfl, h6, h6', ho6, hd6, hb6, hg6, hk6, hm6⟩ := hrel
        have O6 := Lib.hid ho6
        have D6 := Lib.hid hd6
        have BB6 := Lib.hid hb6
        have G6 := Lib.hid hg6
        have K6 := Lib.hid hk6
        have M6 := Lib.hid hm6
        have C6 := Lib.hid (And.intro h6 h6')
        have e0 : wr.cell? ⟨w.heap.size + 1, 0, none⟩ = some (.int .i64 1) := cell_of_row _ _ 0 _ _ _ hd6.c
        have e1 : wr.cell? ⟨w.heap.size + 1, 1, none⟩ = some (.int .i64 (pos : Int)) := cell_of_row _ _ 1 _ _ _ hd6.c
        have e2 : wr.cell? ⟨w.heap.size + 1, 2, none⟩ = some (.slice (some ⟨bb, ob, none⟩) bs.length k) := cell_of_row _ _ 2 _ _ _ hd6.c
        have l6 : B6.length ≤ 1048576 := by have := HPB.out; have := HLM.out; have := HXL.out; omega
        clear ho6 hd6 hb6 hg6 hk6 hm6 h6 h6'
        by_cases hpad : B6.length < pos + i + 1
        · have qa : decide ((B6.length : Int) ≤ (pos : Int) + (i : Int)) = true := decide_eq_true (by omega)
          have qb : decide (B6.length ≤ pos + i) = true := decide_eq_true (by omega)
          have HPAD := Lib.hid hpad
          clear hpad
          go_wp2_with (first
            | (at_builtin; go_loud (refine wpList_append_b rfl (.tmp 40) (.tmp 41) 28 (by rfl) (O6.out.alloc _) (by rfl) (Src.lit wr _ [0] rfl 1 1 rfl) (by rfl) (by simp; omega) (by have := D6.out.size; simp; omega) ?_; intro v7 w7 hown7 hgr7 hat7; obtain ⟨A7, c7, e7, h7, h7', -⟩ := hown7.form; rw [List.length_append, List.length_singleton] at e7 h7; subst e7; have O7 := Lib.hid hown7; have C7 := Lib.hid (And.intro h7 h7'); have B7 : Hid (Below (w.heap.size + 3) wr w7) := Lib.hid (((Below.refl (w.heap.size + 3) wr).alloc (by have := D6.out.size; omega) _).grown hgr7 (by have := D6.out.size; simp; omega) fun q hq => (OB.lt O6.out q hq).1); clear hown7 hgr7 hat7 h7 h7'))
            | fail)
          go_roundg (gk - 1)
          case measure => have := K6.out; have := HPAD.out; omega
          case rel =>
            have hlen : (B6 ++ [0]).length = B6.length + 1 := by simp
            refine ⟨A7, c7, B6 ++ [0], by rw [hlen], by rw [hlen]; exact C7.out.1, C7.out.2, by rw [hlen]; exact O7.out, D6.out.next B7.out, BB6.out.trans B7.out, fun j => (snoc0_getD B6 j).trans (G6.out j), ?_, ?_⟩
            · rw [hlen]; have := K6.out; have := HPAD.out; omega
            · rw [hlen]; have := M6.out; have := HPAD.out; omega
        · have qa : decide ((B6.length : Int) ≤ (pos : Int) + (i : Int)) = false := decide_eq_false (by omega)
          have qb : decide (B6.length ≤ pos + i) = false := decide_eq_false (by omega)
          have hfin : B6.length = max BX.length (pos + i + 1) := by have := M6.out; omega
          have HFin := Lib.hid hfin
          have lge : pos + i + 1 ≤ B6.length := by omega
          clear hpad hfin
          obtain ⟨bq, oq, eA6⟩ : ∃ b o, A6 = some ⟨b, o, none⟩ := by
            obtain ⟨b', o', e', _⟩ := (RB.of_ownS O6.out).2 (by omega)
            exact ⟨b', o', e'⟩
          subst eA6
          have hcl : wr.cell? ⟨bq, oq + (pos + i), none⟩ = some (.int .u8 ((B6.getD (pos + i) 0).toNat : Int)) := by
            obtain ⟨b', o', e', hc'⟩ := (RB.of_ownS O6.out).2 (by omega)
            injection e' with e'
            injection e' with e1' e2'
            subst e1'; subst e2'
            exact hc' (pos + i) (by omega)
          obtain ⟨hfz, hset⟩ := OB.setB xb O6.out rfl (show pos + i < B6.length by omega)
          have HSet := Lib.hid hset
          have y1 : (pos : Int) + (i : Int) < (B6.length : Int) := by omega
          have y2 : pos + i < B6.length := by omega
          have y3 : ((pos : Int) + (i : Int)).toNat = pos + i := by omega
          clear hset
          go_wp2
          go_roundg (bs.length - (i + 1))
          case measure => have := HIK.out; have := HLT.out; omega
          case rel =>
            have hb6 : Below (w.heap.size + 3) wr (wr.setCell ⟨bq, oq + (pos + i), none⟩ (.int .u8 (xb.toNat : Int))) := (Below.refl _ _).setCell (p := ⟨bq, oq + (pos + i), none⟩) ((OB.lt O6.out bq rfl).1) _
            refine ⟨i + 1, some ⟨bq, oq, none⟩, c6, B6.set (pos + i) xb, by have := HLT.out; omega, by go_num, by rw [List.length_set], by rw [List.length_set]; exact C6.out.1, C6.out.2, by rw [List.length_set]; exact HSet.out, D6.out.next hb6, BB6.out.trans hb6, ?_⟩
            rw [HXB.out]
            exact HH.out.next G6.out HFin.out
    · obtain rfl : i = bs.length := by have := HIK.out; omega
      clear hlt
      go_wp2_with fail

      go_loopg [5] (pos - BX.length) (fun gk s5 wr => ∃ (A6 : Option Addr) (c6 : Nat) (B6 : List UInt8), s5 = .slice A6 B6.length c6 ∧ B6.length ≤ c6 ∧ c6 ≤ maxLen ∧ OB wr (w.heap.size + 3) (.slice A6 B6.length c6) B6 ∧ DoneW w wr #[.slice A0 f0.length k0, .slice A1 f1.length k1, .slice A2 f2.length k2] #[.int .i64 1, .int .i64 (pos : Int), .slice A bs.length k, .bool false] ∧ Below (w.heap.size + 3) wz wr ∧ (∀ j, B6.getD j 0 = BX.getD j 0) ∧ pos - B6.length = gk ∧ B6.length = max BX.length (min B6.length (pos)))
      case atStart => exact ⟨AX, cX, BX, rfl, HXC.out.1, HXC.out.2, OX.out, DX.out, BX0.out, fun _ => rfl, rfl, by omega⟩
      case round =>
        obtain ⟨A6, c6, B6, rfl, h6, h6', ho6, hd6, hb6, hg6, hk6, hm6⟩ := hrel
        have O6 := Lib.hid ho6
        have D6 := Lib.hid hd6
        have BB6 := Lib.hid hb6
        have G6 := Lib.hid hg6
        have K6 := Lib.hid hk6
        have M6 := Lib.hid hm6
        have C6 := Lib.hid (And.intro h6 h6')
        have e0 : wr.cell? ⟨w.heap.size + 1, 0, none⟩ = some (.int .i64 1) := cell_of_row _ _ 0 _ _ _ hd6.c
        have e1 : wr.cell? ⟨w.heap.size + 1, 1, none⟩ = some (.int .i64 (pos : Int)) := cell_of_row _ _ 1 _ _ _ hd6.c
        have e2 : wr.cell? ⟨w.heap.size + 1, 2, none⟩ = some (.slice A bs.length k) := cell_of_row _ _ 2 _ _ _ hd6.c
        have l6 : B6.length ≤ 1048576 := by have := HPB.out; have := HLM.out; have := HXL.out; omega
        clear ho6 hd6 hb6 hg6 hk6 hm6 h6 h6'
        by_cases hpad : B6.length < pos
        · have qa : decide ((B6.length : Int) < (pos : Int)) = true := decide_eq_true (by omega)
          have qb : decide (B6.length < pos) = true := decide_eq_true (by omega)
          have HPAD := Lib.hid hpad
          clear hpad
          go_wp2_with (first
            | (at_builtin; go_loud (refine wpList_append_b rfl (.tmp 56) (.tmp 57) 28 (by rfl) (O6.out.alloc _) (by rfl) (Src.lit wr _ [0] rfl 1 1 rfl) (by rfl) (by simp; omega) (by have := D6.out.size; simp; omega) ?_; intro v7 w7 hown7 hgr7 hat7; obtain ⟨A7, c7, e7, h7, h7', -⟩ := hown7.form; rw [List.length_append, List.length_singleton] at e7 h7; subst e7; have O7 := Lib.hid hown7; have C7 := Lib.hid (And.intro h7 h7'); have B7 : Hid (Below (w.heap.size + 3) wr w7) := Lib.hid (((Below.refl (w.heap.size + 3) wr).alloc (by have := D6.out.size; omega) _).grown hgr7 (by have := D6.out.size; simp; omega) fun q hq => (OB.lt O6.out q hq).1); clear hown7 hgr7 hat7 h7 h7'))
            | fail)
          go_roundg (gk - 1)
          case measure => have := K6.out; have := HPAD.out; omega
          case rel =>
            have hlen : (B6 ++ [0]).length = B6.length + 1 := by simp
            refine ⟨A7, c7, B6 ++ [0], by rw [hlen], by rw [hlen]; exact C7.out.1, C7.out.2, by rw [hlen]; exact O7.out, D6.out.next B7.out, BB6.out.trans B7.out, fun j => (snoc0_getD B6 j).trans (G6.out j), ?_, ?_⟩
            · rw [hlen]; have := K6.out; have := HPAD.out; omega
            · rw [hlen]; have := M6.out; have := HPAD.out; omega
        · have qa : decide ((B6.length : Int) < (pos : Int)) = false := decide_eq_false (by omega)
          have qb : decide (B6.length < pos) = false := decide_eq_false (by omega)
          have hfin : B6.length = max BX.length (pos) := by have := M6.out; omega
          have HFin := Lib.hid hfin
          have lge : pos ≤ B6.length := by omega
          clear hpad hfin
          have HDn : Hid (B6 = doB f1 ⟨1, pos, bs, false⟩) := Lib.hid (HH.out.done G6.out HFin.out)
          have u0 : wr.cell? ⟨w.heap.size, 0, none⟩ = some (.slice A0 f0.length k0) := cell_of_row _ _ 0 _ _ _ D6.out.a
          have u1 : wr.cell? ⟨w.heap.size, 1, none⟩ = some (.slice A1 f1.length k1) := cell_of_row _ _ 1 _ _ _ D6.out.a
          have u2 : wr.cell? ⟨w.heap.size, 2, none⟩ = some (.slice A2 f2.length k2) := cell_of_row _ _ 2 _ _ _ D6.out.a
          have fu : wr.frozen? ⟨w.heap.size, 1, none⟩ = false := frozen_of_row _ _ _ _ _ D6.out.a
          have r0 : wr.cell? ⟨w.heap.size + 1 + 1, 0, none⟩ = some (.slice none 0 0) := cell_of_row _ _ 0 _ _ _ D6.out.r
          have fr0 : wr.frozen? ⟨w.heap.size + 1 + 1, 0, none⟩ = false := frozen_of_row _ _ _ _ _ D6.out.r
          have r1 : wr.cell? ⟨w.heap.size + 1 + 1, 1, none⟩ = some (.slice none 0 0) := cell_of_row _ _ 1 _ _ _ D6.out.r
          have fr1 : wr.frozen? ⟨w.heap.size + 1 + 1, 1, none⟩ = false := frozen_of_row _ _ _ _ _ D6.out.r
          have r2 : wr.cell? ⟨w.heap.size + 1 + 1, 2, none⟩ = some (.slice none 0 0) := cell_of_row _ _ 2 _ _ _ D6.out.r
          have fr2 : wr.frozen? ⟨w.heap.size + 1 + 1, 2, none⟩ = false := frozen_of_row _ _ _ _ _ D6.out.r
          go_wp2
          have HE := done_end (x0 := (.slice A0 f0.length k0)) (x1 := (.slice A6 B6.length c6)) (x2 := (.slice A2 f2.length k2)) (i := 1) (by decide) D6.out O6.out
          refine bodyPost_ret (results_cell_row rfl _ _ (w.heap.size + 1 + 1) 29 #[(.slice A0 f0.length k0), (.slice A6 B6.length c6), (.slice A2 f2.length k2)] (0, 0) _ rfl HE.2.2 Tryd.underlying29 rfl info_arr3) rfl ⟨A6, c6, ?_, ?_, HE.2.1⟩
          · rw [← HDn.out]
          · rw [← HDn.out]; exact HE.1

set_option maxHeartbeats 4000000 in
set_option maxRecDepth 100000 in
theorem Done_cut2 (A0 A1 A2 : Option Addr) (k0 k1 k2 : Nat) (f0 f1 f2 : List UInt8) (pos : Nat) (bs : List UInt8) (A : Option Addr) (k : Nat) (w : World) (hf : RB w A2 f2.length f2) (hl : f2.length ≤ 1048576) (hc : RB w A bs.length bs) (_hp : pos + bs.length ≤ 1048576) :
    Calls Tryd.prog 50 #[.agg #[.slice A0 f0.length k0, .slice A1 f1.length k1, .slice A2 f2.length k2], .agg #[.int .i64 2, .int .i64 (pos : Int), .slice A bs.length k, .bool true]] w fun e w' => ∃ A' k', e = .returned (.agg #[.slice A0 f0.length k0, .slice A1 f1.length k1, .slice A' (doB f2 ⟨2, pos, bs, true⟩).length k']) ∧ OB w' w.heap.size (.slice A' (doB f2 ⟨2, pos, bs, true⟩).length k') (doB f2 ⟨2, pos, bs, true⟩) ∧ Below w.heap.size w w' := by
  obtain ⟨z0, z1, z2, z3, z4, z5⟩ := four_allocs w (.cells #[.slice A0 f0.length k0, .slice A1 f1.length k1, .slice A2 f2.length k2] 29) (.cells #[.int .i64 2, .int .i64 (pos : Int), .slice A bs.length k, .bool true] 70) (.cells #[.slice none 0 0, .slice none 0 0, .slice none 0 0] 29) (.cells #[] 5)
  obtain ⟨wz, hwz⟩ : ∃ W, W = (((w.alloc (.cells #[.slice A0 f0.length k0, .slice A1 f1.length k1, .slice A2 f2.length k2] 29)).alloc (.cells #[.int .i64 2, .int .i64 (pos : Int), .slice A bs.length k, .bool true] 70)).alloc (.cells #[.slice none 0 0, .slice none 0 0, .slice none 0 0] 29)).alloc (.cells #[] 5) := ⟨_, rfl⟩
  rw [← hwz] at z0 z1 z2 z3 z4 z5
  have HWZ := Lib.hid hwz
  have HSZ := Lib.hid z4
  have DW0 : Hid (DoneW w wz #[.slice A0 f0.length k0, .slice A1 f1.length k1, .slice A2 f2.length k2] #[.int .i64 2, .int .i64 (pos : Int), .slice A bs.length k, .bool true]) := Lib.hid ⟨z0, z1, z2, z5, Nat.le_of_eq z4.symm⟩
  have Z3 := Lib.hid z3
  have HF := Lib.hid (hf.keep (Keeps.of_below z5))
  have HCW := Lib.hid hc
  have p0 : (0 : Int) ≤ (pos : Int) := by omega
  by_cases hlt : pos < f2.length
  · have q1 : decide ((pos : Int) < (f2.length : Int)) = true := decide_eq_true (by omega)
    have q1n : decide (pos < f2.length) = true := decide_eq_true hlt
    have q2 : (pos : Int) ≤ (f2.length : Int) := by omega
    have HEq : Hid (doB f2 ⟨2, pos, bs, true⟩ = f2.take pos) := Lib.hid rfl
    have HTl : Hid ((f2.take pos).length = pos) := Lib.hid (by rw [List.length_take]; omega)
    have HLt := Lib.hid hlt
    clear hlt
    clear hwz z0 z1 z2 z3 z4 z5 hf hc
    go_enter Tryd.func50, Tryd.ntmps50
    go_wp2_with (first
      | (at_builtin; go_loud (rw [← HWZ.out]; refine wpList_append_b rfl (.tmp 8) (.tmp 12) 28 (by rfl) (own_emptyB (q := w.heap.size + 3) (base := w.heap.size + 3) Z3.out (Nat.le_refl _)) (by rfl) (HF.out.src Tryd.underlying28 (c := k2)) (by rfl) (by simp; omega) (by have := HSZ.out; omega) ?_; intro v5 w5 hown5 hgr5 hat5; rw [List.nil_append] at hown5; obtain ⟨A5, c5, rfl, h5, h5', -⟩ := hown5.form; have O5 := Lib.hid hown5; have B5 : Hid (Below (w.heap.size + 3) wz w5) := Lib.hid (Fr.below (Fr.of_grown hgr5) (by have := HSZ.out; omega) (fun i _ e => Nat.le_of_eq (Option.some.inj (show some i = some (w.heap.size + 3) from e)).symm)); have DW5 := Lib.hid (DW0.out.next B5.out); have d0 : w5.cell? ⟨w.heap.size + 1, 0, none⟩ = some (.int .i64 2) := cell_of_row _ _ 0 _ _ _ DW5.out.c; have d1 : w5.cell? ⟨w.heap.size + 1, 1, none⟩ = some (.int .i64 (pos : Int)) := cell_of_row _ _ 1 _ _ _ DW5.out.c; have d2 : w5.cell? ⟨w.heap.size + 1, 2, none⟩ = some (.slice A bs.length k) := cell_of_row _ _ 2 _ _ _ DW5.out.c; have d3 : w5.cell? ⟨w.heap.size + 1, 3, none⟩ = some (.bool true) := cell_of_row _ _ 3 _ _ _ DW5.out.c; have u0 : w5.cell? ⟨w.heap.size, 0, none⟩ = some (.slice A0 f0.length k0) := cell_of_row _ _ 0 _ _ _ DW5.out.a; have u1 : w5.cell? ⟨w.heap.size, 1, none⟩ = some (.slice A1 f1.length k1) := cell_of_row _ _ 1 _ _ _ DW5.out.a; have u2 : w5.cell? ⟨w.heap.size, 2, none⟩ = some (.slice A2 f2.length k2) := cell_of_row _ _ 2 _ _ _ DW5.out.a; have fu : w5.frozen? ⟨w.heap.size, 2, none⟩ = false := frozen_of_row _ _ _ _ _ DW5.out.a; have r0 : w5.cell? ⟨w.heap.size + 1 + 1, 0, none⟩ = some (.slice none 0 0) := cell_of_row _ _ 0 _ _ _ DW5.out.r; have fr0 : w5.frozen? ⟨w.heap.size + 1 + 1, 0, none⟩ = false := frozen_of_row _ _ _ _ _ DW5.out.r; have r1 : w5.cell? ⟨w.heap.size + 1 + 1, 1, none⟩ = some (.slice none 0 0) := cell_of_row _ _ 1 _ _ _ DW5.out.r; have fr1 : w5.frozen? ⟨w.heap.size + 1 + 1, 1, none⟩ = false := frozen_of_row _ _ _ _ _ DW5.out.r; have r2 : w5.cell? ⟨w.heap.size + 1 + 1, 2, none⟩ = some (.slice none 0 0) := cell_of_row _ _ 2 _ _ _ DW5.out.r; have fr2 : w5.frozen? ⟨w.heap.size + 1 + 1, 2, none⟩ = false := frozen_of_row _ _ _ _ _ DW5.out.r;  clear hown5 hgr5 hat5))
      | fail)
    have l5 : (f2.length : Int) ≤ (c5 : Int) := by omega
    go_wp2
    have HE := done_end (x0 := (.slice A0 f0.length k0)) (x1 := (.slice A1 f1.length k1)) (x2 := (.slice A5 pos c5)) (i := 2) (by decide) DW5.out (by have h := O5.out.cutTo pos (by have := HLt.out; omega); exact h)
    refine bodyPost_ret (results_cell_row rfl _ _ (w.heap.size + 1 + 1) 29 #[(.slice A0 f0.length k0), (.slice A1 f1.length k1), (.slice A5 pos c5)] (0, 0) _ rfl HE.2.2 Tryd.underlying29 rfl info_arr3) rfl ⟨A5, c5, ?_, ?_, HE.2.1⟩
    · rw [HEq.out, HTl.out]
    · rw [HEq.out, HTl.out]; exact HE.1
  · have q1 : decide ((pos : Int) < (f2.length : Int)) = false := decide_eq_false (by omega)
    have q1n : decide (pos < f2.length) = false := decide_eq_false hlt
    have HEq : Hid (doB f2 ⟨2, pos, bs, true⟩ = f2) := Lib.hid (by show f2.take pos = _; exact List.take_of_length_le (by omega))
    clear hlt
    clear hwz z0 z1 z2 z3 z4 z5 hf hc
    go_enter Tryd.func50, Tryd.ntmps50
    go_wp2_with (first
      | (at_builtin; go_loud (rw [← HWZ.out]; refine wpList_append_b rfl (.tmp 8) (.tmp 12) 28 (by rfl) (own_emptyB (q := w.heap.size + 3) (base := w.heap.size + 3) Z3.out (Nat.le_refl _)) (by rfl) (HF.out.src Tryd.underlying28 (c := k2)) (by rfl) (by simp; omega) (by have := HSZ.out; omega) ?_; intro v5 w5 hown5 hgr5 hat5; rw [List.nil_append] at hown5; obtain ⟨A5, c5, rfl, h5, h5', -⟩ := hown5.form; have O5 := Lib.hid hown5; have B5 : Hid (Below (w.heap.size + 3) wz w5) := Lib.hid (Fr.below (Fr.of_grown hgr5) (by have := HSZ.out; omega) (fun i _ e => Nat.le_of_eq (Option.some.inj (show some i = some (w.heap.size + 3) from e)).symm)); have DW5 := Lib.hid (DW0.out.next B5.out); have d0 : w5.cell? ⟨w.heap.size + 1, 0, none⟩ = some (.int .i64 2) := cell_of_row _ _ 0 _ _ _ DW5.out.c; have d1 : w5.cell? ⟨w.heap.size + 1, 1, none⟩ = some (.int .i64 (pos : Int)) := cell_of_row _ _ 1 _ _ _ DW5.out.c; have d2 : w5.cell? ⟨w.heap.size + 1, 2, none⟩ = some (.slice A bs.length k) := cell_of_row _ _ 2 _ _ _ DW5.out.c; have d3 : w5.cell? ⟨w.heap.size + 1, 3, none⟩ = some (.bool true) := cell_of_row _ _ 3 _ _ _ DW5.out.c; have u0 : w5.cell? ⟨w.heap.size, 0, none⟩ = some (.slice A0 f0.length k0) := cell_of_row _ _ 0 _ _ _ DW5.out.a; have u1 : w5.cell? ⟨w.heap.size, 1, none⟩ = some (.slice A1 f1.length k1) := cell_of_row _ _ 1 _ _ _ DW5.out.a; have u2 : w5.cell? ⟨w.heap.size, 2, none⟩ = some (.slice A2 f2.length k2) := cell_of_row _ _ 2 _ _ _ DW5.out.a; have fu : w5.frozen? ⟨w.heap.size, 2, none⟩ = false := frozen_of_row _ _ _ _ _ DW5.out.a; have r0 : w5.cell? ⟨w.heap.size + 1 + 1, 0, none⟩ = some (.slice none 0 0) := cell_of_row _ _ 0 _ _ _ DW5.out.r; have fr0 : w5.frozen? ⟨w.heap.size + 1 + 1, 0, none⟩ = false := frozen_of_row _ _ _ _ _ DW5.out.r; have r1 : w5.cell? ⟨w.heap.size + 1 + 1, 1, none⟩ = some (.slice none 0 0) := cell_of_row _ _ 1 _ _ _ DW5.out.r; have fr1 : w5.frozen? ⟨w.heap.size + 1 + 1, 1, none⟩ = false := frozen_of_row _ _ _ _ _ DW5.out.r; have r2 : w5.cell? ⟨w.heap.size + 1 + 1, 2, none⟩ = some (.slice none 0 0) := cell_of_row _ _ 2 _ _ _ DW5.out.r; have fr2 : w5.frozen? ⟨w.heap.size + 1 + 1, 2, none⟩ = false := frozen_of_row _ _ _ _ _ DW5.out.r;  clear hown5 hgr5 hat5))
      | fail)
    go_wp2
    have HE := done_end (x0 := (.slice A0 f0.length k0)) (x1 := (.slice A1 f1.length k1)) (x2 := (.slice A5 f2.length c5)) (i := 2) (by decide) DW5.out O5.out
    refine bodyPost_ret (results_cell_row rfl _ _ (w.heap.size + 1 + 1) 29 #[(.slice A0 f0.length k0), (.slice A1 f1.length k1), (.slice A5 f2.length c5)] (0, 0) _ rfl HE.2.2 Tryd.underlying29 rfl info_arr3) rfl ⟨A5, c5, ?_, ?_, HE.2.1⟩
    · rw [HEq.out]
    · rw [HEq.out]; exact HE.1

set_option maxHeartbeats 4000000 in
set_option maxRecDepth 100000 in
theorem Done_wr2 (A0 A1 A2 : Option Addr) (k0 k1 k2 : Nat) (f0 f1 f2 : List UInt8) (pos : Nat) (bs : List UInt8) (A : Option Addr) (k : Nat) (w : World) (hf : RB w A2 f2.length f2) (hl : f2.length ≤ 1048576) (hc : RB w A bs.length bs) (hp : pos + bs.length ≤ 1048576) :
    Calls Tryd.prog 50 #[.agg #[.slice A0 f0.length k0, .slice A1 f1.length k1, .slice A2 f2.length k2], .agg #[.int .i64 2, .int .i64 (pos : Int), .slice A bs.length k, .bool false]] w fun e w' => ∃ A' k', e = .returned (.agg #[.slice A0 f0.length k0, .slice A1 f1.length k1, .slice A' (doB f2 ⟨2, pos, bs, false⟩).length k']) ∧ OB w' w.heap.size (.slice A' (doB f2 ⟨2, pos, bs, false⟩).length k') (doB f2 ⟨2, pos, bs, false⟩) ∧ Below w.heap.size w w' := by
  obtain ⟨z0, z1, z2, z3, z4, z5⟩ := four_allocs w (.cells #[.slice A0 f0.length k0, .slice A1 f1.length k1, .slice A2 f2.length k2] 29) (.cells #[.int .i64 2, .int .i64 (pos : Int), .slice A bs.length k, .bool false] 70) (.cells #[.slice none 0 0, .slice none 0 0, .slice none 0 0] 29) (.cells #[] 5)
  obtain ⟨wz, hwz⟩ : ∃ W, W = (((w.alloc (.cells #[.slice A0 f0.length k0, .slice A1 f1.length k1, .slice A2 f2.length k2] 29)).alloc (.cells #[.int .i64 2, .int .i64 (pos : Int), .slice A bs.length k, .bool false] 70)).alloc (.cells #[.slice none 0 0, .slice none 0 0, .slice none 0 0] 29)).alloc (.cells #[] 5) := ⟨_, rfl⟩
  rw [← hwz] at z0 z1 z2 z3 z4 z5
  have HWZ := Lib.hid hwz
  have HSZ := Lib.hid z4
  have DW0 : Hid (DoneW w wz #[.slice A0 f0.length k0, .slice A1 f1.length k1, .slice A2 f2.length k2] #[.int .i64 2, .int .i64 (pos : Int), .slice A bs.length k, .bool false]) := Lib.hid ⟨z0, z1, z2, z5, Nat.le_of_eq z4.symm⟩
  have Z3 := Lib.hid z3
  have HF := Lib.hid (hf.keep (Keeps.of_below z5))
  have HCW := Lib.hid hc
  have p0 : (0 : Int) ≤ (pos : Int) := by omega
  have pm : (pos : Int) ≤ 1048576 := by omega
  have bm : (bs.length : Int) ≤ 1048576 := by omega
  have HPB := Lib.hid hp
  have HLM := Lib.hid hl
  clear hwz z0 z1 z2 z3 z4 z5 hf hc
  go_enter Tryd.func50, Tryd.ntmps50
  go_wp2_with (first
    | (at_builtin; go_loud (rw [← HWZ.out]; refine wpList_append_b rfl (.tmp 8) (.tmp 12) 28 (by rfl) (own_emptyB (q := w.heap.size + 3) (base := w.heap.size + 3) Z3.out (Nat.le_refl _)) (by rfl) (HF.out.src Tryd.underlying28 (c := k2)) (by rfl) (by simp; omega) (by have := HSZ.out; omega) ?_; intro v5 w5 hown5 hgr5 hat5; rw [List.nil_append] at hown5; obtain ⟨A5, c5, rfl, h5, h5', -⟩ := hown5.form; have O5 := Lib.hid hown5; have B5 : Hid (Below (w.heap.size + 3) wz w5) := Lib.hid (Fr.below (Fr.of_grown hgr5) (by have := HSZ.out; omega) (fun i _ e => Nat.le_of_eq (Option.some.inj (show some i = some (w.heap.size + 3) from e)).symm)); have DW5 := Lib.hid (DW0.out.next B5.out); have d0 : w5.cell? ⟨w.heap.size + 1, 0, none⟩ = some (.int .i64 2) := cell_of_row _ _ 0 _ _ _ DW5.out.c; have d1 : w5.cell? ⟨w.heap.size + 1, 1, none⟩ = some (.int .i64 (pos : Int)) := cell_of_row _ _ 1 _ _ _ DW5.out.c; have d2 : w5.cell? ⟨w.heap.size + 1, 2, none⟩ = some (.slice A bs.length k) := cell_of_row _ _ 2 _ _ _ DW5.out.c; have d3 : w5.cell? ⟨w.heap.size + 1, 3, none⟩ = some (.bool false) := cell_of_row _ _ 3 _ _ _ DW5.out.c;  clear hown5 hgr5 hat5))
    | fail)
  go_loopg [5, 28] bs.length (fun gk s5 s28 wr => ∃ (i : Nat) (AX : Option Addr) (cX : Nat) (BX : List UInt8), i + gk = bs.length ∧ s28 = .int .i64 (i : Int) ∧ s5 = .slice AX BX.length cX ∧ BX.length ≤ cX ∧ cX ≤ maxLen ∧ OB wr (w.heap.size + 3) (.slice AX BX.length cX) BX ∧ DoneW w wr #[.slice A0 f0.length k0, .slice A1 f1.length k1, .slice A2 f2.length k2] #[.int .i64 2, .int .i64 (pos : Int), .slice A bs.length k, .bool false] ∧ Below (w.heap.size + 3) wz wr ∧ Half f2 pos bs i BX)
  case atStart => exact ⟨0, A5, c5, f2, by omega, rfl, rfl, h5, h5', O5.out, DW5.out, B5.out, Half.zero _ _ _⟩
  case round =>
    obtain ⟨i, AX, cX, BX, hik, rfl, rfl, hx1, hx2, hox, hdx, hbx, hhx⟩ := hrel
    have OX := Lib.hid hox
    have DX := Lib.hid hdx
    have BX0 := Lib.hid hbx
    have HH := Lib.hid hhx
    have HIK := Lib.hid hik
    have HXC := Lib.hid (And.intro hx1 hx2)
    have HXL : Hid (BX.length ≤ 1048576) := Lib.hid (by rw [hhx.1]; have := HPB.out; have := HLM.out; split <;> omega)
    have x0 : wr.cell? ⟨w.heap.size + 1, 0, none⟩ = some (.int .i64 2) := cell_of_row _ _ 0 _ _ _ hdx.c
    have x1 : wr.cell? ⟨w.heap.size + 1, 1, none⟩ = some (.int .i64 (pos : Int)) := cell_of_row _ _ 1 _ _ _ hdx.c
    have x2 : wr.cell? ⟨w.heap.size + 1, 2, none⟩ = some (.slice A bs.length k) := cell_of_row _ _ 2 _ _ _ hdx.c
    clear hox hdx hbx hhx hik hx1 hx2
    by_cases hlt : i < bs.length
    · have i0 : (0 : Int) ≤ (i : Int) := by omega
      have i1 : (i : Int) < (bs.length : Int) := by omega
      have i2 : (pos : Int) + (i : Int) ≤ 1048576 := by omega
      have HLT := Lib.hid hlt
      obtain ⟨bb, ob, rfl, hcell⟩ := HCW.out.2 (by omega)
      have hbw : bb < w.heap.size + 3 := Nat.lt_of_lt_of_le (World.block_lt_of_cell? w _ (hcell i hlt)) (by omega)
      have cb := Keeps.of_below DW0.out.bel _ _ (hcell i hlt)
      have cbr : wr.cell? ⟨bb, ob + i, none⟩ = some (.int .u8 ((bs.getD i 0).toNat : Int)) := (BX0.out.cell (p := ⟨bb, ob + i, none⟩) hbw).trans cb
      obtain ⟨xb, hxb⟩ : ∃ x, x = bs.getD i 0 := ⟨_, rfl⟩
      have HXB := Lib.hid hxb
      rw [← hxb] at cbr
      clear hlt hcell cb hxb
      go_wp2_with fail

      go_loopg [5] (pos + i + 1 - BX.length) (fun gk s5 wr => ∃ (A6 : Option Addr) (c6 : Nat) (B6 : List UInt8), s5 = .slice A6 B6.length c6 ∧ B6.length ≤ c6 ∧ c6 ≤ maxLen ∧ OB wr (w.heap.size + 3) (.slice A6 B6.length c6) B6 ∧ DoneW w wr #[.slice A0 f0.length k0, .slice A1 f1.length k1, .slice A2 f2.length k2] #[.int .i64 2, .int .i64 (pos : Int), .slice (some ⟨bb, ob, none⟩) bs.length k, .bool false] ∧ Below (w.heap.size + 3) wz wr ∧ (∀ j, B6.getD j 0 = BX.getD j 0) ∧ pos + i + 1 - B6.length = gk ∧ B6.length = max BX.length (min B6.length (pos + i + 1)))
      case atStart => exact ⟨AX, cX, BX, rfl, HXC.out.1, HXC.out.2, OX.out, DX.out, BX0.out, fun _ => rfl, rfl, by omega⟩
      case round =>
        obtain ⟨A6, c6, B6, rfl, h6, h6', ho6, hd6, hb6, hg6, hk6, hm6⟩ := hrel
        have O6 := Lib.hid ho6
        have D6 := Lib.hid hd6
        have BB6 := Lib.hid hb6
        have G6 := Lib.hid hg6
        have K6 := Lib.hid hk6
        have M6 := Lib.hid hm6
        have C6 := Lib.hid (And.intro h6 h6')
        have e0 : wr.cell? ⟨w.heap.size + 1, 0, none⟩ = some (.int .i64 2) := cell_of_row _ _ 0 _ _ _ hd6.c
        have e1 : wr.cell? ⟨w.heap.size + 1, 1, none⟩ = some (.int .i64 (pos : Int)) := cell_of_row _ _ 1 _ _ _ hd6.c
        have e2 : wr.cell? ⟨w.heap.size + 1, 2, none⟩ = some (.slice (some ⟨bb, ob, none⟩) bs.length k) := cell_of_row _ _ 2 _ _ _ hd6.c
        have l6 : B6.length ≤ 1048576 := by have := HPB.out; have := HLM.out; have := HXL.out; omega
        clear ho6 hd6 hb6 hg6 hk6 hm6 h6 h6'
        by_cases hpad : B6.length < pos + i + 1
        · have qa : decide ((B6.length : Int) ≤ (pos : Int) + (i : Int)) = true := decide_eq_true (by omega)
          have qb : decide (B6.length ≤ pos + i) = true := decide_eq_true (by omega)
          have HPAD := Lib.hid hpad
          clear hpad
          go_wp2_with (first
            | (at_builtin; go_loud (refine wpList_append_b rfl (.tmp 40) (.tmp 41) 28 (by rfl) (O6.out.alloc _) (by rfl) (Src.lit wr _ [0] rfl 1 1 rfl) (by rfl) (by simp; omega) (by have := D6.out.size; simp; omega) ?_; intro v7 w7 hown7 hgr7 hat7; obtain ⟨A7, c7, e7, h7, h7', -⟩ := hown7.form; rw [List.length_append, List.length_singleton] at e7 h7; subst e7; have O7 := Lib.hid hown7; have C7 := Lib.hid (And.intro h7 h7'); have B7 : Hid (Below (w.heap.size + 3) wr w7) := Lib.hid (((Below.refl (w.heap.size + 3) wr).alloc (by have := D6.out.size; omega) _).grown hgr7 (by have := D6.out.size; simp; omega) fun q hq => (OB.lt O6.out q hq).1); clear hown7 hgr7 hat7 h7 h7'))
            | fail)
          go_roundg (gk - 1)
          case measure => have := K6.out; have := HPAD.out; omega
          case rel =>
            have hlen : (B6 ++ [0]).length = B6.length + 1 := by simp
            refine ⟨A7, c7, B6 ++ [0], by rw [hlen], by rw [hlen]; exact C7.out.1, C7.out.2, by rw [hlen]; exact O7.out, D6.out.next B7.out, BB6.out.trans B7.out, fun j => (snoc0_getD B6 j).trans (G6.out j), ?_, ?_⟩
            · rw [hlen]; have := K6.out; have := HPAD.out; omega
            · rw [hlen]; have := M6.out; have := HPAD.out; omega
        · have qa : decide ((B6.length : Int) ≤ (pos : Int) + (i : Int)) = false := decide_eq_false (by omega)
          have qb : decide (B6.length ≤ pos + i) = false := decide_eq_false (by omega)
          have hfin : B6.length = max BX.length (pos + i + 1) := by have := M6.out; omega
          have HFin := Lib.hid hfin
          have lge : pos + i + 1 ≤ B6.length := by omega
          clear hpad hfin
          obtain ⟨bq, oq, eA6⟩ : ∃ b o, A6 = some ⟨b, o, none⟩ := by
            obtain ⟨b', o', e', _⟩ := (RB.of_ownS O6.out).2 (by omega)
            exact ⟨b', o', e'⟩
          subst eA6
          have hcl : wr.cell? ⟨bq, oq + (pos + i), none⟩ = some (.int .u8 ((B6.getD (pos + i) 0).toNat : Int)) := by
            obtain ⟨b', o', e', hc'⟩ := (RB.of_ownS O6.out).2 (by omega)
            injection e' with e'
            injection e' with e1' e2'
            subst e1'; subst e2'
            exact hc' (pos + i) (by omega)
          obtain ⟨hfz, hset⟩ := OB.setB xb O6.out rfl (show pos + i < B6.length by omega)
          have HSet := Lib.hid hset
          have y1 : (pos : Int) + (i : Int) < (B6.length : Int) := by omega
          have y2 : pos + i < B6.length := by omega
          have y3 : ((pos : Int) + (i : Int)).toNat = pos + i := by omega
          clear hset
          go_wp2
          go_roundg (bs.length - (i + 1))
          case measure => have := HIK.out; have := HLT.out; omega
          case rel =>
            have hb6 : Below (w.heap.size + 3) wr (wr.setCell ⟨bq, oq + (pos + i), none⟩ (.int .u8 (xb.toNat : Int))) := (Below.refl _ _).setCell (p := ⟨bq, oq + (pos + i), none⟩) ((OB.lt O6.out bq rfl).1) _
            refine ⟨i + 1, some ⟨bq, oq, none⟩, c6, B6.set (pos + i) xb, by have := HLT.out; omega, by go_num, by rw [List.length_set], by rw [List.length_set]; exact C6.out.1, C6.out.2, by rw [List.length_set]; exact HSet.out, D6.out.next hb6, BB6.out.trans hb6, ?_⟩
            rw [HXB.out]
            exact HH.out.next G6.out HFin.out
    · obtain rfl : i = bs.length := by have := HIK.out; omega
      clear hlt
      go_wp2_with fail

      go_loopg [5] (pos - BX.length) (fun gk s5 wr => ∃ (A6 : Option Addr) (c6 : Nat) (B6 : List UInt8), s5 = .slice A6 B6.length c6 ∧ B6.length ≤ c6 ∧ c6 ≤ maxLen ∧ OB wr (w.heap.size + 3) (.slice A6 B6.length c6) B6 ∧ DoneW w wr #[.slice A0 f0.length k0, .slice A1 f1.length k1, .slice A2 f2.length k2] #[.int .i64 2, .int .i64 (pos : Int), .slice A bs.length k, .bool false] ∧ Below (w.heap.size + 3) wz wr ∧ (∀ j, B6.getD j 0 = BX.getD j 0) ∧ pos - B6.length = gk ∧ B6.length = max BX.length (min B6.length (pos)))
      case atStart => exact ⟨AX, cX, BX, rfl, HXC.out.1, HXC.out.2, OX.out, DX.out, BX0.out, fun _ => rfl, rfl, by omega⟩
      case round =>
        obtain ⟨A6, c6, B6, rfl, h6, h6', ho6, hd6, hb6, hg6, hk6, hm6⟩ := hrel
        have O6 := Lib.hid ho6
        have D6 := Lib.hid hd6
        have BB6 := Lib.hid hb6
        have G6 := Lib.hid hg6
        have K6 := Lib.hid hk6
        have M6 := Lib.hid hm6
        have C6 := Lib.hid (And.intro h6 h6')
        have e0 : wr.cell? ⟨w.heap.size + 1, 0, none⟩ = some (.int .i64 2) := cell_of_row _ _ 0 _ _ _ hd6.c
        have e1 : wr.cell? ⟨w.heap.size + 1, 1, none⟩ = some (.int .i64 (pos : Int)) := cell_of_row _ _ 1 _ _ _ hd6.c
        have e2 : wr.cell? ⟨w.heap.size + 1, 2, none⟩ = some (.slice A bs.length k) := cell_of_row _ _ 2 _ _ _ hd6.c
        have l6 : B6.length ≤ 1048576 := by have := HPB.out; have := HLM.out; have := HXL.out; omega
        clear ho6 hd6 hb6 hg6 hk6 hm6 h6 h6'
        by_cases hpad : B6.length < pos
        · have qa : decide ((B6.length : Int) < (pos : Int)) = true := decide_eq_true (by omega)
          have qb : decide (B6.length < pos) = true := decide_eq_true (by omega)
          have HPAD := Lib.hid hpad
          clear hpad
          go_wp2_with (first
            | (at_builtin; go_loud (refine wpList_append_b rfl (.tmp 56) (.tmp 57) 28 (by rfl) (O6.out.alloc _) (by rfl) (Src.lit wr _ [0] rfl 1 1 rfl) (by rfl) (by simp; omega) (by have := D6.out.size; simp; omega) ?_; intro v7 w7 hown7 hgr7 hat7; obtain ⟨A7, c7, e7, h7, h7', -⟩ := hown7.form; rw [List.length_append, List.length_singleton] at e7 h7; subst e7; have O7 := Lib.hid hown7; have C7 := Lib.hid (And.intro h7 h7'); have B7 : Hid (Below (w.heap.size + 3) wr w7) := Lib.hid (((Below.refl (w.heap.size + 3) wr).alloc (by have := D6.out.size; omega) _).grown hgr7 (by have := D6.out.size; simp; omega) fun q hq => (OB.lt O6.out q hq).1); clear hown7 hgr7 hat7 h7 h7'))
            | fail)
          go_roundg (gk - 1)
          case measure => have := K6.out; have := HPAD.out; omega
          case rel =>
            have hlen : (B6 ++ [0]).length = B6.length + 1 := by simp
            refine ⟨A7, c7, B6 ++ [0], by rw [hlen], by rw [hlen]; exact C7.out.1, C7.out.2, by rw [hlen]; exact O7.out, D6.out.next B7.out, BB6.out.trans B7.out, fun j => (snoc0_getD B6 j).trans (G6.out j), ?_, ?_⟩
            · rw [hlen]; have := K6.out; have := HPAD.out; omega
            · rw [hlen]; have := M6.out; have := HPAD.out; omega
        · have qa : decide ((B6.length : Int) < (pos : Int)) = false := decide_eq_false (by omega)
          have qb : decide (B6.length < pos) = false := decide_eq_false (by omega)
          have hfin : B6.length = max BX.length (pos) := by have := M6.out; omega
          have HFin := Lib.hid hfin
          have lge : pos ≤ B6.length := by omega
          clear hpad hfin
          have HDn : Hid (B6 = doB f2 ⟨2, pos, bs, false⟩) := Lib.hid (HH.out.done G6.out HFin.out)
          have u0 : wr.cell? ⟨w.heap.size, 0, none⟩ = some (.slice A0 f0.length k0) := cell_of_row _ _ 0 _ _ _ D6.out.a
          have u1 : wr.cell? ⟨w.heap.size, 1, none⟩ = some (.slice A1 f1.length k1) := cell_of_row _ _ 1 _ _ _ D6.out.a
          have u2 : wr.cell? ⟨w.heap.size, 2, none⟩ = some (.slice A2 f2.length k2) := cell_of_row _ _ 2 _ _ _ D6.out.a
          have fu : wr.frozen? ⟨w.heap.size, 2, none⟩ = false := frozen_of_row _ _ _ _ _ D6.out.a
          have r0 : wr.cell? ⟨w.heap.size + 1 + 1, 0, none⟩ = some (.slice none 0 0) := cell_of_row _ _ 0 _ _ _ D6.out.r
          have fr0 : wr.frozen? ⟨w.heap.size + 1 + 1, 0, none⟩ = false := frozen_of_row _ _ _ _ _ D6.out.r
          have r1 : wr.cell? ⟨w.heap.size + 1 + 1, 1, none⟩ = some (.slice none 0 0) := cell_of_row _ _ 1 _ _ _ D6.out.r
          have fr1 : wr.frozen? ⟨w.heap.size + 1 + 1, 1, none⟩ = false := frozen_of_row _ _ _ _ _ D6.out.r
          have r2 : wr.cell? ⟨w.heap.size + 1 + 1, 2, none⟩ = some (.slice none 0 0) := cell_of_row _ _ 2 _ _ _ D6.out.r
          have fr2 : wr.frozen? ⟨w.heap.size + 1 + 1, 2, none⟩ = false := frozen_of_row _ _ _ _ _ D6.out.r
          go_wp2
          have HE := done_end (x0 := (.slice A0 f0.length k0)) (x1 := (.slice A1 f1.length k1)) (x2 := (.slice A6 B6.length c6)) (i := 2) (by decide) D6.out O6.out
          refine bodyPost_ret (results_cell_row rfl _ _ (w.heap.size + 1 + 1) 29 #[(.slice A0 f0.length k0), (.slice A1 f1.length k1), (.slice A6 B6.length c6)] (0, 0) _ rfl HE.2.2 Tryd.underlying29 rfl info_arr3) rfl ⟨A6, c6, ?_, ?_, HE.2.1⟩
          · rw [← HDn.out]
          · rw [← HDn.out]; exact HE.1
end Go.Proofs.YtifjddkgnfanaaaDoor

/- The document's disk (layer 17): Done, whatever the area; a disk of the document in memory; Seen. -/
namespace Go.Proofs.YtifjddkgnfanaaaDoor
open Go.RowKit

/-- The i-th of slices. -/
def av (A : Nat → Option Addr) (k : Nat → Nat) (f : Nat → List UInt8) (i : Nat) : Value := .slice (A i) (f i).length (k i)
def updF {α : Type} (f : Nat → α) (i : Nat) (x : α) : Nat → α := fun j => if j = i then x else f j
theorem av_same (A : Nat → Option Addr) (k : Nat → Nat) (f : Nat → List UInt8) (i : Nat) (A' : Option Addr) (k' : Nat) (l : List UInt8) : av (updF A i A') (updF k i k') (updB f i l) i = .slice A' l.length k' := by
  unfold av updF updB; rw [if_pos rfl, if_pos rfl, if_pos rfl]
theorem av_other (A : Nat → Option Addr) (k : Nat → Nat) (f : Nat → List UInt8) (i j : Nat) (A' : Option Addr) (k' : Nat) (l : List UInt8) (h : j ≠ i) : av (updF A i A') (updF k i k') (updB f i l) j = av A k f j := by
  unfold av updF updB; rw [if_neg h, if_neg h, if_neg h]

theorem Done_any (A : Nat → Option Addr) (k : Nat → Nat) (f : Nat → List UInt8) (c : DChg) (B : Option Addr) (kb : Nat) (w : World) (ha : c.area < 3) (hf : RB w (A c.area) (f c.area).length (f c.area)) (hl : (f c.area).length ≤ 1048576) (hc : RB w B c.bytes.length c.bytes) (hp : c.pos + c.bytes.length ≤ 1048576) :
    Calls Tryd.prog 50 #[.agg #[av A k f 0, av A k f 1, av A k f 2], .agg #[.int .i64 (c.area : Int), .int .i64 (c.pos : Int), .slice B c.bytes.length kb, .bool c.cuts]] w fun e w' =>
      ∃ A' k', e = .returned (.agg #[av (updF A c.area A') (updF k c.area k') (updB f c.area (doB (f c.area) c)) 0, av (updF A c.area A') (updF k c.area k') (updB f c.area (doB (f c.area) c)) 1, av (updF A c.area A') (updF k c.area k') (updB f c.area (doB (f c.area) c)) 2]) ∧ OB w' w.heap.size (.slice A' (doB (f c.area) c).length k') (doB (f c.area) c) ∧ Below w.heap.size w w' := by
  obtain ⟨a, pos, bs, cuts⟩ := c
  dsimp only at *
  have h : a = 0 ∨ a = 1 ∨ a = 2 := by omega
  rcases h with rfl | rfl | rfl <;> cases cuts
  · exact (Done_wr0 _ _ _ (k 0) (k 1) (k 2) (f 0) (f 1) (f 2) pos bs B kb w hf hl hc hp)
  · exact (Done_cut0 _ _ _ (k 0) (k 1) (k 2) (f 0) (f 1) (f 2) pos bs B kb w hf hl hc hp)
  · exact (Done_wr1 _ _ _ (k 0) (k 1) (k 2) (f 0) (f 1) (f 2) pos bs B kb w hf hl hc hp)
  · exact (Done_cut1 _ _ _ (k 0) (k 1) (k 2) (f 0) (f 1) (f 2) pos bs B kb w hf hl hc hp)
  · exact (Done_wr2 _ _ _ (k 0) (k 1) (k 2) (f 0) (f 1) (f 2) pos bs B kb w hf hl hc hp)
  · exact (Done_cut2 _ _ _ (k 0) (k 1) (k 2) (f 0) (f 1) (f 2) pos bs B kb w hf hl hc hp)

def rcellsD (m : DM) (A : Nat → Option Addr) (k : Nat → Nat) (wv : Value) : Array Value := #[.int .i64 m.room, av A k m.b 0, av A k m.b 1, av A k m.b 2, wv, .bool m.armed, .int .i64 m.left, .bool m.gone]
/-- Block g is the document's disk; O: the blocks that are its own. -/
structure RDV (w : World) (O : Nat → Prop) (g : Nat) (m : DM) (A : Nat → Option Addr) (k : Nat → Nat) (wv : Value) (ws : List (DChg × Value)) : Prop where
  cells : w.heap[g]? = some (.cells (rcellsD m A k wv) 32 (0, 0))
  areas : ∀ i, i < 3 → OB w 0 (av A k m.b i) (m.b i)
  wts : OwnS w 0 70 4 wv ws.length (wcells ws)
  eq : ws.map (fun x => x.1) = m.waits
  bytes : ∀ x ∈ ws, OB w 0 x.2 x.1.bytes
  ownG : O g
  ownB : ∀ i, i < 3 → ∀ q, (av A k m.b i).ownBlock = some q → O q
  ownW : ∀ q, wv.ownBlock = some q → O q
  ownX : ∀ x ∈ ws, ∀ q, x.2.ownBlock = some q → O q
def RefAt (w : World) (O : Nat → Prop) (g : Nat) (m : DM) : Prop := ∃ A k wv ws, RDV w O g m A k wv ws

section
variable {w w' : World} {O S : Nat → Prop} {g : Nat} {m m' : DM} {A : Nat → Option Addr} {k : Nat → Nat} {wv : Value} {ws : List (DChg × Value)}
theorem RDV.lt (h : RDV w O g m A k wv ws) : g < w.heap.size := (Array.getElem?_eq_some_iff.1 h.cells).1
theorem RDV.cell (h : RDV w O g m A k wv ws) (j : Nat) : w.cell? ⟨g, j, none⟩ = (rcellsD m A k wv)[j]? := cell_of_row _ _ _ _ _ _ h.cells
theorem RDV.free (h : RDV w O g m A k wv ws) (j : Nat) : w.frozen? ⟨g, j, none⟩ = false := frozen_of_row _ _ _ _ _ h.cells
theorem RDV.mono (h : RDV w O g m A k wv ws) {O' : Nat → Prop} (hp : ∀ q, q < w.heap.size → O q → O' q) : RDV w O' g m A k wv ws :=
  ⟨h.cells, h.areas, h.wts, h.eq, h.bytes, hp _ h.lt h.ownG, fun i hi q hq => hp q (OB.lt (h.areas i hi) q hq).2 (h.ownB i hi q hq), fun q hq => hp q (OwnS.lt h.wts q hq).2 (h.ownW q hq), fun x hx q hq => hp q (OB.lt (h.bytes x hx) q hq).2 (h.ownX x hx q hq)⟩
theorem RDV.fr (h : RDV w O g m A k wv ws) (hf : Fr S w w') (hn : ∀ q, O q → ¬ S q) : RDV w' O g m A k wv ws :=
  ⟨(hf.block _ h.lt (hn _ h.ownG)).trans h.cells, fun i hi => OwnS.kept (h.areas i hi) hf fun q hq => hn q (h.ownB i hi q hq), OwnS.kept h.wts hf fun q hq => hn q (h.ownW q hq), h.eq, fun x hx => OwnS.kept (h.bytes x hx) hf fun q hq => hn q (h.ownX x hx q hq), h.ownG, h.ownB, h.ownW, h.ownX⟩
theorem RDV.below (h : RDV w O g m A k wv ws) (hb : Below w.heap.size w w') : RDV w' O g m A k wv ws := h.fr (S := fun _ => False) (Fr.of_below hb) fun _ _ x => x
theorem RDV.ne {v : Value} {l : List UInt8} (h : RDV w O g m A k wv ws) (ho : OB w 0 v l) : v.ownBlock ≠ some g := fun e => by
  obtain ⟨cur, hc⟩ := own_type ho e
  exact absurd (types_ne hc h.cells) (by decide)
theorem RDV.wne (h : RDV w O g m A k wv ws) : wv.ownBlock ≠ some g := fun e => by
  obtain ⟨cur, hc⟩ := own_type h.wts e
  exact absurd (types_ne hc h.cells) (by decide)
/-- Only the disk's block has turned, and in it neither areas nor what waits. -/
theorem RDV.turn (h : RDV w O g m A k wv ws) (hf : Fr (fun q => q = g) w w') (hc : w'.heap[g]? = some (.cells (rcellsD m' A k wv) 32 (0, 0))) (hb : m'.b = m.b) (hw : m'.waits = m.waits) : RDV w' O g m' A k wv ws :=
  ⟨hc, fun i hi => by rw [hb]; exact OwnS.kept (h.areas i hi) hf fun q hq e => h.ne (h.areas i hi) (by rw [← e]; exact hq), OwnS.kept h.wts hf fun q hq e => h.wne (by rw [← e]; exact hq), by rw [hw]; exact h.eq, fun x hx => OwnS.kept (h.bytes x hx) hf fun q hq e => h.ne (h.bytes x hx) (by rw [← e]; exact hq), h.ownG, fun i hi q hq => h.ownB i hi q (by rw [hb] at hq; exact hq), h.ownW, h.ownX⟩
end

theorem foldC_len : ∀ (ws : List DChg) (f : Nat → List UInt8), (∀ c ∈ ws, c.pos + c.bytes.length ≤ 1048576) → (∀ i, i < 3 → (f i).length ≤ 1048576) → ∀ i, i < 3 → (foldC f ws i).length ≤ 1048576 := by
  intro ws
  induction ws with
  | nil => intro f _ h; exact h
  | cons a r ih =>
    intro f hc h
    refine ih _ (fun c hx => hc c (by simp [hx])) fun i hi => ?_
    by_cases e : i = a.area
    · subst e
      rw [updB_same]
      have := doB_length (f a.area) a
      have := hc a (by simp)
      have := h a.area hi
      omega
    · rw [updB_other _ _ _ _ e]; exact h i hi
end Go.Proofs.YtifjddkgnfanaaaDoor
