/- (*sha.Hash).Write -/
import Derived.Test.YtjodehdmafagoaaDoorHash
import Derived.Deep.LoopGhost
namespace Go.Proofs.YtjodehdmafagoaaDoor
open Go.RowKit

theorem RB.take {w : World} {A : Option Addr} {n : Nat} {l : List UInt8} (h : RB w A n l) (k : Nat) (hk : k ≤ n) : RB w A k (l.take k) := by
  refine ⟨by rw [List.length_take, h.1]; omega, fun h0 => ?_⟩
  obtain ⟨b, o, e, hc⟩ := h.2 (by omega)
  refine ⟨b, o, e, fun i hi => ?_⟩
  rw [hc i (by omega)]
  simp [hi]

/-- A cut of an owned slice's head. -/
theorem OB.drop {w : World} {B b o n c : Nat} {l : List UInt8} (h : OB w B (.slice (some ⟨b, o, none⟩) n c) l) (k : Nat) (hk : k ≤ l.length) :
    OB w B (.slice (some ⟨b, if c = k then o else o + k, none⟩) (n - k) (c - k)) (l.drop k) := by
  unfold OB at h ⊢
  refine ⟨by simp [bcells], .inr ?_⟩
  rcases h.2 with ⟨hv, _⟩ | ⟨g, o', cap, cur, hv, h2, h3, h4, h5, h6, h7⟩
  · cases hv
  · injection hv with hv e1 e2
    injection hv with hv
    injection hv with e3 e4 _
    subst e1; subst e2; subst e3; subst e4
    refine ⟨b, _, _, cur, by rw [List.length_drop], h2, h3, by rw [List.length_drop]; omega, by omega, ?_, ?_⟩
    · simp only [Nat.mul_one] at h6 ⊢
      split <;> omega
    · simp only [Nat.mul_one] at h7 ⊢
      have e : (bcells l).drop k = bcells (l.drop k) := by simp [bcells, List.map_drop]
      rw [← e, ← h7, List.length_drop]
      by_cases hck : c = k
      · rw [if_pos hck]
        have : l.length - k = 0 := by omega
        rw [this]
        have e0 : ((cur.toList.drop o).take l.length).drop k = [] := List.drop_eq_nil_of_le (by rw [List.length_take]; omega)
        rw [e0]
        simp
      · rw [if_neg hck, List.drop_take, List.drop_drop]

theorem cells8 {w : World} {g : Nat} {s : W8} {rv cv : Value} {T : TypeId} (h : w.heap[g]? = some (.cells (w32 s.list ++ [rv, cv]).toArray T (0, 0))) :
    w.cell? ⟨g, 8, none⟩ = some rv ∧ w.cell? ⟨g, 9, none⟩ = some cv ∧ ∀ j, w.frozen? ⟨g, j, none⟩ = false := by
  refine ⟨?_, ?_, fun j => frozen_of_row _ _ _ _ _ h⟩ <;> rw [cell_of_row _ _ _ _ _ _ h] <;> rfl
theorem set8 {w : World} {g : Nat} {s : W8} {rv cv : Value} {T : TypeId} (h : w.heap[g]? = some (.cells (w32 s.list ++ [rv, cv]).toArray T (0, 0))) (x : Value) :
    (w.setCell ⟨g, 8, none⟩ x).heap[g]? = some (.cells (w32 s.list ++ [x, cv]).toArray T (0, 0)) := heap_setCell_same _ _ _ _ _ _ h
theorem set9 {w : World} {g : Nat} {s : W8} {rv cv : Value} {T : TypeId} (h : w.heap[g]? = some (.cells (w32 s.list ++ [rv, cv]).toArray T (0, 0))) (x : Value) :
    (w.setCell ⟨g, 9, none⟩ x).heap[g]? = some (.cells (w32 s.list ++ [rv, x]).toArray T (0, 0)) := heap_setCell_same _ _ _ _ _ _ h

theorem RB.setOther {w : World} {A : Option Addr} {n : Nat} {l : List UInt8} (h : RB w A n l) {p : Addr} {v : Value} (hp : w.cell? p = some v) (hv : ∀ z : Int, v ≠ .int .u8 z) (x : Value) : RB (w.setCell p x) A n l := by
  refine ⟨h.1, fun hn => ?_⟩
  obtain ⟨b, o, e, hc⟩ := h.2 hn
  refine ⟨b, o, e, fun k hk => ?_⟩
  rw [World.cell?_setCell_other w p _ x (fun e => ?_)]
  · exact hc k hk
  · have := hc k hk
    first | (rw [← e, hp] at this; injection this with this; exact hv _ this) | (rw [e, hp] at this; injection this with this; exact hv _ this)

/-- At the head of Write's loop. -/
structure WriteInv (w : World) (B g : Nat) (ro : Option Nat) (K : Nat → UInt32) (s : W8) (all : List UInt8) (cn : Int) (wr : World) (s' : W8) (A : Option Addr) (cap : Nat) (l : List UInt8) : Prop where
  cells : wr.heap[g]? = some (.cells (w32 s'.list ++ [Value.slice A l.length cap, Value.int .i64 cn]).toArray 136 (0, 0))
  own : OB wr B (.slice A l.length cap) l
  row : (Value.slice A l.length cap).ownBlock = ro ∨ ∃ k, (Value.slice A l.length cap).ownBlock = some k ∧ w.heap.size ≤ k
  fr : Fr (fun k => k = g ∨ some k = ro) w wr
  same : blocks K s' l = blocks K s all

theorem WriteInv.ne {w wr : World} {B g : Nat} {ro : Option Nat} {K : Nat → UInt32} {s s' : W8} {all l : List UInt8} {cn : Int} {A : Option Addr} {cap : Nat} (h : WriteInv w B g ro K s all cn wr s' A cap l) : (Value.slice A l.length cap).ownBlock ≠ some g := by
  intro e
  have h1 := h.cells
  rcases h.own.2 with ⟨hv, _⟩ | ⟨g', o, cap, cur, hv, _, hh, _⟩
  · rw [hv] at e; simp [Value.ownBlock] at e
  · rw [hv] at e
    have : g' = g := by simpa [Value.ownBlock] using e
    subst this
    rw [h1] at hh
    injection hh with hh
    injection hh with _ hh
    exact absurd hh (by decide)

theorem WriteInv.step {w wr w' : World} {B g : Nat} {ro : Option Nat} {K : Nat → UInt32} {s s' : W8} {all l : List UInt8} {cn : Int} {b o : Nat} {cap : Nat} (h : WriteInv w B g ro K s all cn wr s' (some ⟨b, o, none⟩) cap l) (h64 : 64 ≤ l.length)
    (hf : Fr (· = g) wr.drew w') (hg : w'.heap[g]? = some (.cells (w32 (compress K s' (l.take 64)).list ++ [Value.slice (some ⟨b, o, none⟩) l.length cap, Value.int .i64 cn]).toArray 136 (0, 0))) :
    WriteInv w B g ro K s all cn (w'.setCell ⟨g, 8, none⟩ (.slice (some ⟨b, if cap = 64 then o else o + 64, none⟩) (l.length - 64) (cap - 64))) (compress K s' (l.take 64)) (some ⟨b, if cap = 64 then o else o + 64, none⟩) (cap - 64) (l.drop 64) := by
  refine ⟨?_, ?_, h.row, ((h.fr.drew).trans hf (fun i _ hi => .inl hi)).setCell (fun _ => .inl rfl) _, ?_⟩
  · rw [List.length_drop]
    exact set8 hg _
  · rw [List.length_drop]
    refine OB.drop (OB.keepB h.own fun k hk => ?_) 64 h64
    have hkg : k ≠ g := by rintro rfl; exact h.ne hk
    exact (heap_setCell_other _ _ _ _ hkg).trans (hf.block k (h.own.lt k hk).2 hkg)
  · rw [← h.same, ← blocks_step K s' l h64]

set_option maxHeartbeats 1000000 in
set_option maxRecDepth 100000 in
theorem Write_any (g n c B : Nat) (A : Option Addr) (ro : Option Nat) (K : Nat → UInt32) (s : W8) (rest b : List UInt8) (cnt : Nat) (w : World) (hh : HashAt w B g ro s rest cnt) (hb : RB w A n b) (hK : KCells w K)
    (hKB : 29 < B) (hlen : rest.length + b.length ≤ 1099511627776) (hcnt : cnt + b.length ≤ 1099511627776) :
    Calls Tryd.prog 79 #[.pointer (some ⟨g, 0, none⟩), .slice A n c] w fun e w' => e = .returned (.tuple #[]) ∧ Fr (fun k => k = g ∨ some k = ro) w w' ∧
      ∃ ro', HashAt w' B g ro' (blocks K s (rest ++ b)).1 (blocks K s (rest ++ b)).2 (cnt + b.length) ∧ (ro' = ro ∨ ∃ k, ro' = some k ∧ w.heap.size ≤ k) := by
  have hbl := hb.1
  have hne := hh.ne
  have hgl := hh.lt
  obtain ⟨hlow, rv, hcs, hown, hro⟩ := hh
  have Hro := Lib.hid hro
  clear hro
  obtain ⟨A0, cap0, hv0, _, _, _⟩ := hown.form
  obtain ⟨e8, e9, ef⟩ := cells8 hcs
  have f8 := ef 8
  have f9 := ef 9
  have Hown := Lib.hid hown
  have Hcs := Lib.hid hcs
  have Hb := Lib.hid hb
  have HK := Lib.hid hK
  have Hbl := Lib.hid hbl
  have Hne := Lib.hid hne
  clear hcs hown hb hK hbl ef hne
  rw [hv0] at e8
  have hw1 : IntKind.i64.wrap ((cnt : Int) + (n : Int)) = ((cnt + n : Nat) : Int) := by
    have := Hbl.out
    rw [IntWalk.i64_in _ (by omega)]; omega
  have HownA := Lib.hid (show ∀ x, OB (w.setCell ⟨g, 9, none⟩ x) B rv rest from fun x => Hown.out.keepB fun k hk => heap_setCell_other _ _ _ _ (by rintro rfl; exact Hne.out (Hro.out.symm.trans hk)))
  have HbA := Lib.hid (show ∀ x, RB (w.setCell ⟨g, 9, none⟩ x) A n b from fun x => Hb.out.setOther e9 (by intro z; simp) x)
  have HL := Lib.hid (show rest.length + b.length ≤ 140737488355328 by omega)
  have HB := Lib.hid (show B ≤ w.heap.size by omega)
  rw [hv0] at Hcs Hown HownA Hro
  have HneA : Hid ((Value.slice A0 rest.length cap0).ownBlock ≠ some g) := by rw [Hro.out]; exact Hne
  go_enter Tryd.func79, Tryd.ntmps79
  go_wp2_with (at_builtin; refine wpList_append_b rfl (.tmp 17) (.tmp 18) 31 rfl (HownA.out _) rfl (RB.src Tryd.underlying31 (HbA.out _)) rfl HL.out (by simp; exact HB.out) ?_; intro v2 w2 hown2 hgr2 hat2; obtain ⟨A2, cap2, hv2, hc2, hm2, hr2⟩ := hown2.form; subst hv2; have hg2 := (hgr2.block g (by simp; exact hgl) (fun e => HneA.out e.symm)).trans (set9 Hcs.out _); have e82 := (cells8 hg2).1; have f82 := (cells8 hg2).2.2 8; have HG2 := Lib.hid hg2; have Hown2 := Lib.hid hown2; have Hgr2 := Lib.hid hgr2; have Hat2 := Lib.hid hat2; clear hg2 hown2 hgr2 hat2 hr2)
  go_loopg [] (rest ++ b).length (fun k wr => ∃ s' A' cap' l', l'.length = k ∧ WriteInv w B g ro K s (rest ++ b) ((cnt : Int) + (n : Int)) wr s' A' cap' l')
  case atStart =>
    refine ⟨s, A2, cap2, rest ++ b, rfl, ⟨?_, ?_, ?_, ?_, rfl⟩⟩
    · have := set8 HG2.out (.slice A2 (rest.length + b.length) cap2)
      rw [List.length_append]
      exact this
    · rw [List.length_append]
      have := Hown2.out
      rw [List.length_append] at this
      refine this.keepB fun k hk => heap_setCell_other _ _ _ _ ?_
      rintro rfl
      rcases Hat2.out with h | h <;> rw [List.length_append] at h
      · rw [h] at hk; exact HneA.out hk
      · rw [h] at hk; simp at hk; omega
    · rw [List.length_append]
      rcases Hat2.out with h | h <;> rw [List.length_append] at h
      · exact .inl (h.trans Hro.out)
      · exact .inr ⟨_, h, Nat.le_of_eq (by simp)⟩
    · refine Fr.setCell ?_ (fun _ => .inl rfl) _
      refine Fr.trans (S := fun k => k = g ∨ some k = ro) ((Fr.refl _ w).setCell (fun _ => .inl rfl) _) (Fr.of_grown Hgr2.out) ?_
      intro i _ hi
      exact .inr (hi.trans Hro.out)
  case round =>
    obtain ⟨s', A', cap', l', hk, hI⟩ := hrel
    subst hk
    obtain ⟨e8, e9, ef⟩ := cells8 hI.cells
    have f8 := ef 8
    have f9 := ef 9
    have HI := Lib.hid hI
    obtain ⟨_, _, hvv, hcap, hcm, hrb⟩ := hI.own.form
    injection hvv with hv1 _ hv2
    subst hv1; subst hv2
    have Hrb := Lib.hid hrb
    clear hI ef hrb
    unfold maxLen at hcm
    by_cases h64 : 64 ≤ l'.length
    · obtain ⟨b1, o1, rfl, hcell⟩ := Hrb.out.2 (by omega)
      have Hcell := Lib.hid hcell
      clear hcell
      have hcI : (64 : Int) ≤ (cap' : Int) := by omega
      have hlI : (64 : Int) ≤ (l'.length : Int) := by omega
      have hlc : (l'.length : Int) ≤ (cap' : Int) := by omega
      have HK2 : Hid (KCells wr K) := by
        intro k hk
        refine (HI.out.fr.cell (by show 29 < _; have := HB.out; omega) ?_).trans (HK.out k hk)
        rintro (h | h)
        · have h' : 29 = g := h
          omega
        · have := (Hown.out.lt _ (Hro.out.trans h.symm)).1
          have h' : 29 < B := hKB
          exact absurd this (by show ¬ B ≤ 29; omega)
      go_wp2_with fail
      refine wp_region_still_tail 8 (by kernel_rfl) (by kernel_rfl) ?_
      simp only [List.take_succ_cons, List.take_zero, List.drop_succ_cons, List.drop_zero]
      repeat still_step
      refine wpStill_nil ?_
      change wpList _ _ _ _ _ wr.drew
      go_wp2_with (first | (go_at_call 82; refine (take_any g b1 o1 cap' s' (.slice (some ⟨b1, o1, none⟩) l'.length cap') (.int .i64 ((cnt : Int) + (n : Int))) 136 K (l'.take 64) wr.drew (fun k hk => ?_) HK2.out HI.out.cells).mono ?_; rotate_left; rintro e w' ⟨rfl, hfr3, hg3⟩; have e83 := (cells8 hg3).1; have f83 := (cells8 hg3).2.2 8; have HG3 := Lib.hid hg3; have Hfr3 := Lib.hid hfr3; clear hg3 hfr3) | fail)
      case refine_1 =>
        rw [show (l'.take 64).getD k 0 = l'.getD k 0 by simp [hk]]
        exact Hcell.out k (by omega)
      · go_roundg (l'.length - 64)
        case measure => omega
        case rel =>
          have h2 := HI.out.step h64 Hfr3.out HG3.out
          have hc64 : cap' = 64 := by assumption
          subst hc64
          rw [if_pos rfl] at h2
          exact ⟨_, _, _, l'.drop 64, by simp, h2⟩
      · rename_i hne64
        go_roundg (l'.length - 64)
        case measure => omega
        case rel =>
          have h2 := HI.out.step h64 Hfr3.out HG3.out
          have hne' : cap' ≠ 64 := by omega
          rw [if_neg hne'] at h2
          exact ⟨_, _, _, l'.drop 64, by simp, h2⟩
    · go_wp2
      go_end0
      have hb := blocks_short K s' l' (by omega)
      refine ⟨rfl, HI.out.fr, (Value.slice A' l'.length cap').ownBlock, ?_, HI.out.row⟩
      rw [← HI.out.same, hb]
      refine ⟨hlow, _, ?_, HI.out.own, rfl⟩
      have := HI.out.cells
      rw [Hbl.out, Int.natCast_add]
      exact this
end Go.Proofs.YtjodehdmafagoaaDoor
