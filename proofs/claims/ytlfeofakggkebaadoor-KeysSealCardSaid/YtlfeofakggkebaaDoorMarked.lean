/- bullanum.Bytes, bullanum.Kept: a copy with marked room behind. -/
import Derived.Test.YtlfeofakggkebaaDoorText
import Derived.Laws.MakeOwn
namespace Go.Proofs.YtlfeofakggkebaaDoor
open Go.RowKit

def marks : List UInt8 := [201, 202, 203, 204, 205, 206]
/-- A copy with marked room behind. -/
def Mk (w : World) (v : Value) (l : List UInt8) : Prop := ∃ A cap, v = .slice A l.length cap ∧ l.length + 6 ≤ cap ∧ cap ≤ maxLen ∧ RB w A (l.length + 6) (l ++ marks)
theorem Mk.keep {w w' : World} {v : Value} {l : List UInt8} (h : Mk w v l) (k : Keeps w w') : Mk w' v l :=
  let ⟨A, cap, h1, h2, h3, h4⟩ := h; ⟨A, cap, h1, h2, h3, h4.keep k⟩
theorem RB.front {w : World} {A : Option Addr} {n m : Nat} {l r : List UInt8} (h : RB w A m (l ++ r)) (hl : l.length = n) : RB w A n l := by
  refine ⟨hl, fun hn => ?_⟩
  have hm := h.1
  rw [List.length_append] at hm
  obtain ⟨b, o, e, hc⟩ := h.2 (by omega)
  refine ⟨b, o, e, fun k hk => ?_⟩
  rw [hc k (by omega)]
  simp only [List.getD_eq_getElem?_getD]
  rw [List.getElem?_append_left (by omega)]
theorem Mk.sb {w : World} {v : Value} {l : List UInt8} (h : Mk w v l) : SB w v l := by
  obtain ⟨A, cap, rfl, h1, h2, h3⟩ := h
  exact SB.of_rb (h3.front rfl) (by omega) h2

set_option maxRecDepth 100000 in
theorem Bytes_any (A : Option Addr) (n c : Nat) (l : List UInt8) (w : World) (hb : RB w A n l) (hn : n ≤ 1000000) :
    Calls Tryd.prog 11 #[.slice A n c] w fun e w' => ∃ v, e = .returned v ∧ Mk w' v l ∧ Below w.heap.size w w' ∧ ∀ q, v.ownBlock = some q → w.heap.size ≤ q ∧ q < w'.heap.size := by
  have Hb := Lib.hid hb
  have Hl := Lib.hid hb.1
  clear hb
  obtain ⟨i0, hi, hz0, hz1, hz2⟩ := info_parts info_u8
  have hmk : ∀ W, (Instr.makeSlice 22 (.int .i64 0) (.int .i64 ((n : Int) + 6))).run Tryd.prog W = .ok (.slice (some ⟨W.heap.size, 0, none⟩) 0 (n + 6)) (W.alloc (.cells (madeCells (Value.int .u8 0).cells (n + 6)) 5)) := fun W => by
    have h := run_make (P := Tryd.prog) W 22 5 i0 _ Tryd.underlying22 hi hz0 .i64 .i64 0 ((n : Int) + 6) (by omega) (by omega) (by rw [hz2]; omega) (by omega)
    rw [hz1, Nat.mul_one, show ((n : Int) + 6).toNat = n + 6 by omega] at h
    exact h
  have Hown0 : Hid (OB (w.alloc (.cells (madeCells (Value.int .u8 0).cells (n + 6)) 5)) w.heap.size (.slice (some ⟨w.heap.size, 0, none⟩) 0 (n + 6)) []) := by
    have h := OwnS.made (w := w.alloc (.cells (madeCells (Value.int .u8 0).cells (n + 6)) 5)) (base := w.heap.size) (n := w.heap.size) (e := 5) (size := 1) (Nat.le_refl _) (g := w.heap.size) (cap := n + 6) (len := 0) (heap_alloc_new w _) rfl (by omega) (by unfold maxLen; omega) (by simp [madeCells])
    rw [Nat.zero_mul, List.take_zero] at h
    exact h
  go_enter Tryd.func11, Tryd.ntmps11
  go_wp2_with (first
    | (at_builtin; refine wpList_append_b rfl (.tmp 7) (.tmp 8) 22 rfl Hown0.out rfl (RB.src Tryd.underlying22 (Hb.out.keep (Keeps.of_below ((Below.refl _ w).alloc (Nat.le_refl _) _)))) rfl (by have := Hl.out; simp; omega) (by simp) ?_; intro v1 w1 hown1 hgr1 hat1; rw [List.nil_append] at hown1; have Hown1 := Lib.hid hown1; have Hgr1 := Lib.hid hgr1; have Hs1 := Lib.hid (show w.heap.size + 1 ≤ w1.heap.size by have := hgr1.size; simpa using this); clear hown1 hgr1 hat1)
    | (at_builtin; refine wpList_append_b rfl (.tmp 9) (.tmp 10) 22 rfl (Hown1.out.alloc _) rfl (Src.lit w1 _ marks rfl 6 6 rfl) rfl (by have := Hl.out; simp [marks]; omega) (by have := Hs1.out; simp; omega) ?_; intro v2 w2 hown2 hgr2 hat2; have Hown2 := Lib.hid hown2; have Hgr2 := Lib.hid hgr2; have hform := hown2.form; clear hown2 hgr2 hat2; obtain ⟨A2, cap2, hv2, hc2, hm2, hr2⟩ := hform; rw [show (l ++ marks).length = n + 6 by rw [List.length_append, Hl.out]; rfl] at hv2 hc2; subst hv2; have Hr2 := Lib.hid hr2; clear hr2)
    | fail)
  go_ret
  refine ⟨.slice A2 n cap2, rfl, ⟨A2, cap2, by rw [Hl.out], by rw [Hl.out]; exact hc2, hm2, ?_⟩, ?_, fun q hq => Hown2.out.lt q (by cases A2 <;> exact hq)⟩
  · have h := Hr2.out
    rw [List.length_append] at h
    exact h
  · have h1 := below_append ((Below.refl _ w).alloc (Nat.le_refl _) _) Hgr1.out Hown0.out (Nat.le_refl _) (by simp)
    exact below_append (h1.alloc h1.size _) Hgr2.out (Hown1.out.alloc _) (Nat.le_refl _) (by have := Hs1.out; simp; omega)

theorem marks_get (l : List UInt8) (n i : Nat) (hl : l.length = n) (hi : i < 6) : (((l ++ marks).getD (n + i) 0).toNat : Int) = 201 + (i : Int) := by
  rw [List.getD_eq_getElem?_getD, List.getElem?_append_right (by omega), show n + i - l.length = i by omega]
  have h : i = 0 ∨ i = 1 ∨ i = 2 ∨ i = 3 ∨ i = 4 ∨ i = 5 := by omega
  rcases h with rfl | rfl | rfl | rfl | rfl | rfl <;> rfl

set_option maxRecDepth 100000 in
theorem Kept_any (b o : Nat) (B : Option Addr) (n cap d : Nat) (l : List UInt8) (w : World) (ha : RB w (some ⟨b, o, none⟩) (n + 6) (l ++ marks)) (hb : RB w B n l) (hcap : n + 6 ≤ cap) (hmax : cap ≤ maxLen) (hn : n ≤ 1000000) :
    Calls Tryd.prog 15 #[.slice (some ⟨b, o, none⟩) n cap, .slice B n d] w fun e w' => e = .returned (.bool true) ∧ ∃ k, w' = w.drewN k := by
  unfold maxLen at hmax
  have Hl := Lib.hid hb.1
  have hf := ha.front hb.1
  have hc : ∀ i, i < 6 → w.cell? ⟨b, o + (n + i), none⟩ = some (.int .u8 (201 + (i : Int))) := fun i hi => by
    obtain ⟨b', o', e, hc⟩ := ha.2 (by omega)
    injection e with e
    injection e with e1 e2
    subst e1; subst e2
    rw [hc (n + i) (by omega), marks_get l n i hb.1 hi]
  have Hc := Lib.hid hc
  have ca := fun q => run_bytes_string (P := Tryd.prog) Tryd.underlying22 Tryd.underlying5 Tryd.underlying9 (c := cap) (hf.keep (Keeps.drewN w q))
  have cb := fun q => run_bytes_string (P := Tryd.prog) Tryd.underlying22 Tryd.underlying5 Tryd.underlying9 (c := d) (hb.keep (Keeps.drewN w q))
  have sl := str_list l
  have hlt : decide ((cap : Int) < (n : Int) + 6) = false := decide_eq_false (by omega)
  have n0 : (0 : Int) ≤ (n : Int) := by omega
  have n1 : (n : Int) ≤ (cap : Int) := by omega
  have n2 : IntKind.i64.wrap ((n : Int) + 6) = (n : Int) + 6 := IntWalk.i64_in _ (by omega)
  clear ha hb hc hf
  go_enter Tryd.func15, Tryd.ntmps15
  go_wp2_with fail
  go_quiet (fail)
  go_wp2_with fail
  go_loop [6] (fun i => ∃ k : Nat, k ≤ 6 ∧ i = .int .i64 (k : Int)) (fun i => 6 - (intOf i).toNat)
  case atStart => exact ⟨0, by omega, rfl⟩
  case round =>
    obtain ⟨k, hk, rfl⟩ := hrel
    by_cases hlt6 : k < 6
    · have c0 : (w.drewN nq).cell? ⟨b, o + (n + k), none⟩ = some (.int .u8 (201 + (k : Int))) := Hc.out k hlt6
      have k0 : (0 : Int) ≤ (n : Int) + (k : Int) := by omega
      have k1 : (n : Int) + (k : Int) < (cap : Int) := by omega
      go_wp2
      go_round
      case rel => exact ⟨k + 1, by omega, by go_num⟩
      case measure => simp [intOf]; omega
    · obtain rfl : k = 6 := by omega
      go_wp2
      go_ret
      exact ⟨rfl, _, rfl⟩
end Go.Proofs.YtlfeofakggkebaaDoor
