/- disk: is, New, unit, Size, Free, Read. -/
import Derived.Test.YtgiaifglkecdjaaDoorDiskAt
import Derived.Test.YtgiaifglkecdjaaDoorIs
namespace Go.Proofs.YtgiaifglkecdjaaDoor
open Go.RowKit

/-- The errors that a disk answers. -/
structure DErrs (w : World) (ea : Nat → Addr) : Prop where
  range : w.cell? ⟨1, 0, none⟩ = some (.iface 221 (.pointer (some (ea 1))))
  down : w.cell? ⟨24, 0, none⟩ = some (.iface 221 (.pointer (some (ea 25))))
  full : w.cell? ⟨25, 0, none⟩ = some (.iface 221 (.pointer (some (ea 26))))
theorem DErrs.keep {w w' : World} {ea : Nat → Addr} (h : DErrs w ea) (k : Keeps w w') : DErrs w' ea := ⟨k _ _ h.range, k _ _ h.down, k _ _ h.full⟩
theorem DErrs.fr {w w' : World} {ea : Nat → Addr} {S : Nat → Prop} (h : DErrs w ea) (hf : Fr S w w') (hs : ∀ k, S k → 26 ≤ k) : DErrs w' ea :=
  ⟨fr_cell2 hf (fun e => by have := hs _ e; omega) h.range, fr_cell2 hf (fun e => by have := hs _ e; omega) h.down, fr_cell2 hf (fun e => by have := hs _ e; omega) h.full⟩

theorem is_any (area : Int) (w : World) : Calls Tryd.prog 74 #[.int .i64 area] w fun e w' => e = .returned (.bool (decide (0 ≤ area ∧ area < 3))) ∧ w = w' := by
  by_cases h1 : 0 ≤ area
  · have q1 : decide (0 ≤ area) = true := decide_eq_true h1
    by_cases h2 : area < 3
    · have q2 : decide (area < 3) = true := decide_eq_true h2
      have HD : Hid (decide (0 ≤ area ∧ area < 3) = true) := Lib.hid (decide_eq_true ⟨h1, h2⟩)
      clear h1 h2
      go_enter Tryd.func74, Tryd.ntmps74
      go_wp2
      go_ret
      exact ⟨ret_bool HD.out.symm, rfl⟩
    · have q2 : decide (area < 3) = false := decide_eq_false h2
      have HD : Hid (decide (0 ≤ area ∧ area < 3) = false) := Lib.hid (decide_eq_false fun h => h2 h.2)
      clear h1 h2
      go_enter Tryd.func74, Tryd.ntmps74
      go_wp2
      go_ret
      exact ⟨ret_bool HD.out.symm, rfl⟩
  · have q1 : decide (0 ≤ area) = false := decide_eq_false h1
    have HD : Hid (decide (0 ≤ area ∧ area < 3) = false) := Lib.hid (decide_eq_false fun h => h1 h.1)
    clear h1
    go_enter Tryd.func74, Tryd.ntmps74
    go_wp2
    go_ret
    exact ⟨ret_bool HD.out.symm, rfl⟩

theorem DNew_any (room : Int) (w : World) (h0 : 0 ≤ room) (h1 : room ≤ 1048576) : Calls Tryd.prog 21 #[.int .i64 room] w fun e w' => e = .returned (.tuple #[.pointer (some ⟨w.heap.size, 0, none⟩), .nilIface]) ∧
    DiskAt w' (fun k => k = w.heap.size) w.heap.size ⟨room, fun _ => [], [], false, 0, false⟩ ∧ Below w.heap.size w w' := by
  have q1 : decide (room < 0) = false := decide_eq_false (by omega)
  have q2 : decide (1048576 < room) = false := decide_eq_false (by omega)
  go_enter Tryd.func21, Tryd.ntmps21
  go_wp2
  go_ret2
  refine ⟨rfl, ⟨fun _ => .slice none 0 0, .slice none 0 0, [], ?_⟩, (Below.refl _ w).alloc (Nat.le_refl _) _⟩
  exact ⟨heap_alloc_new w _, fun _ _ => OB.nil _ _, OwnS.nil _ _ _ _, rfl, by simp, fun i j _ _ _ k hk => (by cases hk), by simp, rfl, fun i _ k hk => (by cases hk), fun k hk => (by cases hk), by simp⟩

section
variable {w : World} {O : Nat → Prop} {g : Nat} {m : DM} {bv : Nat → Value} {wv : Value} {ws : List (DChg × Value)}

theorem Size_out (area : Int) (w : World) (g : Nat) (hr : ¬ (0 ≤ area ∧ area < 3)) : Calls Tryd.prog 27 #[.pointer (some ⟨g, 0, none⟩), .int .i64 area] w fun e w' => e = .returned (.int .i64 0) ∧ w = w' := by
  have HD : Hid (decide (0 ≤ area ∧ area < 3) = false) := Lib.hid (decide_eq_false hr)
  clear hr
  go_enter Tryd.func27, Tryd.ntmps27
  go_wp2_with (go_at_call 74; refine (is_any _ _).mono ?_; rw [HD.out]; rintro e w' ⟨rfl, rfl⟩)
  go_ret
  exact ⟨rfl, rfl⟩

theorem Size_in (a : Nat) (ha : a < 3) (h : DiskV w O g m bv wv ws) : Calls Tryd.prog 27 #[.pointer (some ⟨g, 0, none⟩), .int .i64 (a : Int)] w fun e w' => e = .returned (.int .i64 ((m.b (3 + a)).length : Int)) ∧ w = w' := by
  have HD : Hid (decide (0 ≤ (a : Int) ∧ (a : Int) < 3) = true) := Lib.hid (decide_eq_true (by omega))
  obtain ⟨A, c, e1, h1, h2⟩ := h.lenB (i := 3 + a) (by omega)
  have hd := DiskV.dcell m bv wv (j := 3 + a) (by omega)
  rw [e1] at hd
  have c0 : w.cell? ⟨g, 4 + a, none⟩ = some (.slice A (m.b (3 + a)).length c) := by rw [h.cell, show 4 + a = 1 + (3 + a) by omega]; exact hd
  have a0 : (0 : Int) ≤ (a : Int) := by omega
  have a1 : (a : Int) < 3 := by omega
  clear h hd e1
  go_enter Tryd.func27, Tryd.ntmps27
  go_wp2_with (go_at_call 74; refine (is_any _ _).mono ?_; rw [HD.out]; rintro e w' ⟨rfl, rfl⟩)
  go_ret
  exact ⟨rfl, rfl⟩

theorem Free_any (hok : m.Ok) (h : DiskV w O g m bv wv ws) : Calls Tryd.prog 28 #[.pointer (some ⟨g, 0, none⟩)] w fun e w' => e = .returned (.int .i64 m.free) ∧ w = w' := by
  obtain ⟨A0, k0, e0, _, _⟩ := h.lenB (i := 3) (by omega)
  obtain ⟨A1, k1, e1, _, _⟩ := h.lenB (i := 4) (by omega)
  obtain ⟨A2, k2, e2, _, _⟩ := h.lenB (i := 5) (by omega)
  have c0 : w.cell? ⟨g, 0, none⟩ = some (.int .i64 m.room) := h.cell 0
  have c4 : w.cell? ⟨g, 4, none⟩ = some (.slice A0 (m.b 3).length k0) := by rw [h.cell]; show some (bv 3) = _; rw [e0]
  have c5 : w.cell? ⟨g, 5, none⟩ = some (.slice A1 (m.b 4).length k1) := by rw [h.cell]; show some (bv 4) = _; rw [e1]
  have c6 : w.cell? ⟨g, 6, none⟩ = some (.slice A2 (m.b 5).length k2) := by rw [h.cell]; show some (bv 5) = _; rw [e2]
  have r0 := hok.room0
  have r1 := hok.room1
  have l3 := hok.len 3 (by omega)
  have l4 := hok.len 4 (by omega)
  have l5 := hok.len 5 (by omega)
  have HF : Hid (m.free = m.room - ((m.b 3).length : Int) - ((m.b 4).length : Int) - ((m.b 5).length : Int)) := Lib.hid rfl
  rw [HF.out]
  clear h hok e0 e1 e2 HF
  generalize (m.b 3).length = n3 at *
  generalize (m.b 4).length = n4 at *
  generalize (m.b 5).length = n5 at *
  generalize m.room = rm at *
  go_enter Tryd.func28, Tryd.ntmps28
  go_wp2
  refine wp_loop_rounds 4 ?_
  iterate 4
    rw [rounds_succ]
    go_wp2
  go_ret
  exact ⟨rfl, rfl⟩
end
end Go.Proofs.YtgiaifglkecdjaaDoor
