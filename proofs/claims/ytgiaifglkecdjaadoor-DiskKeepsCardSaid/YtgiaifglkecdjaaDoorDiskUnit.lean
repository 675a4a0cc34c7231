/- disk: unit, Read. -/
import Derived.Test.YtgiaifglkecdjaaDoorDiskOps
namespace Go.Proofs.YtgiaifglkecdjaaDoor
open Go.RowKit
section
variable {w : World} {O : Nat → Prop} {g : Nat} {m : DM} {bv : Nat → Value} {wv : Value} {ws : List (DChg × Value)} {ea : Nat → Addr}

theorem DiskV.row (h : DiskV w O g m bv wv ws) (k : Nat) (x : Value) : (w.setCell ⟨g, k, none⟩ x).heap[g]? = some (.cells ((dcells m bv wv).setIfInBounds k x) 133 (0, 0)) := heap_setCell_same _ _ _ _ _ _ h.cells

/-- A unit that is not there: the disk is gone. -/
theorem unit_dead (h : DiskV w O g m bv wv ws) (hE : DErrs w ea) (hd : m.dead = true) (hg : 26 ≤ g) : Calls Tryd.prog 77 #[.pointer (some ⟨g, 0, none⟩)] w fun e w' => e = .returned (.iface 221 (.pointer (some (ea 25)))) ∧ DiskV w' O g m.unit bv wv ws ∧ Fr (fun k => k = g) w w' := by
  obtain ⟨room, b, waits, armed, left, gone⟩ := m
  have H := Lib.hid h
  have c8 : w.cell? ⟨g, 8, none⟩ = some (.bool armed) := h.cell 8
  have c9 : w.cell? ⟨g, 9, none⟩ = some (.int .i64 left) := h.cell 9
  have c10 : w.cell? ⟨g, 10, none⟩ = some (.bool gone) := h.cell 10
  have f10 := h.free 10
  have e0 := hE.down
  have e1 : (w.setCell ⟨g, 10, none⟩ (.bool true)).cell? ⟨24, 0, none⟩ = some (.iface 221 (.pointer (some (ea 25)))) := by rw [World.cell?_of_block (Below.heap_setCell w ⟨g, 10, none⟩ _ _ (by show (24 : Nat) ≠ g; omega))]; exact e0
  have HU : Hid ((DM.unit ⟨room, b, waits, armed, left, gone⟩) = ⟨room, b, waits, armed, left, true⟩) := Lib.hid (by unfold DM.unit; rw [if_pos hd])
  have HC : Hid (armed = true ∧ left = 0 ∨ gone = true ∧ (armed = false ∨ left ≠ 0)) := Lib.hid (by
    unfold DM.dead at hd
    by_cases e : armed = true ∧ left = 0
    · exact .inl e
    · refine .inr ⟨?_, ?_⟩
      · cases gone
        · cases armed
          · simp at hd
          · simp at hd; simp at e; exact absurd hd e
        · rfl
      · cases armed
        · exact .inl rfl
        · exact .inr fun h => e ⟨rfl, h⟩)
  clear h hE hd
  rcases HC.out with ⟨rfl, rfl⟩ | ⟨rfl, hc⟩
  · clear HC e0
    go_enter Tryd.func77, Tryd.ntmps77
    go_wp2
    go_ret
    rw [HU.out]
    have hf := (Fr.refl (fun k => k = g) w).setCell (p := ⟨g, 10, none⟩) (fun _ => rfl) (.bool true)
    exact ⟨rfl, H.out.turn hf (H.out.row 10 _) rfl rfl, hf⟩
  · clear HC e1 f10
    by_cases ha : armed = true
    · subst ha
      have h0 : (left == 0) = false := by rcases hc with h | h; · cases h
                                          · simpa using h
      have h1 : decide (left = 0) = false := by simpa using h0
      clear hc
      go_enter Tryd.func77, Tryd.ntmps77
      go_wp2
      go_ret
      rw [HU.out]
      exact ⟨rfl, H.out, Fr.refl _ _⟩
    · have ha : armed = false := by simpa using ha
      subst ha
      clear hc
      go_enter Tryd.func77, Tryd.ntmps77
      go_wp2
      go_ret
      rw [HU.out]
      exact ⟨rfl, H.out, Fr.refl _ _⟩

theorem unit_live (h : DiskV w O g m bv wv ws) (hd : m.dead = false) (h0 : 0 ≤ m.left) (h1 : m.left ≤ 9223372036854775807) : Calls Tryd.prog 77 #[.pointer (some ⟨g, 0, none⟩)] w fun e w' => e = .returned .nilIface ∧ DiskV w' O g m.unit bv wv ws ∧ Fr (fun k => k = g) w w' := by
  obtain ⟨room, b, waits, armed, left, gone⟩ := m
  have H := Lib.hid h
  have c8 : w.cell? ⟨g, 8, none⟩ = some (.bool armed) := h.cell 8
  have c9 : w.cell? ⟨g, 9, none⟩ = some (.int .i64 left) := h.cell 9
  have c10 : w.cell? ⟨g, 10, none⟩ = some (.bool gone) := h.cell 10
  have f9 := h.free 9
  have hg : gone = false := by
    cases gone
    · rfl
    · simp [DM.dead] at hd
  subst hg
  have HD := Lib.hid hd
  have HU : Hid ((DM.unit ⟨room, b, waits, armed, left, false⟩) = ⟨room, b, waits, armed, if armed then left - 1 else left, false⟩) := Lib.hid (by
    unfold DM.unit
    rw [hd]
    cases armed <;> rfl)
  clear h
  cases armed
  · clear hd f9
    go_enter Tryd.func77, Tryd.ntmps77
    go_wp2
    go_ret
    rw [HU.out]
    exact ⟨rfl, H.out, Fr.refl _ _⟩
  · simp [DM.dead] at hd
    have q0 : (left == 0) = false := by simpa using hd
    have q1 : decide (left = 0) = false := by simpa using hd
    have q2 : 0 ≤ left - 1 := by change 0 ≤ left at h0; omega
    change 0 ≤ left at h0
    change left ≤ _ at h1
    clear hd
    go_enter Tryd.func77, Tryd.ntmps77
    go_wp2
    go_ret
    rw [HU.out]
    have hf := (Fr.refl (fun k => k = g) w).setCell (p := ⟨g, 9, none⟩) (fun _ => rfl) (.int .i64 (left - 1))
    exact ⟨rfl, H.out.turn hf (H.out.row 9 _) rfl rfl, hf⟩

theorem Read_out (area : Int) (hE : DErrs w ea) (g : Nat) (hr : ¬ (0 ≤ area ∧ area < 3)) : Calls Tryd.prog 25 #[.pointer (some ⟨g, 0, none⟩), .int .i64 area] w fun e w' => e = .returned (.tuple #[.slice none 0 0, .iface 221 (.pointer (some (ea 1)))]) ∧ ∃ k, w' = w.drewN k := by
  have HD : Hid (decide (0 ≤ area ∧ area < 3) = false) := Lib.hid (decide_eq_false hr)
  have e1 := hE.range
  clear hr hE
  go_enter Tryd.func25, Tryd.ntmps25
  go_wp2_with (go_at_call 74; refine (is_any _ _).mono ?_; rw [HD.out]; rintro e w' ⟨rfl, rfl⟩)
  go_quiet (fail)
  go_wp2
  go_ret2
  exact ⟨rfl, ⟨_, rfl⟩⟩

theorem Read_gone (a : Nat) (ha : a < 3) (hE : DErrs w ea) (h : DiskV w O g m bv wv ws) (hg : m.gone = true) : Calls Tryd.prog 25 #[.pointer (some ⟨g, 0, none⟩), .int .i64 (a : Int)] w fun e w' => e = .returned (.tuple #[.slice none 0 0, .iface 221 (.pointer (some (ea 25)))]) ∧ ∃ k, w' = w.drewN k := by
  have HD : Hid (decide (0 ≤ (a : Int) ∧ (a : Int) < 3) = true) := Lib.hid (decide_eq_true (by omega))
  have e1 := hE.down
  have c10 : w.cell? ⟨g, 10, none⟩ = some (.bool m.gone) := h.cell 10
  rw [hg] at c10
  clear hE h hg ha
  go_enter Tryd.func25, Tryd.ntmps25
  go_wp2_with (go_at_call 74; refine (is_any _ _).mono ?_; rw [HD.out]; rintro e w' ⟨rfl, rfl⟩)
  go_quiet (fail)
  go_wp2
  go_ret2
  exact ⟨rfl, ⟨_, rfl⟩⟩

theorem Read_in (a : Nat) (ha : a < 3) (h : DiskV w O g m bv wv ws) (hg : m.gone = false) (hl : (m.b (3 + a)).length ≤ 1048576) : Calls Tryd.prog 25 #[.pointer (some ⟨g, 0, none⟩), .int .i64 (a : Int)] w fun e w' => ∃ v, e = .returned (.tuple #[v, .nilIface]) ∧ OB w' w.heap.size v (m.b (3 + a)) ∧ Below w.heap.size w w' := by
  have HD : Hid (decide (0 ≤ (a : Int) ∧ (a : Int) < 3) = true) := Lib.hid (decide_eq_true (by omega))
  have c10 : w.cell? ⟨g, 10, none⟩ = some (.bool m.gone) := h.cell 10
  rw [hg] at c10
  obtain ⟨A, c, e1, h1, h2, hr⟩ := (h.areas (3 + a) (by omega)).form
  have hd := DiskV.dcell m bv wv (j := 3 + a) (by omega)
  rw [e1] at hd
  have c0 : w.cell? ⟨g, 4 + a, none⟩ = some (.slice A (m.b (3 + a)).length c) := by rw [h.cell, show 4 + a = 1 + (3 + a) by omega]; exact hd
  have a0 : (0 : Int) ≤ (a : Int) := by omega
  have a1 : (a : Int) < 3 := by omega
  have HR := Lib.hid hr
  clear h hd e1 hg hr
  go_enter Tryd.func25, Tryd.ntmps25
  go_wp2_with (first
    | (go_at_call 74; refine (is_any _ _).mono ?_; rw [HD.out]; rintro e w' ⟨rfl, rfl⟩)
    | (go_at_call 76; refine (Clone_any _ _ _ _ _ HR.out (by omega)).mono ?_; rintro e w' ⟨A2, c2, rfl, hv, hbv⟩))
  go_ret2
  exact ⟨_, rfl, hv, hbv⟩
end
end Go.Proofs.YtgiaifglkecdjaaDoor
