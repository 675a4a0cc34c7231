/- Layer 18 (wal): Dead, Room; the disk's Down, Waits; Open on a disk whose power is gone. -/
import Derived.Test.YtifjddkgnfanaaaDoorWalT
import Derived.Test.YtifjddkgnfanaaaDoorWalN
import Derived.Test.YtifjddkgnfanaaaDoorRlJ
namespace Go.Proofs.YtifjddkgnfanaaaDoor
open Go.RowKit

section
variable {w w1 w' w0 : World} {S P O : Nat → Prop} {gl g : Nat} {m m' : DM} {L L' : LM} {ea : Nat → Addr} {tv rv wv : Value} {bv : Nat → Value} {ws : List (DChg × Value)}
theorem Dead_W (h : DW w0 w S g m gl L) : Calls Tryd.prog 41 #[.pointer (some ⟨gl, 0, none⟩)] w fun e w' => e = .returned (.bool L.dead) ∧ w = w' := by
  have c6 := h.at.2.2.2.2
  clear h
  go_enter Tryd.func41, Tryd.ntmps41
  go_wp2
  go_ret
  exact ⟨rfl, rfl⟩
theorem Down_V (h : DiskV w O g m bv wv ws) : Calls Tryd.prog 14 #[.pointer (some ⟨g, 0, none⟩)] w fun e w' => e = .returned (.bool m.gone) ∧ w = w' := by
  have c : w.cell? ⟨g, 10, none⟩ = some (.bool m.gone) := h.cell 10
  clear h
  go_enter Tryd.func14, Tryd.ntmps14
  go_wp2
  go_ret
  exact ⟨rfl, rfl⟩
theorem Waits_V (h : DiskV w O g m bv wv ws) : Calls Tryd.prog 15 #[.pointer (some ⟨g, 0, none⟩)] w fun e w' => e = .returned (.int .i64 (m.waits.length : Int)) ∧ w = w' := by
  obtain ⟨A, c, e, _, _⟩ := h.wts.form
  have c7 : w.cell? ⟨g, 7, none⟩ = some (.slice A ws.length c) := by rw [← e]; exact h.cell 7
  have hl : ws.length = m.waits.length := by rw [← h.eq, List.length_map]
  rw [hl] at c7
  clear h hl e
  generalize m.waits.length = n at *
  go_enter Tryd.func15, Tryd.ntmps15
  go_wp2
  go_ret
  exact ⟨rfl, rfl⟩
set_option maxHeartbeats 1000000 in
theorem Room_W (h : DW w0 w S g m gl L) (hok : m.Ok) (h0 : 0 ≤ m.free) (h1 : m.free ≤ 1048576) : Calls Tryd.prog 42 #[.pointer (some ⟨gl, 0, none⟩)] w fun e w' => e = .returned (.int .i64 (roomV m.free)) ∧ w = w' := by
  have c0 := h.at.1
  have HF := Lib.hid (Free_W h hok)
  clear h hok
  generalize m.free = F at *
  by_cases a1 : F ≤ 20
  · have q1 : (16384 < F - 20) = False := eq_false (by omega)
    have q2 : (F ≤ 20) = True := eq_true a1
    have q3 : (0 < F - 20) = False := eq_false (by omega)
    have q4 : (20 < F) = False := eq_false (by omega)
    have e : roomV F = 0 := by unfold roomV; split <;> (try split) <;> omega
    rw [e]
    clear a1 e
    go_enter Tryd.func42, Tryd.ntmps42
    go_wp2_with (first
      | (go_at_call 22; (with_reducible refine HF.out.mono ?_); rintro e w1 ⟨rfl, rfl⟩)
      | fail)
    go_ret
    exact ⟨rfl, rfl⟩
  · have q2 : (F ≤ 20) = False := eq_false a1
    have q3 : (0 < F - 20) = True := eq_true (by omega)
    have q4 : (20 < F) = True := eq_true (by omega)
    by_cases a2 : F - 20 ≤ 16384
    · have q1 : (16384 < F - 20) = False := eq_false (by omega)
      have q5 : (F - 20 ≤ 16384) = True := eq_true a2
      have e : roomV F = F - 20 := by unfold roomV; split <;> (try split) <;> omega
      rw [e]
      clear a1 a2 e
      go_enter Tryd.func42, Tryd.ntmps42
      go_wp2_with (first
        | (go_at_call 22; (with_reducible refine HF.out.mono ?_); rintro e w1 ⟨rfl, rfl⟩)
        | fail)
      go_ret
      exact ⟨rfl, rfl⟩
    · have q1 : (16384 < F - 20) = True := eq_true (by omega)
      have q5 : (F - 20 ≤ 16384) = False := eq_false a2
      have e : roomV F = 16384 := by unfold roomV; split <;> (try split) <;> omega
      rw [e]
      clear a1 a2 e
      go_enter Tryd.func42, Tryd.ntmps42
      go_wp2_with (first
        | (go_at_call 22; (with_reducible refine HF.out.mono ?_); rintro e w1 ⟨rfl, rfl⟩)
        | fail)
      go_ret
      exact ⟨rfl, rfl⟩
theorem DD.below (h : DD w0 w S g m) (hb : Below w.heap.size w w') : DD w0 w' S g m := by
  obtain ⟨⟨O, ⟨bv, wv, xs, h1⟩, ho⟩, hu, hh, hb0⟩ := h
  exact ⟨⟨O, ⟨bv, wv, xs, h1.below hb⟩, ho⟩, hu, fun k hk => Nat.lt_of_lt_of_le (hh k hk) hb.size, hb0.trans (hb.mono hb0.size)⟩
set_option maxHeartbeats 1000000 in
theorem load_gone (h : DW w0 w S g m gl L) (hE : EW w0 ea) (hg : m.gone = true) : Calls Tryd.prog 44 #[.pointer (some ⟨gl, 0, none⟩)] w fun e w' => e = .returned (.iface 141 (.pointer (some (ea 25)))) ∧ Fr (fun q => q = gl) w w' := by
  have c2 : w.cell? ⟨gl, 2, none⟩ = some (.int .i64 (L.slot : Int)) := h.at.2.2.1
  have f2 := h.fz 2
  have HS0 : Hid (DW w0 (w.setCell ⟨gl, 2, none⟩ (.int .i64 1)) (ext S w (w.setCell ⟨gl, 2, none⟩ (.int .i64 1))) g m gl { L with slot := 1 }) := Lib.hid (by
    obtain ⟨P, tv, rv, ws, hV, hPS, hU⟩ := h.useL
    have hF : Fr (fun k => k = gl) w (w.setCell ⟨gl, 2, none⟩ (.int .i64 1)) := (Fr.refl (fun k => k = gl) w).setCell (p := ⟨gl, 2, none⟩) (fun _ => rfl) _
    exact (hU _ _ ⟨_, _, _, (hV.turn (L' := { L with slot := 1 }) hF (heap_setCell_same _ _ _ _ _ _ hV.cells) rfl rfl).mono fun _ _ hk => Or.inl hk⟩ (hF.mono fun k _ e => by subst e; exact hV.ownG)).1)
  have c0 := HS0.out.at.1
  have HRd : Hid (Calls Tryd.prog 61 #[.pointer (some ⟨g, 0, none⟩), .int .i64 0] (w.setCell ⟨gl, 2, none⟩ (.int .i64 1)) fun e w' => e = .returned (.tuple #[.slice none 0 0, .iface 141 (.pointer (some (ea 25)))]) ∧ ∃ k, w' = (w.setCell ⟨gl, 2, none⟩ (.int .i64 1)).drewN k) := Lib.hid (by
    obtain ⟨O, ⟨bv, wv, xs, h1⟩, _⟩ := HS0.out.disk
    exact Read_gone 0 (by decide) (HS0.out.errs hE) h1 hg)
  have HF : Hid (Fr (fun k => k = gl) w (w.setCell ⟨gl, 2, none⟩ (.int .i64 1))) := Lib.hid ((Fr.refl (fun k => k = gl) w).setCell (p := ⟨gl, 2, none⟩) (fun _ => rfl) _)
  clear h hE hg HS0
  go_enter Tryd.func44, Tryd.ntmps44
  go_wp2
  go_loopg [16] 1 (fun gk s16 wr => s16 = .int .i64 0 ∧ wr = w.setCell ⟨gl, 2, none⟩ (.int .i64 1))
  case atStart => exact ⟨rfl, rfl⟩
  case round =>
    obtain ⟨rfl, rfl⟩ := hrel
    go_wp2_with (first
      | (go_at_call 61; (with_reducible refine HRd.out.mono ?_); rintro e w1 ⟨rfl, k1, rfl⟩)
      | fail)
    go_ret
    exact ⟨rfl, HF.out.drewN _⟩
set_option maxHeartbeats 1000000 in
theorem Open_gone (h : DD w0 w S g m) (hE : EW w0 ea) (hg : m.gone = true) : Calls Tryd.prog 16 #[.pointer (some ⟨g, 0, none⟩)] w fun e w' => e = .returned (.tuple #[.pointer none, .iface 141 (.pointer (some (ea 25)))]) ∧ Below w.heap.size w w' := by
  have HD0 := h.log
  obtain ⟨wa, hwa⟩ : ∃ W, W = w.alloc (.cells #[.pointer (some ⟨g, 0, none⟩), .int .i64 0, .int .i64 0, .slice none 0 0, .slice none 0 0, .int .i64 0, .bool false] 84) := ⟨_, rfl⟩
  have HB0 := Lib.hid ((Below.refl w.heap.size w).alloc (Nat.le_refl _) (.cells #[.pointer (some ⟨g, 0, none⟩), .int .i64 0, .int .i64 0, .slice none 0 0, .slice none 0 0, .int .i64 0, .bool false] 84))
  rw [← hwa] at HD0 HB0
  have HL := Lib.hid (load_gone HD0 hE hg)
  clear h hE hg HD0
  go_enter Tryd.func16, Tryd.ntmps16
  go_wp2_with (first
    | (go_at_call 44; go_loud (rw [← hwa]; (with_reducible refine HL.out.mono ?_); rintro e w1 ⟨rfl, hf1⟩; have F1 := Lib.hid hf1; clear hf1))
    | fail)
  go_ret2
  exact ⟨rfl, HB0.out.trans (F1.out.below HB0.out.size fun q _ e => by rw [e]; exact Nat.le_refl _)⟩
end
end Go.Proofs.YtifjddkgnfanaaaDoor
