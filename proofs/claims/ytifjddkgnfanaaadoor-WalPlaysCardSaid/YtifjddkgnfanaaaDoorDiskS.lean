/- The disk's calls, as a law meets them. -/
import Derived.Test.YtifjddkgnfanaaaDoorDiskCrash
import Derived.Test.YtifjddkgnfanaaaDoorDiskOps
import Derived.Lib.SlBytesConst
namespace Go.Proofs.YtifjddkgnfanaaaDoor
open Go.RowKit

/-- A disk that a call made. -/
def DS (w0 w : World) (g : Nat) (m : DM) : Prop := ∃ O, DiskAt w O g m ∧ (∀ k, O k → w0.heap.size ≤ k) ∧ Below w0.heap.size w0 w
section
variable {w0 w w' : World} {g : Nat} {m m' : DM} {ea : Nat → Addr}
theorem DS.bel (h : DS w0 w g m) : Below w0.heap.size w0 w := let ⟨_, _, _, h⟩ := h; h
theorem DS.of {O : Nat → Prop} (ho : ∀ k, O k → w0.heap.size ≤ k) (hb : Below w0.heap.size w0 w) (hd : DiskAt w' (ext O w w') g m') (hf : Fr O w w') : DS w0 w' g m' :=
  ⟨_, hd, fun k hk => hk.elim (ho k) fun h => Nat.le_trans hb.size h.1, hb.trans (hf.below hb.size fun k _ hk => ho k hk)⟩
theorem DS.below (h : DS w0 w g m) (hb : Below w.heap.size w w') : DS w0 w' g m := by
  obtain ⟨O, ⟨bv, wv, ws, hv⟩, ho, hb0⟩ := h
  exact ⟨O, ⟨bv, wv, ws, hv.below hb⟩, ho, hb0.trans (hb.mono hb0.size)⟩

theorem New_S (room : Int) (hb : Below w0.heap.size w0 w) (h0 : 0 ≤ room) (h1 : room ≤ 1048576) : Calls Tryd.prog 6 #[.int .i64 room] w fun e w' => e = .returned (.tuple #[.pointer (some ⟨w.heap.size, 0, none⟩), .nilIface]) ∧ DS w0 w' w.heap.size ⟨room, fun _ => [], [], false, 0, false⟩ := by
  refine (DNew_any room w h0 h1).mono ?_
  rintro e w' ⟨rfl, hd, hb'⟩
  exact ⟨rfl, _, hd, fun k hk => by rw [hk]; exact hb.size, hb.trans (hb'.mono hb.size)⟩
theorem Write_S (area at_ : Int) (A : Option Addr) (n k : Nat) (bs : List UInt8) (hS : DS w0 w g m) (hok : m.Ok) (hE : DErrs w0 ea) (hg : 26 ≤ g) (hb : RB w A n bs) (hn : n ≤ 1048576) (hw : m.waits.length ≤ 1000) :
    Calls Tryd.prog 7 #[.pointer (some ⟨g, 0, none⟩), .int .i64 area, .int .i64 at_, .slice A n k] w fun e w' => e = .returned (dErr ea (m.writeE area at_ bs.length)) ∧ DS w0 w' g (m.write area at_ bs) := by
  obtain ⟨O, hd, ho, hb0⟩ := hS
  refine (DWrite_any area at_ A n k bs hd hok (hE.keep (Keeps.of_below hb0)) hg hb hn hw).mono ?_
  rintro e w' ⟨rfl, hd', hf⟩
  exact ⟨rfl, DS.of ho hb0 hd' hf⟩
theorem Cut_S (area at_ : Int) (hS : DS w0 w g m) (hok : m.Ok) (hE : DErrs w0 ea) (hg : 26 ≤ g) (hw : m.waits.length ≤ 1000) :
    Calls Tryd.prog 45 #[.pointer (some ⟨g, 0, none⟩), .int .i64 area, .int .i64 at_] w fun e w' => e = .returned (dErr ea (m.cutE area at_)) ∧ DS w0 w' g (m.cut area at_) := by
  obtain ⟨O, hd, ho, hb0⟩ := hS
  refine (DCut_any area at_ hd hok (hE.keep (Keeps.of_below hb0)) hg hw).mono ?_
  rintro e w' ⟨rfl, hd', hf⟩
  exact ⟨rfl, DS.of ho hb0 hd' hf⟩
theorem Sync_S (hS : DS w0 w g m) (hok : m.Ok) (hd0 : m.dead = false) (hE : DErrs w0 ea) (hg : 26 ≤ g) :
    Calls Tryd.prog 9 #[.pointer (some ⟨g, 0, none⟩)] w fun e w' => e = .returned .nilIface ∧ DS w0 w' g m.sync := by
  obtain ⟨O, hd, ho, hb0⟩ := hS
  refine (Sync_any hd hok (hE.keep (Keeps.of_below hb0)) hg).mono ?_
  rw [hd0]
  rintro e w' ⟨rfl, hd', hf⟩
  exact ⟨rfl, DS.of ho hb0 hd' hf⟩
theorem Crash_S (hS : DS w0 w g m) (hok : m.Ok) (hw : m.waits.length ≤ 1000) (kept s torn : Int) (hs0 : 0 ≤ s) (hs1 : s ≤ 18446744073709551615) :
    Calls Tryd.prog 18 #[.pointer (some ⟨g, 0, none⟩), .int .i64 kept, .int .u64 s, .int .i64 torn] w fun e w' => e = .returned (.tuple #[]) ∧ DS w0 w' g (m.crash kept s torn) := by
  obtain ⟨O, hd, ho, hb0⟩ := hS
  refine (Crash_any hd hok hw kept s torn hs0 hs1).mono ?_
  rintro e w' ⟨rfl, hd', hf⟩
  exact ⟨rfl, DS.of ho hb0 hd' hf⟩
theorem Size_S (a : Nat) (ha : a < 3) (hS : DS w0 w g m) : Calls Tryd.prog 21 #[.pointer (some ⟨g, 0, none⟩), .int .i64 (a : Int)] w fun e w' => e = .returned (.int .i64 ((m.b (3 + a)).length : Int)) ∧ w = w' := by
  obtain ⟨O, ⟨bv, wv, ws, hd⟩, ho, hb0⟩ := hS
  exact Size_in a ha hd
theorem Free_S (hS : DS w0 w g m) (hok : m.Ok) : Calls Tryd.prog 22 #[.pointer (some ⟨g, 0, none⟩)] w fun e w' => e = .returned (.int .i64 m.free) ∧ w = w' := by
  obtain ⟨O, ⟨bv, wv, ws, hd⟩, ho, hb0⟩ := hS
  exact Free_any hok hd
theorem Read_S (a : Nat) (l : List UInt8) (hl : m.b (3 + a) = l) (ha : a < 3) (hS : DS w0 w g m) (hok : m.Ok) (hg : m.gone = false) : Calls Tryd.prog 61 #[.pointer (some ⟨g, 0, none⟩), .int .i64 (a : Int)] w fun e w' => ∃ A c, e = .returned (.tuple #[.slice A l.length c, .nilIface]) ∧ RB w' A l.length l ∧ DS w0 w' g m ∧ Below w.heap.size w w' := by
  subst hl
  have hS' := hS
  obtain ⟨O, ⟨bv, wv, ws, hd⟩, ho, hb0⟩ := hS
  refine (Read_in a ha hd hg (hok.len (3 + a) (by omega))).mono ?_
  rintro e w' ⟨v, rfl, hv, hb⟩
  obtain ⟨A, c, rfl, _, _, hr⟩ := hv.form
  exact ⟨A, c, rfl, hr, hS'.below hb, hb⟩

theorem dm0_ok (room : Int) (h0 : 0 ≤ room) (h1 : room ≤ 1048576) : DM.Ok ⟨room, fun _ => [], [], false, 0, false⟩ := ⟨h0, h1, fun _ _ => by simp, fun c hc => (by cases hc), Int.le_refl _, by show (0 : Int) ≤ _; omega⟩
end

theorem rb_lit {w : World} {g : Nat} {l : List UInt8} {T : TypeId} {fr : Nat × Nat} (h : w.heap[g]? = some (.cells (bcells l).toArray T fr)) : RB w (some ⟨g, 0, none⟩) l.length l := by
  refine ⟨rfl, fun _ => ⟨g, 0, rfl, fun k hk => ?_⟩⟩
  rw [cell_of_row _ _ _ _ _ _ h]
  simp [bcells, hk]

theorem dErr_zero (ea : Nat → Addr) : dErr ea 0 = .nilIface := rfl
end Go.Proofs.YtifjddkgnfanaaaDoor

/- disk: Arm, Down, Waits; on a disk alone and beside a log. -/
namespace Go.Proofs.YtifjddkgnfanaaaDoor
open Go.RowKit

def DM.arm (m : DM) (n : Int) : DM := { m with armed := true, left := n }
theorem DM.Ok.arm {m : DM} (h : m.Ok) {n : Int} (h0 : 0 ≤ n) (h1 : n ≤ 9223372036854775807) : (m.arm n).Ok := ⟨h.room0, h.room1, h.len, h.wait, h0, h1⟩

section
variable {w w0 : World} {O : Nat → Prop} {g : Nat} {m : DM} {bv : Nat → Value} {wv : Value} {ws : List (DChg × Value)} {ea : Nat → Addr}

theorem Arm_at (units : Int) (h : DiskV w O g m bv wv ws) (h0 : 0 ≤ units) : Calls Tryd.prog 33 #[.pointer (some ⟨g, 0, none⟩), .int .i64 units] w fun e w' => e = .returned .nilIface ∧ DiskV w' O g (m.arm units) bv wv ws ∧ Fr (fun k => k = g) w w' := by
  have H := Lib.hid h
  have f8 := h.free 8
  have f9 := h.free 9
  have c8 : w.cell? ⟨g, 8, none⟩ = some (.bool m.armed) := h.cell 8
  have c9 : w.cell? ⟨g, 9, none⟩ = some (.int .i64 m.left) := h.cell 9
  have q : decide (units < 0) = false := decide_eq_false (by omega)
  have HF : Hid (Fr (fun k => k = g) w ((w.setCell ⟨g, 8, none⟩ (.bool true)).setCell ⟨g, 9, none⟩ (.int .i64 units))) := Lib.hid (((Fr.refl (fun k => k = g) w).setCell (p := ⟨g, 8, none⟩) (fun _ => rfl) _).setCell (p := ⟨g, 9, none⟩) (fun _ => rfl) _)
  have HV : Hid (DiskV ((w.setCell ⟨g, 8, none⟩ (.bool true)).setCell ⟨g, 9, none⟩ (.int .i64 units)) O g (m.arm units) bv wv ws) := Lib.hid (h.turn HF.out (heap_setCell_same _ _ _ _ _ _ (heap_setCell_same _ _ _ _ _ _ h.cells)) rfl rfl)
  clear h
  go_enter Tryd.func33, Tryd.ntmps33
  go_wp2
  go_ret
  exact ⟨rfl, HV.out, HF.out⟩

theorem Arm_neg (units : Int) (hE : DErrs w ea) (h0 : units < 0) : Calls Tryd.prog 33 #[.pointer (some ⟨g, 0, none⟩), .int .i64 units] w fun e w' => e = .returned (.iface 141 (.pointer (some (ea 1)))) ∧ w = w' := by
  have e0 := hE.range
  have q : decide (units < 0) = true := decide_eq_true h0
  clear hE
  go_enter Tryd.func33, Tryd.ntmps33
  go_wp2
  go_ret
  exact ⟨rfl, rfl⟩

theorem Arm_S (units : Int) (hS : DS w0 w g m) (h0 : 0 ≤ units) : Calls Tryd.prog 33 #[.pointer (some ⟨g, 0, none⟩), .int .i64 units] w fun e w' => e = .returned .nilIface ∧ DS w0 w' g (m.arm units) := by
  obtain ⟨O, ⟨bv, wv, ws, hd⟩, ho, hb0⟩ := hS
  refine (Arm_at units hd h0).mono ?_
  rintro e w' ⟨rfl, hv, hf⟩
  exact ⟨rfl, O, ⟨bv, wv, ws, hv⟩, ho, hb0.trans (hf.below hb0.size fun k _ e => by subst e; exact ho _ hd.ownG)⟩
end
end Go.Proofs.YtifjddkgnfanaaaDoor
