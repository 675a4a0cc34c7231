/- The disk's calls, as a law meets them. -/
import Derived.Test.YtgiaifglkecdjaaDoorDiskCrashL
import Derived.Test.YtgiaifglkecdjaaDoorDiskCut
import Derived.Lib.SlBytesConst
namespace Go.Proofs.YtgiaifglkecdjaaDoor
open Go.RowKit

/-- A disk that a call made. -/
def DS (w0 w : World) (g : Nat) (m : DM) : Prop := ∃ O, DiskAt w O g m ∧ (∀ k, O k → w0.heap.size ≤ k) ∧ Below w0.heap.size w0 w
section
variable {w0 w w' : World} {g : Nat} {m m' : DM} {ea : Nat → Addr}
theorem DS.bel (h : DS w0 w g m) : Below w0.heap.size w0 w := let ⟨_, _, _, h⟩ := h; h
theorem DS.of {O : Nat → Prop} (ho : ∀ k, O k → w0.heap.size ≤ k) (hb : Below w0.heap.size w0 w) (hd : DiskAt w' (ext O w w') g m') (hf : Fr O w w') : DS w0 w' g m' :=
  ⟨_, hd, fun k hk => hk.elim (ho k) fun h => Nat.le_trans hb.size h.1, hb.trans (hf.below hb.size fun k _ hk => ho k hk)⟩
theorem DS.below (h : DS w0 w g m) (hb : Below w.heap.size w w') : DS w0 w' g m := by
  obtain ⟨O, ⟨bv, wv, ws, hv⟩, ho, hb0⟩ := h
  exact ⟨O, ⟨bv, wv, ws, hv.below hb⟩, ho, hb0.trans (hb.mono hb0.size)⟩
theorem DErrs.lt (h : DErrs w ea) : 26 ≤ w.heap.size := World.block_lt_of_cell? w _ h.full

theorem New_S (room : Int) (hb : Below w0.heap.size w0 w) (h0 : 0 ≤ room) (h1 : room ≤ 1048576) : Calls Tryd.prog 21 #[.int .i64 room] w fun e w' => e = .returned (.tuple #[.pointer (some ⟨w.heap.size, 0, none⟩), .nilIface]) ∧ DS w0 w' w.heap.size ⟨room, fun _ => [], [], false, 0, false⟩ := by
  refine (DNew_any room w h0 h1).mono ?_
  rintro e w' ⟨rfl, hd, hb'⟩
  exact ⟨rfl, _, hd, fun k hk => by rw [hk]; exact hb.size, hb.trans (hb'.mono hb.size)⟩
theorem Write_S (area at_ : Int) (A : Option Addr) (n k : Nat) (bs : List UInt8) (hS : DS w0 w g m) (hok : m.Ok) (hE : DErrs w0 ea) (hg : 26 ≤ g) (hb : RB w A n bs) (hn : n ≤ 1048576) (hw : m.waits.length ≤ 1000) :
    Calls Tryd.prog 23 #[.pointer (some ⟨g, 0, none⟩), .int .i64 area, .int .i64 at_, .slice A n k] w fun e w' => e = .returned (dErr ea (m.writeE area at_ bs.length)) ∧ DS w0 w' g (m.write area at_ bs) := by
  obtain ⟨O, hd, ho, hb0⟩ := hS
  refine (DWrite_any area at_ A n k bs hd hok (hE.keep (Keeps.of_below hb0)) hg hb hn hw).mono ?_
  rintro e w' ⟨rfl, hd', hf⟩
  exact ⟨rfl, DS.of ho hb0 hd' hf⟩
theorem Cut_S (area at_ : Int) (hS : DS w0 w g m) (hok : m.Ok) (hE : DErrs w0 ea) (hg : 26 ≤ g) (hw : m.waits.length ≤ 1000) :
    Calls Tryd.prog 22 #[.pointer (some ⟨g, 0, none⟩), .int .i64 area, .int .i64 at_] w fun e w' => e = .returned (dErr ea (m.cutE area at_)) ∧ DS w0 w' g (m.cut area at_) := by
  obtain ⟨O, hd, ho, hb0⟩ := hS
  refine (DCut_any area at_ hd hok (hE.keep (Keeps.of_below hb0)) hg hw).mono ?_
  rintro e w' ⟨rfl, hd', hf⟩
  exact ⟨rfl, DS.of ho hb0 hd' hf⟩
theorem Sync_S (hS : DS w0 w g m) (hok : m.Ok) (hd0 : m.dead = false) (hE : DErrs w0 ea) (hg : 26 ≤ g) :
    Calls Tryd.prog 24 #[.pointer (some ⟨g, 0, none⟩)] w fun e w' => e = .returned .nilIface ∧ DS w0 w' g m.sync := by
  obtain ⟨O, hd, ho, hb0⟩ := hS
  refine (Sync_any hd hok (hE.keep (Keeps.of_below hb0)) hg).mono ?_
  rw [hd0]
  rintro e w' ⟨rfl, hd', hf⟩
  exact ⟨rfl, DS.of ho hb0 hd' hf⟩
theorem Crash_S (hS : DS w0 w g m) (hok : m.Ok) (hw : m.waits.length ≤ 1000) (kept s torn : Int) (hs0 : 0 ≤ s) (hs1 : s ≤ 18446744073709551615) :
    Calls Tryd.prog 26 #[.pointer (some ⟨g, 0, none⟩), .int .i64 kept, .int .u64 s, .int .i64 torn] w fun e w' => e = .returned (.tuple #[]) ∧ DS w0 w' g (m.crash kept s torn) := by
  obtain ⟨O, hd, ho, hb0⟩ := hS
  refine (Crash_any hd hok hw kept s torn hs0 hs1).mono ?_
  rintro e w' ⟨rfl, hd', hf⟩
  exact ⟨rfl, DS.of ho hb0 hd' hf⟩
theorem Size_S (a : Nat) (ha : a < 3) (hS : DS w0 w g m) : Calls Tryd.prog 27 #[.pointer (some ⟨g, 0, none⟩), .int .i64 (a : Int)] w fun e w' => e = .returned (.int .i64 ((m.b (3 + a)).length : Int)) ∧ w = w' := by
  obtain ⟨O, ⟨bv, wv, ws, hd⟩, ho, hb0⟩ := hS
  exact Size_in a ha hd
theorem Free_S (hS : DS w0 w g m) (hok : m.Ok) : Calls Tryd.prog 28 #[.pointer (some ⟨g, 0, none⟩)] w fun e w' => e = .returned (.int .i64 m.free) ∧ w = w' := by
  obtain ⟨O, ⟨bv, wv, ws, hd⟩, ho, hb0⟩ := hS
  exact Free_any hok hd
theorem Read_S (a : Nat) (l : List UInt8) (hl : m.b (3 + a) = l) (ha : a < 3) (hS : DS w0 w g m) (hok : m.Ok) (hg : m.gone = false) : Calls Tryd.prog 25 #[.pointer (some ⟨g, 0, none⟩), .int .i64 (a : Int)] w fun e w' => ∃ A c, e = .returned (.tuple #[.slice A l.length c, .nilIface]) ∧ RB w' A l.length l ∧ DS w0 w' g m ∧ Below w.heap.size w w' := by
  subst hl
  have hS' := hS
  obtain ⟨O, ⟨bv, wv, ws, hd⟩, ho, hb0⟩ := hS
  refine (Read_in a ha hd hg (hok.len (3 + a) (by omega))).mono ?_
  rintro e w' ⟨v, rfl, hv, hb⟩
  obtain ⟨A, c, rfl, _, _, hr⟩ := hv.form
  exact ⟨A, c, rfl, hr, hS'.below hb, hb⟩

theorem dm0_ok (room : Int) (h0 : 0 ≤ room) (h1 : room ≤ 1048576) : DM.Ok ⟨room, fun _ => [], [], false, 0, false⟩ := ⟨h0, h1, fun _ _ => by simp, fun c hc => (by cases hc), Int.le_refl _, by show (0 : Int) ≤ _; omega⟩
end

theorem rb_lit {w : World} {g : Nat} {l : List UInt8} {T : TypeId} {fr : Nat × Nat} (h : w.heap[g]? = some (.cells (bcells l).toArray T fr)) : RB w (some ⟨g, 0, none⟩) l.length l := by
  refine ⟨rfl, fun _ => ⟨g, 0, rfl, fun k hk => ?_⟩⟩
  rw [cell_of_row _ _ _ _ _ _ h]
  simp [bcells, hk]

theorem dErr_zero (ea : Nat → Addr) : dErr ea 0 = .nilIface := rfl

set_option maxHeartbeats 1000000 in
set_option maxRecDepth 100000 in
theorem alive17_any (w : World) {ea : Nat → Addr} (hE : DErrs w ea) : Calls Tryd.prog 19 #[] w fun e w' => e = .returned (.bool true) ∧ Below w.heap.size w w' := by
  have HE := Lib.hid hE
  have h26 := hE.lt
  have HO0 := Lib.hid (dm0_ok 9 (by decide) (by decide))
  clear hE
  have RB1 : Hid (∀ W : World, RB (W.alloc (.cells #[.int .u8 97, .int .u8 98] 5 (2, 3))) (some ⟨W.heap.size, 0, none⟩) 2 [97, 98]) := Lib.hid fun W => rb_lit (l := [97, 98]) (heap_alloc_new W _)
  have RB2 : Hid (∀ W : World, RB (W.alloc (.cells #[.int .u8 99, .int .u8 100] 5 (2, 3))) (some ⟨W.heap.size, 0, none⟩) 2 [99, 100]) := Lib.hid fun W => rb_lit (l := [99, 100]) (heap_alloc_new W _)
  have two : Hid (2 ≤ 1048576) := Lib.hid (by decide)
  have kc := fun (w : World) (C : Array Value) (n c : Nat) => Lib.run_convert_bytes_const (P := Tryd.prog) w 22 5 C n c Tryd.underlying22 Tryd.underlying5
  have HN := Lib.hid (New_S (w0 := w) 9 (Below.refl _ w) (by decide) (by decide))
  obtain ⟨m0, hm0⟩ : ∃ m0 : DM, m0 = ⟨9, fun _ => [], [], false, 0, false⟩ := ⟨_, rfl⟩
  rw [← hm0] at HN HO0
  have E1 : Hid (m0.writeE 2 0 ([97, 98] : List UInt8).length = 0) := Lib.hid (by rw [hm0]; decide +kernel)
  have W0 : Hid (m0.waits.length ≤ 1000) := Lib.hid (by rw [hm0]; decide)
  obtain ⟨m1, hm1⟩ : ∃ m1, m1 = m0.write 2 0 [97, 98] := ⟨_, rfl⟩
  have O1 : Hid m1.Ok := Lib.hid (by rw [hm1]; exact HO0.out.write _ _ _)
  have E2 : Hid (m1.dead = false) := Lib.hid (by rw [hm1, hm0]; decide +kernel)
  obtain ⟨m2, hm2⟩ : ∃ m2, m2 = m1.sync := ⟨_, rfl⟩
  have O2 : Hid m2.Ok := Lib.hid (by rw [hm2]; exact O1.out.sync)
  have E3 : Hid (m2.writeE 2 2 ([99, 100] : List UInt8).length = 0) := Lib.hid (by rw [hm2, hm1, hm0]; decide +kernel)
  have W2 : Hid (m2.waits.length ≤ 1000) := Lib.hid (by rw [hm2, hm1, hm0]; decide +kernel)
  obtain ⟨m3, hm3⟩ : ∃ m3, m3 = m2.write 2 2 [99, 100] := ⟨_, rfl⟩
  have O3 : Hid m3.Ok := Lib.hid (by rw [hm3]; exact O2.out.write _ _ _)
  have W3 : Hid (m3.waits.length ≤ 1000) := Lib.hid (by rw [hm3, hm2, hm1, hm0]; decide +kernel)
  obtain ⟨m4, hm4⟩ : ∃ m4, m4 = m3.crash 0 0 1 := ⟨_, rfl⟩
  have O4 : Hid m4.Ok := Lib.hid (by rw [hm4]; exact O3.out.crash _ _ _)
  have E4 : Hid (m4.b (3 + 2) = [97, 98, 99]) := Lib.hid (by rw [hm4, hm3, hm2, hm1, hm0]; decide +kernel)
  have G4 : Hid (m4.gone = false) := Lib.hid (by rw [hm4]; rfl)
  replace hm1 := Lib.hid hm1.symm
  replace hm2 := Lib.hid hm2.symm
  replace hm3 := Lib.hid hm3.symm
  replace hm4 := Lib.hid hm4.symm
  clear hm0
  go_enter Tryd.func19, Tryd.ntmps19
  go_wp2_with (first
    | (go_at_call 21; refine HN.out.mono ?_; rintro e w1 ⟨rfl, hs1⟩; have S1 := Lib.hid hs1; clear hs1)
    | (go_at_call 23; (with_reducible refine (Write_S 2 0 _ 2 2 [97, 98] (S1.out.below ((Below.refl _ w1).alloc (Nat.le_refl _) _)) HO0.out HE.out h26 (RB1.out w1) two.out W0.out).mono ?_); rw [E1.out, hm1.out, dErr_zero]; rintro e w2 ⟨rfl, hs2⟩; replace hs2 := Lib.hid hs2)
    | (go_at_call 24; refine (Sync_S hs2.out O1.out E2.out HE.out h26).mono ?_; rw [hm2.out]; rintro e w3 ⟨rfl, hs3⟩; replace hs3 := Lib.hid hs3)
    | (go_at_call 23; (with_reducible refine (Write_S 2 2 _ 2 2 [99, 100] (hs3.out.below ((Below.refl _ w3).alloc (Nat.le_refl _) _)) O2.out HE.out h26 (RB2.out w3) two.out W2.out).mono ?_); rw [E3.out, hm3.out, dErr_zero]; rintro e w4 ⟨rfl, hs4⟩; replace hs4 := Lib.hid hs4)
    | (go_at_call 26; refine (Crash_S hs4.out O3.out W3.out 0 0 1 (by decide) (by decide)).mono ?_; rw [hm4.out]; rintro e w5 ⟨rfl, hs5⟩; replace hs5 := Lib.hid hs5)
    | (go_at_call 25; refine (Read_S 2 [97, 98, 99] E4.out (by decide) hs5.out O4.out G4.out).mono ?_; rintro e w6 ⟨A6, c6, rfl, hr6, hs6, -⟩; have hc := run_bytes_string (P := Tryd.prog) Tryd.underlying22 Tryd.underlying5 Tryd.underlying9 (c := c6) hr6; replace hc : (convert 22 9 (.slice A6 3 c6)).run Tryd.prog w6 = _ := hc; replace hs6 := Lib.hid hs6))
  go_ret
  exact ⟨rfl, hs6.out.bel⟩
end Go.Proofs.YtgiaifglkecdjaaDoor
