/- keys.Make, the reference's Make. -/
import Derived.Test.YtlfeofakggkebaaDoorAlive10
import Derived.Test.YtlfeofakggkebaaDoorMarked
namespace Go.Proofs.YtlfeofakggkebaaDoor
open Go.RowKit Go.Instr

/-- "key" -/
def keyW : List UInt8 := [107, 101, 121]
theorem good_key : frameBad keyW [] = false := by decide +kernel
def makeL (draw : List UInt8) : List UInt8 := hmacF draw (frameB keyW [])

set_option maxHeartbeats 4000000 in
set_option maxRecDepth 100000 in
theorem Make_short (A : Option Addr) (n c : Nat) (w : World) {ea : Nat → Addr} (hE : Errs w ea) (hn : n < 16) :
    Calls Tryd.prog 12 #[.slice A n c] w fun e w' => e = .returned (.tuple #[.slice none 0 0, .iface 213 (.pointer (some (ea 2)))]) ∧ ∃ k, w' = w.drewN k := by
  have e2 := hE.cell 2 (by omega) (by omega)
  have q : decide ((n : Int) < 16) = true := decide_eq_true (by omega)
  clear hE hn
  change w.cell? ⟨0, 0, none⟩ = some (.iface 213 (.pointer (some (ea 2)))) at e2
  go_enter Tryd.func12, Tryd.ntmps12
  go_wp2
  go_quiet (fail)
  go_wp2
  go_ret2
  exact ⟨rfl, _, rfl⟩
set_option maxHeartbeats 4000000 in
set_option maxRecDepth 100000 in
theorem Make_long (A : Option Addr) (n c : Nat) (w : World) {ea : Nat → Addr} (hE : Errs w ea) (hn : 64 < n) :
    Calls Tryd.prog 12 #[.slice A n c] w fun e w' => e = .returned (.tuple #[.slice none 0 0, .iface 213 (.pointer (some (ea 3)))]) ∧ ∃ k, w' = w.drewN k := by
  have e2 := hE.cell 3 (by omega) (by omega)
  have q : decide ((n : Int) < 16) = false := decide_eq_false (by omega)
  have q2 : decide (64 < (n : Int)) = true := decide_eq_true (by omega)
  clear hE hn
  change w.cell? ⟨1, 0, none⟩ = some (.iface 213 (.pointer (some (ea 3)))) at e2
  go_enter Tryd.func12, Tryd.ntmps12
  go_wp2
  go_quiet (fail)
  go_wp2
  go_ret2
  exact ⟨rfl, _, rfl⟩
set_option maxHeartbeats 4000000 in
set_option maxRecDepth 100000 in
theorem Make_good (A : Option Addr) (n c : Nat) (draw : List UInt8) (w : World) (hb : RB w A n draw) (hnc : n ≤ c) (hc : c ≤ maxLen) (ht : ShaTabs w) (h1 : 16 ≤ n) (h2 : n ≤ 64) :
    Calls Tryd.prog 12 #[.slice A n c] w fun e w' => ∃ q, e = .returned (.tuple #[.slice (some ⟨q, 0, none⟩) 32 32, .nilIface]) ∧ RB w' (some ⟨q, 0, none⟩) 32 (makeL draw) ∧ Below w.heap.size w w' := by
  have HT := Lib.hid (Tagged_good A n c draw ⟨#[107, 101, 121]⟩ none 0 0 [] w hb (by omega) hnc hc (RBL.nil _ _) good_key ht)
  have q : decide ((n : Int) < 16) = false := decide_eq_false (by omega)
  have q2 : decide (64 < (n : Int)) = false := decide_eq_false (by omega)
  clear hb hnc hc ht h1 h2
  have HM : Hid ((makeL draw).length = 32) := Lib.hid (shaB_length _ _ _)
  change Hid (Calls _ _ _ _ fun e w' => e = .returned (.tuple #[.agg (bcells (makeL draw)).toArray, .nilIface]) ∧ Below w.heap.size w w') at HT
  generalize makeL draw = mac at *
  obtain ⟨cur, hcur⟩ : ∃ cur, cur = (bcells mac).toArray := ⟨_, rfl⟩
  rw [← hcur] at HT
  have HCur := Lib.hid hcur
  have HC2 : Hid (cur.size = 32) := Lib.hid (by rw [hcur]; simp [bcells, HM.out])
  have HB2 : Hid (cur.all (·.oneCell') = true) := Lib.hid (by
    rw [hcur, Array.all_eq_true_iff_forall_mem]
    intro y hy
    exact bcells_one _ y (by simpa using hy))
  clear hcur
  go_enter Tryd.func12, Tryd.ntmps12
  go_wp2_with (first
    | (go_at_call 54; refine HT.out.mono ?_; rintro e w2 ⟨rfl, hb2⟩; replace hb2 := Lib.hid hb2)
    | (refine wpList_store_row rfl 48 (.tmp 4) (.tmp 19) rfl w2.heap.size cur rfl rfl 48 _ (heap_alloc_new w2 _) (by rw [HC2.out]; exact info_32) (by rw [HC2.out]; rfl) HB2.out ?_))
  go_ret2
  exact ⟨w2.heap.size, rfl, RB.row (T := 48) (fr := (0, 0)) (by rw [← HCur.out]; exact setRow_heap _ _ _ _ _ _ (heap_alloc_new w2 _)) HM.out, below_setRow (hb2.out.alloc hb2.out.size _) hb2.out.size cur⟩

set_option maxHeartbeats 4000000 in
set_option maxRecDepth 100000 in
theorem RefMake_bad (A : Option Addr) (n c : Nat) (w : World) (hn : n < 16 ∨ 64 < n) :
    Calls Tryd.prog 13 #[.slice A n c] w fun e w' => e = .returned (.tuple #[.slice none 0 0, .int .i64 (if n < 16 then 2 else 3)]) ∧ w = w' := by
  by_cases h : n < 16
  · have q : decide ((n : Int) < 16) = true := decide_eq_true (by omega)
    rw [if_pos h]
    clear hn h
    go_enter Tryd.func13, Tryd.ntmps13
    go_wp2
    go_ret2
    exact ⟨rfl, rfl⟩
  · have q : decide ((n : Int) < 16) = false := decide_eq_false (by omega)
    have q2 : decide (64 < (n : Int)) = true := decide_eq_true (by omega)
    rw [if_neg h]
    clear hn h
    go_enter Tryd.func13, Tryd.ntmps13
    go_wp2
    go_ret2
    exact ⟨rfl, rfl⟩
set_option maxHeartbeats 4000000 in
set_option maxRecDepth 100000 in
theorem RefMake_good (A : Option Addr) (n c : Nat) (draw : List UInt8) (w : World) (hb : RB w A n draw) (h1 : 16 ≤ n) (h2 : n ≤ 64) :
    Calls Tryd.prog 13 #[.slice A n c] w fun e w' => ∃ v, e = .returned (.tuple #[v, .int .i64 0]) ∧ OB w' w.heap.size v (makeL draw) ∧ Below w.heap.size w w' := by
  have HT := Lib.hid (RefTagged_good A n c draw ⟨#[107, 101, 121]⟩ none 0 0 [] w hb (by omega) (RBL.nil _ _) good_key)
  have q : decide ((n : Int) < 16) = false := decide_eq_false (by omega)
  have q2 : decide (64 < (n : Int)) = false := decide_eq_false (by omega)
  clear hb h1 h2
  have HM : Hid ((makeL draw).length = 32) := Lib.hid (shaB_length _ _ _)
  change Hid (Calls _ _ _ _ fun e w' => e = .returned (.agg (bcells (makeL draw)).toArray) ∧ Below w.heap.size w w') at HT
  generalize makeL draw = mac at *
  obtain ⟨cur, hcur⟩ : ∃ cur, cur = (bcells mac).toArray := ⟨_, rfl⟩
  rw [← hcur] at HT
  have HCur := Lib.hid hcur
  have HC2 : Hid (cur.size = 32) := Lib.hid (by rw [hcur]; simp [bcells, HM.out])
  have HB2 : Hid (cur.all (·.oneCell') = true) := Lib.hid (by
    rw [hcur, Array.all_eq_true_iff_forall_mem]
    intro y hy
    exact bcells_one _ y (by simpa using hy))
  clear hcur
  go_enter Tryd.func13, Tryd.ntmps13
  go_wp2_with (first
    | (go_at_call 21; refine HT.out.mono ?_; rintro e w2 ⟨rfl, hb2⟩; replace hb2 := Lib.hid hb2)
    | (refine wpList_store_row rfl 48 (.tmp 4) (.tmp 12) rfl w2.heap.size cur rfl rfl 48 _ (heap_alloc_new w2 _) (by rw [HC2.out]; exact info_32) (by rw [HC2.out]; rfl) HB2.out ?_; obtain ⟨w6, hw6⟩ : ∃ W, W = (w2.alloc (.cells zer32 48)).setRow w2.heap.size cur := ⟨_, rfl⟩; change wpList _ _ _ _ _ ((w2.alloc (.cells zer32 48)).setRow w2.heap.size cur); rw [← hw6]; have R6 : Hid (w6.heap[w2.heap.size]? = some (.cells cur 48 (0, 0))) := (by show _ = _; rw [hw6]; exact setRow_heap _ _ _ _ _ _ (heap_alloc_new w2 _)); have B6 : Hid (Below w.heap.size w w6) := (by show Below _ _ _; rw [hw6]; exact below_setRow (hb2.out.alloc hb2.out.size _) hb2.out.size cur); clear hw6; have L7 := Lib.hid (OB.lit w6 w.heap.size B6.out.size [] 0 rfl (by decide)); have D7 := Lib.hid ((Below.refl w6.heap.size w6).alloc (Nat.le_refl _) (.cells (bcells []).toArray 5)); have RR7 : Hid (RB (w6.alloc (.cells (bcells []).toArray 5)) (some ⟨w2.heap.size, 0, none⟩) 32 mac) := (by show RB _ _ _ _; exact (RB.row (by rw [R6.out, HCur.out]) HM.out).keep (Keeps.of_below D7.out)))
    | (at_builtin; refine wpList_append_b rfl (.tmp 13) (.tmp 14) 22 rfl L7.out rfl (RB.src Tryd.underlying22 RR7.out) rfl (by have := HM.out; simp; omega) (by have := (B6.out.trans (D7.out.mono B6.out.size)).size; exact this) ?_; intro v8 w8 hown8 hgr8 hat8; have O8 := Lib.hid hown8; have B8 := Lib.hid (below_append (B6.out.trans (D7.out.mono B6.out.size)) hgr8 L7.out (Nat.le_refl _) ((B6.out.trans (D7.out.mono B6.out.size)).size)); clear hown8 hgr8 hat8))
  go_ret2
  exact ⟨_, rfl, by simpa using O8.out, B8.out⟩
end Go.Proofs.YtlfeofakggkebaaDoor
