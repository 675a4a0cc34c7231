/- KeysMake: its walk. -/
import Derived.Test.YtlfeofakggkebaaDoorKMake
namespace Go.Proofs.YtlfeofakggkebaaDoor
open Go.RowKit Go.Instr

set_option maxHeartbeats 4000000 in
set_option maxRecDepth 100000 in
theorem KeysMake_long (A : Option Addr) (n c : Nat) (w : World) {ea : Nat → Addr} (hE : Errs w ea) (ht : ShaTabs w) (h : 300 < n) :
    Calls Tryd.prog 3 #[.slice A n c] w fun e w' => e = .returned (.bool true) ∧ Below w.heap.size w w' := by
  have HA := Lib.hid (alive10_any w hE ht)
  have q : decide (300 < (n : Int)) = true := decide_eq_true (by omega)
  clear hE ht h
  go_enter Tryd.func3, Tryd.ntmps3
  go_wp2_with (go_at_call 10; refine HA.out.mono ?_; rintro e w1 ⟨rfl, hb1⟩)
  go_ret
  exact ⟨rfl, hb1⟩

set_option maxHeartbeats 4000000 in
set_option maxRecDepth 100000 in
theorem KeysMake_bad (A : Option Addr) (n c : Nat) (l : List UInt8) (w : World) (hb : RB w A n l) {ea : Nat → Addr} (hE : Errs w ea) (ht : ShaTabs w) (h : n ≤ 300) (hbad : n < 16 ∨ 64 < n) :
    Calls Tryd.prog 3 #[.slice A n c] w fun e w' => e = .returned (.bool true) ∧ Below w.heap.size w w' := by
  have HA := Lib.hid (alive10_any w hE ht)
  have HE := Lib.hid hE
  have HB := Lib.hid hb
  have HL := Lib.hid hb.1
  have q : decide (300 < (n : Int)) = false := decide_eq_false (by omega)
  obtain ⟨k, hk⟩ : ∃ k : Nat, k = if n < 16 then 2 else 3 := ⟨_, rfl⟩
  have HK1 : Hid (1 ≤ k ∧ k ≤ 28) := Lib.hid (by rw [hk]; split <;> omega)
  have HM : Hid (∀ A' c' W, Errs W ea → Calls Tryd.prog 12 #[.slice A' n c'] W fun e w' => e = .returned (.tuple #[.slice none 0 0, .iface 213 (.pointer (some (ea k)))]) ∧ ∃ j, w' = W.drewN j) := Lib.hid fun A' c' W he => by
    by_cases h16 : n < 16
    · rw [hk, if_pos h16]; exact Make_short A' n c' W he h16
    · rw [hk, if_neg h16]; exact Make_long A' n c' W he (by omega)
  have HR : Hid (∀ W, Calls Tryd.prog 13 #[.slice A n c] W fun e w' => e = .returned (.tuple #[.slice none 0 0, .int .i64 (k : Int)]) ∧ W = w') := Lib.hid fun W => by
    have := RefMake_bad A n c W hbad
    have e : (if n < 16 then (2 : Int) else 3) = (k : Int) := by rw [hk]; split <;> rfl
    rw [e] at this
    exact this
  have cn := fun W => run_convert_bytes_nil (P := Tryd.prog) W 22 5 Tryd.underlying22 Tryd.underlying5 0 0 9 Tryd.underlying9
  clear hE ht hb hk hbad
  go_enter Tryd.func3, Tryd.ntmps3
  go_wp2_with (go_at_call 10; refine HA.out.mono ?_; rintro e w1 ⟨rfl, hb1⟩)
  have B1 := Lib.hid hb1
  clear hb1
  refine (Bytes_any A n c l w1 (HB.out.keep (Keeps.of_below B1.out)) (by omega)).mono ?_
  rintro e w2 ⟨v, rfl, hmk, hb2, -⟩
  obtain ⟨A2, c2, rfl, hz1, hz2, hz3⟩ := hmk
  rw [HL.out] at hz1 hz3 ⊢
  obtain ⟨b2, o2, rfl, _⟩ := hz3.2 (by omega)
  have Z3 := Lib.hid hz3
  have B2 := Lib.hid (B1.out.trans (hb2.mono B1.out.size))
  clear hb2 hz3
  go_wp2_with (first
    | (go_at_call 12; refine (HM.out _ _ w2 (HE.out.below B2.out)).mono ?_; rintro e w3 ⟨rfl, k3, rfl⟩)
    | (go_at_call 13; refine (HR.out _).mono ?_; rintro e w4 ⟨rfl, rfl⟩)
    | (go_at_call 14; refine (Num_err (HE.out.below (below_drewN B2.out _)) k HK1.out.1 HK1.out.2).mono ?_; rintro e w5 ⟨rfl, hb5⟩; have D5 := Lib.hid ((below_drewN (Below.refl w2.heap.size w2) k3).trans hb5); have B5 := Lib.hid (B2.out.trans (D5.out.mono B2.out.size)); clear hb5)
    | (go_at_call 15; refine (Kept_any b2 o2 A n c2 c l w5 (Z3.out.keep (Keeps.of_below D5.out)) (HB.out.keep (Keeps.of_below B5.out)) hz1 hz2 (by omega)).mono ?_; rintro e w7 ⟨rfl, q7, rfl⟩))
  go_ret
  exact ⟨rfl, below_drewN B5.out _⟩

set_option maxHeartbeats 4000000 in
set_option maxRecDepth 100000 in
theorem KeysMake_good (A : Option Addr) (n c : Nat) (l : List UInt8) (w : World) (hb : RB w A n l) {ea : Nat → Addr} (hE : Errs w ea) (ht : ShaTabs w) (h1 : 16 ≤ n) (h2 : n ≤ 64) :
    Calls Tryd.prog 3 #[.slice A n c] w fun e w' => e = .returned (.bool true) ∧ Below w.heap.size w w' := by
  have HA := Lib.hid (alive10_any w hE ht)
  have HT := Lib.hid ht
  have HB := Lib.hid hb
  have HL := Lib.hid hb.1
  have q : decide (300 < (n : Int)) = false := decide_eq_false (by omega)
  have HN := Lib.hid (And.intro h1 h2)
  clear hE ht hb
  go_enter Tryd.func3, Tryd.ntmps3
  go_wp2_with (go_at_call 10; refine HA.out.mono ?_; rintro e w1 ⟨rfl, hb1⟩)
  have B1 := Lib.hid hb1
  clear hb1
  refine (Bytes_any A n c l w1 (HB.out.keep (Keeps.of_below B1.out)) (by omega)).mono ?_
  rintro e w2 ⟨v, rfl, hmk, hb2, -⟩
  obtain ⟨A2, c2, rfl, hz1, hz2, hz3⟩ := hmk
  rw [HL.out] at hz1 hz3 ⊢
  obtain ⟨b2, o2, rfl, _⟩ := hz3.2 (by omega)
  have Z3 := Lib.hid hz3
  have B2 := Lib.hid (B1.out.trans (hb2.mono B1.out.size))
  have HMk := Lib.hid (Make_good _ n c2 l w2 (hz3.front HL.out) (by omega) hz2 (HT.out.keep (Keeps.of_below B2.out)) h1 h2)
  have HML : Hid ((makeL l).length = 32) := Lib.hid (shaB_length _ _ _)
  have HRf : Hid (∀ W, RB W A n l → Calls Tryd.prog 13 #[.slice A n c] W fun e w' => ∃ v, e = .returned (.tuple #[v, .int .i64 0]) ∧ OB w' W.heap.size v (makeL l) ∧ Below W.heap.size W w') := Lib.hid fun W hb => RefMake_good A n c l W hb HN.out.1 HN.out.2
  clear hb2 hz3 h1 h2
  generalize makeL l = mk at *
  go_wp2_with (first
    | (go_at_call 12; refine HMk.out.mono ?_; rintro e w3 ⟨q3, rfl, hr3, hb3⟩; have R3 := Lib.hid hr3; have B3 := Lib.hid (B2.out.trans (hb3.mono B2.out.size)); have Z33 := Lib.hid (Z3.out.keep (Keeps.of_below hb3)); clear hr3 hb3)
    | (go_at_call 13; refine (HRf.out _ (HB.out.keep (Keeps.of_below B3.out))).mono ?_; rintro e w4 ⟨v4, rfl, hown4, hb4⟩; obtain ⟨A4, c4, rfl, hc4, hm4, hr4⟩ := hown4.form; have cx := run_bytes_string (P := Tryd.prog) Tryd.underlying22 Tryd.underlying5 Tryd.underlying9 (c := 32) (R3.out.keep (Keeps.of_below hb4)); have cy := run_bytes_string (P := Tryd.prog) Tryd.underlying22 Tryd.underlying5 Tryd.underlying9 (c := c4) hr4; have B4 := Lib.hid (B3.out.trans (hb4.mono B3.out.size)); have Z4 := Lib.hid (Z33.out.keep (Keeps.of_below hb4)); clear hown4 hb4 hr4)
    | (go_at_call 14; refine (Num_nil _).mono ?_; rintro e w5 ⟨rfl, rfl⟩)
    | (go_at_call 15; refine (Kept_any b2 o2 A n c2 c l w4 Z4.out (HB.out.keep (Keeps.of_below B4.out)) hz1 hz2 (by have := HN.out; omega)).mono ?_; rintro e w7 ⟨rfl, q7, rfl⟩))
  go_ret
  exact ⟨rfl, below_drewN B4.out _⟩
end Go.Proofs.YtlfeofakggkebaaDoor
