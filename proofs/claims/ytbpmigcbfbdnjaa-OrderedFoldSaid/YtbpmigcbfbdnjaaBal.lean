/- Layer 16, tables of int to int: balanced, Balanced; the reference's Least; SameInts. -/
import Derived.Test.YtbpmigcbfbdnjaaKeysII
import Derived.Test.YtbpmigcbfbdnjaaSameInts
import Derived.IntWalk
namespace Go.Proofs.Ytbpmigcbfbdnjaa.II
open Go.RowKit

set_option maxHeartbeats 4000000 in
set_option maxRecDepth 100000 in
theorem balanced_T : ∀ (n : Nat) (s : Code) (p : Option Addr) (l : List (Int × Int)) (w : World), sz s ≤ n → T w s p l → Bal s → l.length ≤ 1000000000 →
    Calls Try.prog 45 #[.pointer p] w fun e w' => e = .returned (.bool true) ∧ ∃ k, w' = w.drewN k := by
  intro n
  induction n with
  | zero =>
    intro s p l w hn a hb hl
    rcases Tr.open a with ⟨rfl, rfl, rfl⟩ | ⟨b, k, v, pl, pr, ll, lr, sl, sr, _, _, _, rfl, _, _⟩
    · clear a
      go_enter Try.func45, Try.ntmps45
      go_wp2
      go_ret
      exact ⟨rfl, 0, rfl⟩
    · simp [sz] at hn
  | succ n ih =>
    intro s p l w hn a hb hl
    rcases Tr.open a with ⟨rfl, rfl, rfl⟩ | ⟨b, k, v, pl, pr, ll, lr, sl, sr, rfl, hnp, rfl, rfl, al, ar⟩
    · clear a ih
      go_enter Try.func45, Try.ntmps45
      go_wp2
      go_ret
      exact ⟨rfl, 0, rfl⟩
    simp only [sz] at hn
    simp only [List.length_append, List.length_cons] at hl
    obtain ⟨b1, b2, b3, b4⟩ := hb
    obtain ⟨-, -, c2, c3, c4, c5⟩ := NP.cells hnp
    have hx := al.le
    have hy := ar.le
    have IL := Lib.hid (fun w' (x : T w' sl pl ll) => ih sl pl ll w' (by omega) x b3 (by omega))
    have IR := Lib.hid (fun w' (x : T w' sr pr lr) => ih sr pr lr w' (by omega) x b4 (by omega))
    have H1 := Lib.hid al
    have H2 := Lib.hid ar
    clear ih al ar hnp b3 b4 a hn
    have e1 : IntKind.i64.wrap ((ht sl : Int) - (ht sr : Int)) = (ht sl : Int) - (ht sr : Int) := IntWalk.i64_in _ (by omega)
    have e4 : (if ht sl < ht sr then (ht sr : Int) else (ht sl : Int)) = ((max (ht sl) (ht sr) : Nat) : Int) := by split <;> omega
    have e5 : IntKind.i64.wrap (1 + ((max (ht sl) (ht sr) : Nat) : Int)) = 1 + ((max (ht sl) (ht sr) : Nat) : Int) := IntWalk.i64_in _ (by omega)
    have e6 : (((ll.length : Int) + (lr.length : Int) + 1) == 1 + (ll.length : Int) + (lr.length : Int)) = true := beq_iff_eq.2 (by omega)
    have e7 : decide (-1 ≤ (ht sl : Int) - (ht sr : Int)) = true := decide_eq_true (by omega)
    have e8 : decide ((ht sl : Int) - (ht sr : Int) ≤ 1) = true := decide_eq_true (by omega)
    have e2 : IntKind.i64.wrap (1 + (ll.length : Int)) = 1 + (ll.length : Int) := IntWalk.i64_in _ (by omega)
    have e3 : IntKind.i64.wrap (1 + (ll.length : Int) + (lr.length : Int)) = 1 + (ll.length : Int) + (lr.length : Int) := IntWalk.i64_in _ (by omega)
    go_enter Try.func45, Try.ntmps45
    go_wp2
    go_quiet ((first
      | (go_at_call 46; with_reducible exact Calls.quiet_of_same (high_S H1.out _ (BK.drewN _ _)))
      | (go_at_call 46; with_reducible exact Calls.quiet_of_same (high_S H2.out _ (BK.drewN _ _)))))
    go_wp2
    go_quiet ((first
      | (go_at_call 46; with_reducible exact quiet_add_same (high_S H1.out _ (BK.drewN _ _)))
      | (go_at_call 46; with_reducible exact quiet_add_same (high_S H2.out _ (BK.drewN _ _)))
      | (go_at_call 44; with_reducible exact quiet_add_same (many_S H1.out _ (BK.drewN _ _)))
      | (go_at_call 44; with_reducible exact quiet_add_same (many_S H2.out _ (BK.drewN _ _)))))
    clear e1 e2 e3 e4 e5 e6
    go_wp2_with (first
      | (go_at_call 45; (with_reducible refine (IL.out _ (T.keep H1.out (BK.drewN _ _))).mono ?_); rintro e w5 ⟨rfl, q5, rfl⟩)
      | (go_at_call 45; (with_reducible refine (IR.out _ (T.keep H2.out (BK.drewN _ _))).mono ?_); rintro e w5 ⟨rfl, q6, rfl⟩))
    go_ret
    exact ⟨rfl, _, rfl⟩

theorem Least_any : ∀ (h : Nat) (w : World), leastN h ≤ 1000000000 → h ≤ 1000000000 → Calls Try.prog 16 #[.int .i64 (h : Int)] w fun e w' => e = .returned (.int .i64 (leastN h : Int)) ∧ w = w' := by
  have hz : ∀ (i : Int) (w : World), i < 1 → Calls Try.prog 16 #[.int .i64 i] w fun e w' => e = .returned (.int .i64 0) ∧ w = w' := by
    intro i w hi
    go_enter Try.func16, Try.ntmps16
    go_wp2
    go_ret
    exact ⟨rfl, rfl⟩
  intro h
  induction h using Nat.strongRecOn with
  | _ h ih =>
    intro w hb hh
    by_cases h0 : h = 0
    · subst h0
      exact hz 0 w (by omega)
    by_cases h1 : h = 1
    · subst h1
      have H0 := Lib.hid (hz 0)
      have H1 := Lib.hid (hz (-1))
      clear hz ih
      go_enter Try.func16, Try.ntmps16
      go_wp2_with (first
        | (go_at_call 16; (with_reducible refine (H0.out _ (by omega)).mono ?_); rintro e w5 ⟨rfl, rfl⟩)
        | (go_at_call 16; (with_reducible refine (H1.out _ (by omega)).mono ?_); rintro e w5 ⟨rfl, rfl⟩))
      go_ret
      exact ⟨rfl, rfl⟩
    obtain ⟨k, rfl⟩ : ∃ k, h = k + 2 := ⟨h - 2, by omega⟩
    simp only [leastN] at hb
    have H1 := Lib.hid (ih (k + 1) (by omega) w (by omega) (by omega))
    have H0 := Lib.hid (ih k (by omega) w (by omega) (by omega))
    have HL : Hid (leastN (k + 2) = 1 + leastN (k + 1) + leastN k) := rfl
    clear hz ih
    go_enter Try.func16, Try.ntmps16
    go_wp2_with fail
    rw [show ((k : Int) + 2 - 1) = ((k + 1 : Nat) : Int) by omega]
    refine H1.out.mono ?_
    rintro e w5 ⟨rfl, rfl⟩
    go_wp2_with fail
    refine H0.out.mono ?_
    rintro e w5 ⟨rfl, rfl⟩
    go_wp2
    go_ret
    exact ⟨ret_int (by rw [HL.out]; omega), rfl⟩

theorem rises_lt {l : List (Int × Int)} (h : Rises klt l) (i j : Nat) (hi : i < j) (hj : j < l.length) : (l[i]'(by omega)).1 < l[j].1 := by
  have := List.pairwise_iff_getElem.1 h i j (by omega) hj hi
  simpa [klt] using this

set_option maxHeartbeats 4000000 in
set_option maxRecDepth 100000 in
theorem Balanced_T (g : Nat) (s : Code) (l : List (Int × Int)) (w : World) (a : TabAt w g s l) (hri : Rises klt l) (hbal : Bal s) (hlen : l.length ≤ 1000000000) :
    Calls Try.prog 14 #[.pointer (some ⟨g, 0, none⟩)] w fun e w' => e = .returned (.bool true) ∧ Below w.heap.size w w' := by
  have HA := Lib.hid a
  have HR := Lib.hid hri
  have HB := Lib.hid hbal
  clear a hri hbal
  go_enter Try.func14, Try.ntmps14
  go_wp2_with fail
  refine (Keys_T g s l w HA.out hlen).mono ?_
  rintro e w1 ⟨v, rfl, hown, hb1⟩
  have hown' := OwnS.of_own hown
  obtain ⟨A, cap, rfl, hc1, hc2⟩ := hown'.form
  have HX := Lib.hid (RX.of_ownS hown')
  have Hb1 := Lib.hid hb1
  obtain ⟨p, hg, ht⟩ := HA.out.below hb1
  have cg := cell_of_one hg
  have HT := Lib.hid ht
  generalize hn : l.length = n at *
  have Hn := Lib.hid hn
  clear hown hown' hb1 hg ht hn
  go_wp2_with fail
  go_loopw [9] (fun i wr => ∃ k : Nat, k ≤ n ∧ i = .int .i64 k ∧ ∃ q, wr = w1.drewN q) (fun i _ => n - (intOf i).toNat)
  case atStart => exact ⟨0, by omega, rfl, 0, rfl⟩
  case round =>
    obtain ⟨k, hk, rfl, q, rfl⟩ := hrel
    by_cases hlt : k < n
    · obtain ⟨b, o, rfl, hb⟩ := HX.out.2 (by omega)
      by_cases h0 : k = 0
      · subst h0
        clear hb
        go_wp2
        go_quiet (fail)
        go_wp2
        go_roundw
        case rel => exact ⟨1, by omega, rfl, _, rfl⟩
        case measure => simp [intOf]; omega
      · obtain ⟨j, rfl⟩ : ∃ j, k = j + 1 := ⟨k - 1, by omega⟩
        have c1 := hb j (by omega)
        have c2 := hb (j + 1) hlt
        rw [getD_map _ _ _ (by rw [Hn.out]; omega)] at c1 c2
        have hlt2 := rises_lt HR.out j (j + 1) (by omega) (by rw [Hn.out]; exact hlt)
        clear hb
        generalize (l[j]'(by rw [Hn.out]; omega)).1 = x at *
        generalize (l[j + 1]'(by rw [Hn.out]; exact hlt)).1 = y at *
        have d1 : decide (y ≤ x) = false := decide_eq_false (by omega)
        have k0 : (0 : Int) ≤ (j : Int) := by omega
        have k1 : (j : Int) < (n : Int) := by omega
        have k2 : (0 : Int) ≤ (j : Int) + 1 := by omega
        have k3 : (j : Int) + 1 < (n : Int) := by omega
        have k4 : decide ((0 : Int) < (j : Int) + 1) = true := decide_eq_true (by omega)
        go_wp2
        go_quiet (fail)
        go_wp2
        go_roundw
        case rel => exact ⟨j + 1 + 1, by omega, by go_num, _, rfl⟩
        case measure => simp [intOf]; omega
    · obtain rfl : k = n := by omega
      go_wp2_with (go_at_call 45; (with_reducible refine (balanced_T _ s p l _ (Nat.le_refl _) (T.keep HT.out (BK.drewN _ _)) HB.out (by rw [Hn.out]; exact hlen)).mono ?_); rintro e w5 ⟨rfl, q5, rfl⟩)
      go_ret
      exact ⟨rfl, below_drewN Hb1.out _⟩
end Go.Proofs.Ytbpmigcbfbdnjaa.II
