/- OrderedHeight: its walk. -/
import Derived.Test.YtbpmigcbfbdnjaaBal
import Derived.Test.YtbpmigcbfbdnjaaAlive16
namespace Go.Proofs.Ytbpmigcbfbdnjaa
open Go.RowKit
open II in
/-- What the loops keep: a balanced table of at most m entries. -/
def HgtI (W0 : World) (g m : Nat) (w : World) : Prop := ∃ (s : Code) (L : List (Int × Int)), TabAt w g s L ∧ Rises klt L ∧ Bal s ∧ L.length ≤ m ∧ Below W0.heap.size W0 w

open II in
theorem HgtI.least {w : World} {g : Nat} {s : Code} {L : List (Int × Int)} (h1 : TabAt w g s L) (h3 : Bal s) : decide (L.length < leastN (ht s)) = false := by
  have := leastN_le _ s (Nat.le_refl _) h3
  have := h1.len
  exact decide_eq_false (by omega)

open II in
set_option maxHeartbeats 4000000 in
set_option maxRecDepth 100000 in
theorem OrderedHeight_any (A B : Option Addr) (n c m d : Nat) (l r : List Int) (w : World) (hl : RX w A n (l.map (Value.int .i64))) (hr : RX w B m (r.map (Value.int .i64))) (hn : n ≤ maxLen) (hm : m ≤ maxLen) :
    Calls Try.prog 4 #[.slice A n c, .slice B m d] w fun e w' => e = .returned (.bool true) ∧ Below w.heap.size w w' := by
  unfold maxLen at hn hm
  by_cases h1 : 120 < n
  · have d1 : decide (120 < (n : Int)) = true := decide_eq_true (by omega)
    clear hl hr
    go_enter Try.func4, Try.ntmps4
    go_wp2_with (go_at_call 6; refine (alive16_any _).mono ?_; rintro e w1 ⟨rfl, hb1⟩)
    go_ret
    exact ⟨rfl, hb1⟩
  have d1 : decide (120 < (n : Int)) = false := decide_eq_false (by omega)
  by_cases h2 : 120 < m
  · have d2 : decide (120 < (m : Int)) = true := decide_eq_true (by omega)
    clear hl hr
    go_enter Try.func4, Try.ntmps4
    go_wp2_with (go_at_call 6; refine (alive16_any _).mono ?_; rintro e w1 ⟨rfl, hb1⟩)
    go_ret
    exact ⟨rfl, hb1⟩
  have d2 : decide (120 < (m : Int)) = false := decide_eq_false (by omega)
  have hll := Lib.hid (show l.length = n by have := hl.1; simpa using this)
  have hrl := Lib.hid (show r.length = m by have := hr.1; simpa using this)
  have Hl := Lib.hid hl
  have Hr := Lib.hid hr
  clear hl hr
  go_enter Try.func4, Try.ntmps4
  go_wp2_with (first
    | (go_at_call 6; refine (alive16_any _).mono ?_; rintro e w1 ⟨rfl, hb1⟩)
    | (go_at_call 7; refine (New_T _).mono ?_; rintro e w2 ⟨rfl, ht2, hb2⟩))
  have HB := Lib.hid (hb1.trans (hb2.mono hb1.size))
  have HT := Lib.hid ht2
  have hg0 : w.heap.size ≤ w1.heap.size := hb1.size
  generalize hg : w1.heap.size = g at *
  clear hb1 hb2 ht2 hg d1 d2
  go_loopw [25] (fun i wr => ∃ k : Nat, k ≤ n ∧ i = .int .i64 (k : Int) ∧ HgtI w g k wr) (fun i _ => n - (intOf i).toNat)
  case atStart => exact ⟨0, by omega, rfl, .skip, [], HT.out, List.Pairwise.nil, trivial, Nat.le_refl _, HB.out⟩
  case round =>
    obtain ⟨k, hk, rfl, s, L, ha, hri, hbal, hlen, hbel⟩ := hrel
    have HA := Lib.hid ha
    have HR := Lib.hid hri
    have Hbal := Lib.hid hbal
    have HBe := Lib.hid hbel
    clear ha hri hbal hbel
    by_cases hlt : k < n
    · obtain ⟨b, o, rfl, hb⟩ := Hl.out.2 (by omega)
      have c1 := Keeps.of_below HBe.out _ _ (hb k hlt)
      rw [getD_map _ _ _ (by rw [hll.out]; exact hlt)] at c1
      generalize l[k]'(by rw [hll.out]; exact hlt) = x at *
      have k0 : (0 : Int) ≤ (k : Int) := by omega
      have k1 : (k : Int) < (n : Int) := by omega
      have HP := Lib.hid (Put_T g x (k : Int) s L wr HA.out HR.out (by omega))
      have hb2 := putS_bal klt x _ s L (Nat.le_refl _) HA.out.len Hbal.out
      have Hb2 := Lib.hid hb2.1
      have HR2 := Lib.hid (ins_rises klin (k := x) (v := (k : Int)) HR.out)
      have HL2 : (ins klt x (k : Int) L).length ≤ k + 1 := by rw [ins_length]; split <;> omega
      clear hb hb2
      generalize putS klt x s L = s2 at *
      generalize ins klt x (k : Int) L = L2 at *
      go_wp2_with (first
        | (go_at_call 8; refine HP.out.mono ?_; rintro e w3 ⟨rfl, ht3, hf3⟩; have HT3 := Lib.hid ht3; have hb3 := HBe.out.trans (hf3.below HBe.out.size (fun i _ h => by omega)); have HB3 := Lib.hid hb3; clear ht3 hf3 hb3)
        | (go_at_call 14; refine (Balanced_T g s2 L2 w3 HT3.out HR2.out Hb2.out (by omega)).mono ?_; rintro e w4 ⟨rfl, hb4⟩; have HT4 := Lib.hid (HT3.out.below hb4); have hbb := HB3.out.trans (hb4.mono HB3.out.size); have HB4 := Lib.hid hbb; have q1 := HgtI.least HT4.out Hb2.out; clear hb4 hbb)
        | (go_at_call 15; refine (Len_T g s2 L2 w4 HT4.out).mono ?_; rintro e w5 ⟨rfl, rfl⟩)
        | (go_at_call 17; refine (Height_T g s2 L2 w4 HT4.out).mono ?_; rintro e w5 ⟨rfl, rfl⟩)
        | (go_at_call 16; refine (Least_any (ht s2) w4 (by have := leastN_le _ s2 (Nat.le_refl _) Hb2.out; have := HT4.out.len; omega) (by have := ht_le _ s2 (Nat.le_refl _); have := HT4.out.len; omega)).mono ?_; rintro e w5 ⟨rfl, rfl⟩))
      go_roundw
      case rel => exact ⟨k + 1, by omega, by go_num, s2, L2, HT4.out, HR2.out, Hb2.out, HL2, HB4.out⟩
      case measure => simp [intOf]; omega
    · obtain rfl : k = n := by omega
      go_wp2
      go_loopw [48] (fun i wr => ∃ j : Nat, j ≤ m ∧ i = .int .i64 (j : Int) ∧ HgtI w g k wr) (fun i _ => m - (intOf i).toNat)
      case atStart => exact ⟨0, by omega, rfl, s, L, HA.out, HR.out, Hbal.out, hlen, HBe.out⟩
      case round =>
        clear HA HR Hbal HBe
        obtain ⟨j, hj, rfl, s, L, ha, hri, hbal, hlen, hbel⟩ := hrel
        have HA := Lib.hid ha
        have HR := Lib.hid hri
        have Hbal := Lib.hid hbal
        have HBe := Lib.hid hbel
        clear ha hri hbal hbel
        by_cases hlt : j < m
        · obtain ⟨b, o, rfl, hb⟩ := Hr.out.2 (by omega)
          have c1 := Keeps.of_below HBe.out _ _ (hb j hlt)
          rw [getD_map _ _ _ (by rw [hrl.out]; exact hlt)] at c1
          generalize r[j]'(by rw [hrl.out]; exact hlt) = x at *
          have k0 : (0 : Int) ≤ (j : Int) := by omega
          have k1 : (j : Int) < (m : Int) := by omega
          have HP := Lib.hid (Del_T g x s L wr HA.out HR.out (by omega))
          have hb2 := delS_bal klt x _ s L (Nat.le_refl _) HA.out.len Hbal.out
          have Hb2 := Lib.hid hb2.1
          have HR2 := Lib.hid (rem_rises (k := x) HR.out)
          have HL2 : (rem klt x L).length ≤ k := by rw [rem_length]; split <;> omega
          have HK2 := Lib.hid (rem_look klin (k := x) HR.out)
          clear hb hb2
          generalize delS klt x s L = s2 at *
          generalize rem klt x L = L2 at *
          go_wp2_with (first
            | (go_at_call 18; refine HP.out.mono ?_; rintro e w3 ⟨rfl, ht3, hf3⟩; have HT3 := Lib.hid ht3; have hb3 := HBe.out.trans (hf3.below HBe.out.size (fun i _ h => by omega)); have HB3 := Lib.hid hb3; clear ht3 hf3 hb3)
            | (go_at_call 19; refine (Get_T g x s2 L2 w3 HT3.out HR2.out).mono ?_; rw [HK2.out]; rintro e w4 ⟨rfl, rfl⟩)
            | (go_at_call 14; refine (Balanced_T g s2 L2 w3 HT3.out HR2.out Hb2.out (by omega)).mono ?_; rintro e w4 ⟨rfl, hb4⟩; have HT4 := Lib.hid (HT3.out.below hb4); have hbb := HB3.out.trans (hb4.mono HB3.out.size); have HB4 := Lib.hid hbb; have q1 := HgtI.least HT4.out Hb2.out; clear hb4 hbb)
            | (go_at_call 15; refine (Len_T g s2 L2 w4 HT4.out).mono ?_; rintro e w5 ⟨rfl, rfl⟩)
            | (go_at_call 17; refine (Height_T g s2 L2 w4 HT4.out).mono ?_; rintro e w5 ⟨rfl, rfl⟩)
            | (go_at_call 16; refine (Least_any (ht s2) w4 (by have := leastN_le _ s2 (Nat.le_refl _) Hb2.out; have := HT4.out.len; omega) (by have := ht_le _ s2 (Nat.le_refl _); have := HT4.out.len; omega)).mono ?_; rintro e w5 ⟨rfl, rfl⟩))
          go_roundw
          case rel => exact ⟨j + 1, by omega, by go_num, s2, L2, HT4.out, HR2.out, Hb2.out, HL2, HB4.out⟩
          case measure => simp [intOf]; omega
        · obtain rfl : j = m := by omega
          go_wp2
          go_ret
          exact ⟨rfl, HBe.out⟩
end Go.Proofs.Ytbpmigcbfbdnjaa
