/- OrderedFold: its walk. -/
import Derived.Test.YtbpmigcbfbdnjaaBal
import Derived.Test.YtbpmigcbfbdnjaaAlive16
import Derived.Test.YtbpmigcbfbdnjaaFold
import Derived.Test.YtbpmigcbfbdnjaaFoldP
import Derived.Test.YtbpmigcbfbdnjaaSameInts
namespace Go.Proofs.Ytbpmigcbfbdnjaa
open Go.RowKit
open II in
/-- Two tables apart, of the entries L and R. -/
def TwoI (W0 : World) (g h : Nat) (L R : List (Int × Int)) (w : World) : Prop := (∃ s, TabAt w g s L) ∧ (∃ s, TabAt w h s R) ∧ Below W0.heap.size W0 w

open II in
theorem Fold_T (g : Nat) (s : Code) (first : Int) (l : List (Int × Int)) (w : World) (a : TabAt w g s l) :
    Calls Try.prog 13 #[.pointer (some ⟨g, 0, none⟩), .int .i64 first, .func (.func 11) #[] #[]] w fun e w' => e = .returned (.int .i64 (l.foldl (fun s y => addI s y.1 y.2) first)) ∧ Below w.heap.size w w' :=
  callsIn_wide.1 (Fold_in Fence.wide rfl rfl 3 trivial trivial trivial trivial rfl (Nat.le_refl _) g s first l w a)

open II in
/-- What loop 3 sums up. -/
def sumTo (L : List (Int × Int)) (k : Nat) : Int := (L.take k).foldl (fun s y => addI s y.1 1) 7

open II in
theorem sumTo_succ (L : List (Int × Int)) (k : Nat) (h : k < L.length) : sumTo L (k + 1) = addI (sumTo L k) L[k].1 1 := by
  unfold sumTo
  rw [List.take_succ_eq_append_getElem h, List.foldl_append]
  rfl

open II in
theorem fold_ones : ∀ (L : List (Int × Int)) (s : Int), (∀ e ∈ L, e.2 = 1) → L.foldl (fun s y => addI s y.1 y.2) s = L.foldl (fun s y => addI s y.1 1) s := by
  intro L
  induction L with
  | nil => intros; rfl
  | cons e L ih =>
    intro s h
    rw [List.foldl_cons, List.foldl_cons, h e List.mem_cons_self, ih _ fun x hx => h x (List.mem_cons_of_mem _ hx)]

open II in
theorem sumTo_all (L : List (Int × Int)) (h : ∀ e ∈ L, e.2 = 1) : L.foldl (fun s y => addI s y.1 y.2) 7 = sumTo L L.length := by
  rw [fold_ones L 7 h, sumTo, List.take_length]

open II in
set_option maxHeartbeats 4000000 in
set_option maxRecDepth 100000 in
theorem OrderedFold_any (A : Option Addr) (n c : Nat) (l : List Int) (turn : Int) (w : World) (hl : RX w A n (l.map (Value.int .i64))) (hn : n ≤ maxLen) :
    Calls Try.prog 3 #[.slice A n c, .int .i64 turn] w fun e w' => e = .returned (.bool true) ∧ Below w.heap.size w w' := by
  unfold maxLen at hn
  by_cases h1 : 30 < n
  · have d1 : decide (30 < (n : Int)) = true := decide_eq_true (by omega)
    clear hl
    go_enter Try.func3, Try.ntmps3
    go_wp2_with (go_at_call 6; refine (alive16_any _).mono ?_; rintro e w1 ⟨rfl, hb1⟩)
    go_ret
    exact ⟨rfl, hb1⟩
  have d1 : decide (30 < (n : Int)) = false := decide_eq_false (by omega)
  have hu : 0 ≤ IntKind.u64.wrap turn := by simp [IntKind.wrap, IntKind.bits, IntKind.signed]; omega
  obtain ⟨r, hr⟩ : ∃ r, r = (IntKind.u64.wrap turn).toNat % n := ⟨_, rfl⟩
  have Hr := Lib.hid hr
  have Hu := Lib.hid hu
  clear hr hu
  have hll := Lib.hid (show l.length = n by have := hl.1; simpa using this)
  have Hl := Lib.hid hl
  clear hl
  go_enter Try.func3, Try.ntmps3
  go_wp2_with (first
    | (go_at_call 6; refine (alive16_any _).mono ?_; rintro e w1 ⟨rfl, hb1⟩; replace hb1 := Lib.hid hb1)
    | (go_at_call 7; (with_reducible refine (New_T w1).mono ?_); rintro e w2 ⟨rfl, ht2, hb2⟩; replace ht2 := Lib.hid ht2; replace hb2 := Lib.hid hb2)
    | (go_at_call 7; (with_reducible refine (New_T w2).mono ?_); rintro e w3 ⟨rfl, ht3, hb3⟩; replace ht3 := Lib.hid ht3; replace hb3 := Lib.hid hb3))
  have HT : Hid (TwoI w w1.heap.size w2.heap.size [] [] w3) := Lib.hid (show TwoI _ _ _ _ _ _ from ⟨⟨_, ht2.out.below hb3.out⟩, ⟨_, ht3.out⟩, hb1.out.trans ((hb2.out.trans (hb3.out.mono hb2.out.size)).mono hb1.out.size)⟩)
  have hg0 : w.heap.size ≤ w1.heap.size := hb1.out.size
  have hgh : w1.heap.size < w2.heap.size := ht2.out.lt
  generalize w1.heap.size = g at *
  generalize w2.heap.size = h at *
  clear hb1 ht2 hb2 ht3 hb3 d1
  go_loopw [23] (fun i wr => ∃ k : Nat, k ≤ n ∧ i = .int .i64 (k : Int) ∧ TwoI w g h (insAll klt (l.take k)) [] wr) (fun i _ => n - (intOf i).toNat)
  case atStart => exact ⟨0, by omega, rfl, HT.out⟩
  case round =>
    clear HT
    obtain ⟨k, hk, rfl, ⟨s, ha⟩, ⟨s', hb⟩, hbel⟩ := hrel
    have HA := Lib.hid ha
    have HB := Lib.hid hb
    have HBe := Lib.hid hbel
    clear ha hb hbel
    by_cases hlt : k < n
    · obtain ⟨b, o, rfl, hb⟩ := Hl.out.2 (by omega)
      have c1 := Keeps.of_below HBe.out _ _ (hb k hlt)
      rw [getD_map _ _ _ (by rw [hll.out]; exact hlt)] at c1
      have HS : Hid (insAll klt (l.take (k + 1)) = ins klt (l[k]'(by rw [hll.out]; exact hlt)) 1 (insAll klt (l.take k))) := Lib.hid (show _ = _ by rw [List.take_succ_eq_append_getElem (by rw [hll.out]; exact hlt), insAll_snoc])
      generalize l[k]'(by rw [hll.out]; exact hlt) = x at *
      have k0 : (0 : Int) ≤ (k : Int) := by omega
      have k1 : (k : Int) < (n : Int) := by omega
      have HP := Lib.hid (Put_T g x 1 s _ wr HA.out (insAll_rises klin _) (by have := insAll_len (lt := klt) (l.take k); simp at this; omega))
      clear hb
      go_wp2_with (go_at_call 8; refine HP.out.mono ?_; rintro e w3 ⟨rfl, ht3, hf3⟩; replace ht3 := Lib.hid ht3; replace hf3 := Lib.hid hf3)
      go_roundw
      case rel => exact ⟨k + 1, by omega, by go_num, ⟨_, by rw [HS.out]; exact ht3.out⟩, ⟨_, HB.out.fr hf3.out (by omega) (HA.out.apart)⟩, HBe.out.trans (hf3.out.below HBe.out.size (fun i _ h => by omega))⟩
      case measure => simp [intOf]; omega
    · obtain rfl : k = n := by omega
      have HT : Hid (TwoI w g h (insAll klt l) (insAll klt ((turned l r).take 0)) wr) := Lib.hid (show TwoI _ _ _ _ _ _ from ⟨⟨_, by have := HA.out; rwa [List.take_of_length_le (Nat.le_of_eq hll.out)] at this⟩, ⟨_, HB.out⟩, HBe.out⟩)
      clear HA HB HBe
      go_wp2
      go_loopw [33] (fun i wr => ∃ j : Nat, j ≤ k ∧ i = .int .i64 (j : Int) ∧ TwoI w g h (insAll klt l) (insAll klt ((turned l r).take j)) wr) (fun i _ => k - (intOf i).toNat)
      case atStart => exact ⟨0, by omega, rfl, HT.out⟩
      case round =>
        clear HT
        obtain ⟨j, hj, rfl, ⟨s, ha⟩, ⟨s', hb⟩, hbel⟩ := hrel
        have HA := Lib.hid ha
        have HB := Lib.hid hb
        have HBe := Lib.hid hbel
        clear ha hb hbel
        by_cases hlt : j < k
        · obtain ⟨b, o, rfl, hb⟩ := Hl.out.2 (by omega)
          have k0 : (0 : Int) ≤ (j : Int) := by omega
          have k1 : (j : Int) < (k : Int) := by omega
          have k2 : ((k : Int) = 0) = False := eq_false (by omega)
          have hrk : r < k := by rw [Hr.out]; exact Nat.mod_lt _ (by omega)
          obtain ⟨m, hm⟩ : ∃ m, m = (r + j) % k := ⟨_, rfl⟩
          have hmk : m < k := by rw [hm]; exact Nat.mod_lt _ (by omega)
          have e1 : (IntKind.u64.wrap turn).tmod (k : Int) = (r : Int) := by
            rw [Int.tmod_eq_emod_of_nonneg Hu.out, Hr.out, Int.natCast_emod, Int.toNat_of_nonneg Hu.out]
          have e2 : ((r : Int) + (j : Int)).tmod (k : Int) = (m : Int) := by
            rw [Int.tmod_eq_emod_of_nonneg (by omega), hm, Int.natCast_emod, Int.natCast_add]
          have c1 := Keeps.of_below HBe.out _ _ (hb m hmk)
          rw [getD_map _ _ _ (by rw [hll.out]; exact hmk)] at c1
          have HS0 := turned_take l r j (by rw [hll.out]; exact hlt)
          rw [hll.out, ← hm, List.getD_eq_getElem?_getD, List.getElem?_eq_getElem (by rw [hll.out]; exact hmk)] at HS0
          have HS : Hid (insAll klt ((turned l r).take (j + 1)) = ins klt (l[m]'(by rw [hll.out]; exact hmk)) 1 (insAll klt ((turned l r).take j))) := Lib.hid (show _ = _ by
            rw [HS0, insAll_snoc]
            rfl)
          clear HS0
          generalize l[m]'(by rw [hll.out]; exact hmk) = x at *
          have m0 : (0 : Int) ≤ (m : Int) := by omega
          have m1 : (m : Int) < (k : Int) := by omega
          have HP := Lib.hid (Put_T h x 1 s' _ wr HB.out (insAll_rises klin _) (by have := insAll_len (lt := klt) ((turned l r).take j); rw [List.length_take, turned_len] at this; omega))
          clear hb hm
          go_wp2_with (go_at_call 8; refine HP.out.mono ?_; rintro e w3 ⟨rfl, ht3, hf3⟩; replace ht3 := Lib.hid ht3; replace hf3 := Lib.hid hf3)
          go_roundw
          case rel => exact ⟨j + 1, by omega, by go_num, ⟨_, HA.out.fr hf3.out (by omega) (HB.out.apart)⟩, ⟨_, by rw [HS.out]; exact ht3.out⟩, HBe.out.trans (hf3.out.below HBe.out.size (fun i _ h => by omega))⟩
          case measure => simp [intOf]; omega
        · obtain rfl : j = k := by omega
          have HT : Hid (TwoI w g h (insAll klt l) (insAll klt l) wr) := Lib.hid (show TwoI _ _ _ _ _ _ from ⟨⟨_, HA.out⟩, ⟨_, by
            have := HB.out
            rwa [List.take_of_length_le (by rw [turned_len, hll.out]; exact Nat.le_refl _), ← insAll_eq klin (turned_mem l r)] at this⟩, HBe.out⟩)
          have HX := insAll_len (lt := klt) l
          have HR := Lib.hid (insAll_rises klin (lt := klt) l)
          have H1 : Hid (∀ e ∈ insAll klt l, e.2 = 1) := fun e he => ((insAll_mem klin l e).1 he).1
          rw [hll.out] at HX
          clear HA HB HBe s s' Hr Hu
          obtain ⟨⟨s, ha⟩, ⟨s', hb⟩, hbel⟩ := HT.out
          have HA := Lib.hid ha
          have HB := Lib.hid hb
          have HBe := Lib.hid hbel
          clear ha hb hbel HT
          generalize insAll klt l = L at *
          go_wp2_with (go_at_call 9; refine (Keys_T g s L wr HA.out (by omega)).mono ?_; rintro e w4 ⟨v4, rfl, ho4, hb4⟩; replace ho4 := Lib.hid (OwnS.of_own ho4); obtain ⟨A4, c4, rfl, hc4, hm4⟩ := OwnS.form ho4.out; replace hb4 := Lib.hid hb4)
          have HA4 := Lib.hid (HA.out.below hb4.out)
          have HB4 := Lib.hid (HB.out.below hb4.out)
          have HX4 := Lib.hid (RX.of_ownS ho4.out)
          have HBe4 := Lib.hid (HBe.out.trans (hb4.out.mono HBe.out.size))
          clear HA HB HBe hb4 ho4
          obtain ⟨N, hN⟩ : ∃ N, N = L.length := ⟨_, rfl⟩
          have HN := Lib.hid hN
          rw [← hN] at HX4 hc4 HX ⊢
          clear hN hm4
          go_loopw [11, 58] (fun v i wr => ∃ m : Nat, m ≤ N ∧ i = .int .i64 (m : Int) ∧ v = .int .i64 (sumTo L m) ∧ wr = w4) (fun _ i _ => N - (intOf i).toNat)
          case atStart => exact ⟨0, by omega, rfl, rfl, rfl⟩
          case round =>
            obtain ⟨m, hm, rfl, rfl, rfl⟩ := hrel
            by_cases hlt : m < N
            · obtain ⟨b, o, rfl, hb⟩ := HX4.out.2 (by omega)
              have HS : Hid (sumTo L (m + 1) = addI (sumTo L m) (L[m]'(by rw [← HN.out]; exact hlt)).1 1) := sumTo_succ L m (by rw [← HN.out]; exact hlt)
              have HK : Hid (rank klt (L[m]'(by rw [← HN.out]; exact hlt)).1 L = m) := rank_get klin HR.out m (by rw [← HN.out]; exact hlt)
              have c1 := hb m hlt
              rw [getD_map _ _ _ (by rw [← HN.out]; exact hlt)] at c1
              by_cases h0 : m = 0
              · subst h0
                rw [Nat.add_zero] at c1
                clear hb
                generalize (L[0]'(by rw [← HN.out]; exact hlt)).1 = y at *
                generalize sumTo L 0 = sm at *
                have k1 : (0 : Int) < (N : Int) := by omega
                have HRk := Lib.hid (Rank_T g y s L wr HA4.out HR.out (by rw [← HN.out]; omega))
                rw [HK.out] at HRk
                go_wp2_with (first
                  | (go_at_call 10; refine HRk.out.mono ?_; rintro e w5 ⟨rfl, rfl⟩)
                  | (go_at_call 11; refine (add_any _ _ _ _).mono ?_; rintro e w5 ⟨rfl, rfl⟩))
                go_roundw
                case rel => exact ⟨1, by omega, rfl, by rw [HS.out], by first | rfl | trivial⟩
                case measure => simp [intOf]; omega
              · obtain ⟨j, rfl⟩ : ∃ j, m = j + 1 := ⟨m - 1, by omega⟩
                have c2 := hb j (by omega)
                rw [getD_map _ _ _ (by rw [← HN.out]; omega)] at c2
                have hlt2 := rises_lt HR.out j (j + 1) (by omega) (by rw [← HN.out]; exact hlt)
                clear hb
                generalize (L[j]'(by rw [← HN.out]; omega)).1 = x at *
                generalize (L[j + 1]'(by rw [← HN.out]; exact hlt)).1 = y at *
                generalize sumTo L (j + 1) = sm at *
                have d1 : decide (y ≤ x) = false := decide_eq_false (by omega)
                have k0 : (0 : Int) ≤ (j : Int) := by omega
                have k1 : (j : Int) < (N : Int) := by omega
                have k2 : (0 : Int) ≤ (j : Int) + 1 := by omega
                have k3 : (j : Int) + 1 < (N : Int) := by omega
                have k4 : decide ((0 : Int) < (j : Int) + 1) = true := decide_eq_true (by omega)
                have HRk := Lib.hid (Rank_T g y s L wr HA4.out HR.out (by rw [← HN.out]; omega))
                rw [HK.out] at HRk
                go_wp2_with (first
                  | (go_at_call 10; refine HRk.out.mono ?_; rintro e w5 ⟨rfl, rfl⟩)
                  | (go_at_call 11; refine (add_any _ _ _ _).mono ?_; rintro e w5 ⟨rfl, rfl⟩))
                go_roundw
                case rel => exact ⟨j + 1 + 1, by omega, by go_num, by rw [HS.out], by first | rfl | trivial⟩
                case measure => simp [intOf]; omega
            · obtain rfl : m = N := by omega
              have HSm : Hid (L.foldl (fun s y => addI s y.1 y.2) 7 = sumTo L m) := Lib.hid (by rw [HN.out]; exact sumTo_all L H1.out)
              generalize sumTo L m = sm at *
              go_wp2_with (first
                | (go_at_call 9; refine (Keys_T h s' L wr HB4.out (by rw [← HN.out]; omega)).mono ?_; rw [← HN.out]; rintro e w5 ⟨v5, rfl, ho5, hb5⟩; replace ho5 := Lib.hid (OwnS.of_own ho5); obtain ⟨A5, c5, rfl, hc5, hm5⟩ := OwnS.form ho5.out; replace hb5 := Lib.hid hb5)
                | (go_at_call 12; refine (SameInts_any A4 A5 m m c4 c5 (L.map fun y => y.1) (L.map fun y => y.1) w5 (by rw [List.map_map]; exact HX4.out.keep (Keeps.of_below hb5.out)) (by rw [List.map_map]; exact RX.of_ownS ho5.out) (by unfold maxLen; omega) (by unfold maxLen; omega)).mono ?_; rw [decide_eq_true (show (L.map fun y => y.1) = L.map fun y => y.1 from rfl)]; rintro e w6 ⟨rfl, q6, rfl⟩)
                | (go_at_call 13; (with_reducible refine (Fold_T g s 7 L (w5.drewN q6) (HA4.out.below (below_drewN hb5.out _))).mono ?_); rw [HSm.out]; rintro e w7 ⟨rfl, hb7⟩; replace hb7 := Lib.hid hb7; have HB7 := Lib.hid (HB4.out.below ((below_drewN hb5.out q6).trans (hb7.out.mono hb5.out.size))))
                | (go_at_call 13; (with_reducible refine (Fold_T h s' 7 L w7 HB7.out).mono ?_); rw [HSm.out]; rintro e w8 ⟨rfl, hb8⟩; replace hb8 := Lib.hid hb8))
              go_ret
              exact ⟨rfl, HBe4.out.trans (((below_drewN hb5.out q6).trans ((hb7.out.trans (hb8.out.mono hb7.out.size)).mono hb5.out.size)).mono HBe4.out.size)⟩
end Go.Proofs.Ytbpmigcbfbdnjaa
