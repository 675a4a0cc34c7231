/- Layer 16, tables of int to bool: put, del, least, find. -/
import Derived.Test.YtgiaifglkecdjaaOrdIB
namespace Go.Proofs.Ytgiaifglkecdjaa.IB
open Go.RowKit

set_option maxHeartbeats 1000000 in
theorem joined_T (b : Nat) (k : Int) (v : Bool) (sl sr : Code) (pl pr : Option Addr) (ll lr : List (Int × Bool)) (w : World)
    (c : w.cell? ⟨b, 0, none⟩ = some (.int .i64 k) ∧ w.cell? ⟨b, 1, none⟩ = some (.bool v)) (al : T w sl pl ll) (ar : T w sr pr lr) (hs : ll.length + lr.length ≤ 1099511627776) :
    Calls Try.prog 41 #[.pointer (some ⟨b, 0, none⟩), .pointer pl, .pointer pr] w fun e w' => ∃ p, e = .returned (.pointer p) ∧ T w' (joinS sl sr) p (ll ++ (k, v) :: lr) ∧ Below w.heap.size w w' := by
  have b1 := al.le
  have b2 := ar.le
  have b3 : ht sl ≤ 1099511627776 := by omega
  have b4 : ht sr ≤ 1099511627776 := by omega
  have H1 := Lib.hid al
  have H2 := Lib.hid ar
  have HK := Lib.hid c
  clear al ar c
  by_cases g1 : ht sr + 1 < ht sl
  · have d1 : decide (1 < (ht sl : Int) - (ht sr : Int)) = true := decide_eq_true (by omega)
    have HJ : Hid (joinS sl sr = lowS sl sr) := by
      show _ = _
      simp only [joinS]
      rw [if_pos g1]
    have G : Hid (0 < ht sl) := show 0 < ht sl by omega
    clear g1
    go_enter Try.func41, Try.ntmps41
    go_wp2_with (first
      | (go_at_call 33; (with_reducible refine (high_T sl pl ll _ H1.out).mono ?_); rintro e w' ⟨rfl, rfl⟩)
      | (go_at_call 33; (with_reducible refine (high_T sr pr lr _ H2.out).mono ?_); rintro e w' ⟨rfl, rfl⟩)
      | (go_at_call 48; refine (lower_T b k v sl sr pl pr ll lr _ HK.out.1 HK.out.2 H1.out H2.out G.out hs).mono ?_; rintro e w1 ⟨p, rfl, ht, hb⟩; have Ht := Lib.hid ht; clear ht))
    go_ret
    exact ⟨p, rfl, by rw [HJ.out]; exact Ht.out, hb⟩
  · have d1 : decide (1 < (ht sl : Int) - (ht sr : Int)) = false := decide_eq_false (by omega)
    by_cases g2 : ht sl + 1 < ht sr
    · have d2 : decide ((ht sl : Int) - (ht sr : Int) < -1) = true := decide_eq_true (by omega)
      have HJ : Hid (joinS sl sr = raiS sl sr) := by
        show _ = _
        simp only [joinS]
        rw [if_neg g1, if_pos g2]
      have G : Hid (0 < ht sr) := show 0 < ht sr by omega
      clear g1 g2
      go_enter Try.func41, Try.ntmps41
      go_wp2_with (first
        | (go_at_call 33; (with_reducible refine (high_T sl pl ll _ H1.out).mono ?_); rintro e w' ⟨rfl, rfl⟩)
        | (go_at_call 33; (with_reducible refine (high_T sr pr lr _ H2.out).mono ?_); rintro e w' ⟨rfl, rfl⟩)
        | (go_at_call 49; refine (raise_T b k v sl sr pl pr ll lr _ HK.out.1 HK.out.2 H1.out H2.out G.out hs).mono ?_; rintro e w1 ⟨p, rfl, ht, hb⟩; have Ht := Lib.hid ht; clear ht))
      go_ret
      exact ⟨p, rfl, by rw [HJ.out]; exact Ht.out, hb⟩
    · have d2 : decide ((ht sl : Int) - (ht sr : Int) < -1) = false := decide_eq_false (by omega)
      have HJ : Hid (joinS sl sr = .seq sl sr) := by
        show _ = _
        simp only [joinS]
        rw [if_neg g1, if_neg g2]
      clear g1 g2
      go_enter Try.func41, Try.ntmps41
      go_wp2_with (first
        | (go_at_call 33; (with_reducible refine (high_T sl pl ll _ H1.out).mono ?_); rintro e w' ⟨rfl, rfl⟩)
        | (go_at_call 33; (with_reducible refine (high_T sr pr lr _ H2.out).mono ?_); rintro e w' ⟨rfl, rfl⟩)
        | (go_at_call 50; refine (with_T b k v sl sr pl pr ll lr _ HK.out.1 HK.out.2 H1.out H2.out hs).mono ?_; rintro e w1 ⟨p, rfl, ht, hb⟩; have Ht := Lib.hid ht; clear ht))
      go_ret
      exact ⟨p, rfl, by rw [HJ.out]; exact Ht.out, hb⟩

/-! ### comparing -/

def klt (a b : Int) : Bool := decide (a < b)
theorem klin : Lin klt := ⟨fun a => by simp [klt], fun a b c h1 h2 => by simp [klt] at *; omega, fun a b h1 h2 => by simp [klt] at *; omega⟩
theorem nan_any (a : Int) (w : World) : Calls Try.prog 47 #[.int .i64 a] w fun e w' => e = .returned (.bool false) ∧ w = w' := by
  go_enter Try.func47, Try.ntmps47
  go_wp2
  go_ret
  exact ⟨rfl, rfl⟩
theorem cmp_lt (a b : Int) (w : World) (h : klt a b = true) : Calls Try.prog 40 #[.int .i64 a, .int .i64 b] w fun e w' => e = .returned (.int .i64 (-1)) ∧ w = w' := by
  have h1 : a < b := by simpa [klt] using h
  clear h
  go_enter Try.func40, Try.ntmps40
  go_wp2_with (go_at_call 47; refine (nan_any _ _).mono ?_; rintro e w' ⟨rfl, rfl⟩)
  go_ret
  exact ⟨rfl, rfl⟩
theorem cmp_gt (a b : Int) (w : World) (h : klt b a = true) : Calls Try.prog 40 #[.int .i64 a, .int .i64 b] w fun e w' => e = .returned (.int .i64 1) ∧ w = w' := by
  have h1 : b < a := by simpa [klt] using h
  have h2 : ¬ a < b := by omega
  clear h
  go_enter Try.func40, Try.ntmps40
  go_wp2_with (go_at_call 47; refine (nan_any _ _).mono ?_; rintro e w' ⟨rfl, rfl⟩)
  go_ret
  exact ⟨rfl, rfl⟩
theorem cmp_eq (a : Int) (w : World) : Calls Try.prog 40 #[.int .i64 a, .int .i64 a] w fun e w' => e = .returned (.int .i64 0) ∧ w = w' := by
  go_enter Try.func40, Try.ntmps40
  go_wp2_with (go_at_call 47; refine (nan_any _ _).mono ?_; rintro e w' ⟨rfl, rfl⟩)
  go_ret
  exact ⟨rfl, rfl⟩

/-! ### put -/
set_option maxHeartbeats 4000000 in
set_option maxRecDepth 100000 in
theorem put_T (k : Int) (v : Bool) : ∀ (n : Nat) (s : Code) (p : Option Addr) (l : List (Int × Bool)) (w : World), sz s ≤ n → T w s p l → Rises klt l → l.length ≤ 1000000000 →
    Calls Try.prog 32 #[.pointer p, (.int .i64 k), (.bool v)] w fun e w' => ∃ p', e = .returned (.pointer p') ∧ T w' (putS klt k s l) p' (ins klt k v l) ∧ Below w.heap.size w w' := by
  have hnil : ∀ w : World, Calls Try.prog 32 #[.pointer none, (.int .i64 k), (.bool v)] w fun e w' => ∃ p', e = .returned (.pointer p') ∧ T w' (putS klt k .skip ([] : List (Int × Bool))) p' (ins klt k v []) ∧ Below w.heap.size w w' := by
    intro w
    go_enter Try.func32, Try.ntmps32
    go_wp2
    go_ret
    exact ⟨_, rfl, Tr.node (b := w.heap.size) (sl := .skip) (sr := .skip) (pl := none) (pr := none) (ll := []) (lr := []) (NP.new (heap_alloc_new w _) rfl rfl) (Tr.nil _) (Tr.nil _), (Below.refl _ w).alloc (Nat.le_refl _) _⟩
  intro n
  induction n with
  | zero =>
    intro s p l w hn a _ _
    rcases a.open with ⟨rfl, rfl, rfl⟩ | ⟨b, k, v, pl, pr, ll, lr, sl, sr, _, _, _, rfl, _, _⟩
    · exact hnil w
    · simp [sz] at hn
  | succ n ih =>
    intro s p l w hn tt hri hlen
    rcases tt.open with ⟨rfl, rfl, rfl⟩ | ⟨b, a, x, pl, pr, ll, lr, sl, sr, rfl, hnd, rfl, rfl, al, ar⟩
    · exact hnil w
    have hll := al.len
    have IH := Lib.hid ih
    clear ih hnil
    obtain ⟨c0, c1, c2, c3, c4, c5⟩ := NP.cells hnd
    simp only [List.length_append, List.length_cons] at hlen
    simp only [sz] at hn
    have HK := Lib.hid (And.intro c0 c1)
    have H1 := Lib.hid al
    have H2 := Lib.hid ar
    have HR := Lib.hid hri
    have hn1 : sz sl ≤ n := by omega
    have hn2 : sz sr ≤ n := by omega
    clear al ar hri hn hnd
    have Hk1 : Hid (BK w w.drew) := BK.drew w
    have Hb1 : Hid (Below w.heap.size w w.drew) := below_dr (Below.refl _ w)
    cases hlt : klt k a with
    | true =>
      have HI : Hid (ins klt k v (ll ++ (a, x) :: lr) = ins klt k v ll ++ (a, x) :: lr) := ins_left hlt
      have HS : Hid (putS klt k (.seq sl sr) (ll ++ (a, x) :: lr) = joinS (putS klt k sl ll) sr) := putS_lt hll hlt
      have HL : Hid ((ins klt k v ll).length ≤ ll.length + 1) := by
        show _ ≤ _
        rw [ins_length]
        split <;> omega
      have HC := Lib.hid hlt
      clear hlt hll
      go_enter Try.func32, Try.ntmps32
      go_wp2_with (go_at_call 40; refine (cmp_lt k a _ HC.out).mono ?_; rintro e w' ⟨rfl, rfl⟩)
      go_region_held3 (fun w' => w'.cell? ⟨b, 2, none⟩ = some (.pointer pl) ∧ w'.cell? ⟨b, 3, none⟩ = some (.pointer pr)) (go_keep)
        (first
          | (go_at_call 32; (with_reducible refine (IH.out sl pl ll _ hn1 (T.keep H1.out Hk1.out) HR.out.left (by omega)).mono ?_); rintro e w5 ⟨q5, rfl, t5, hb5⟩; have Hb5 := Lib.hid (Hb1.out.trans (hb5.mono Hb1.out.size)); have Ht5 := Lib.hid t5; have Hk5 := Lib.hid (Hk1.out.trans (BK.of_below hb5)); have s1 := (Hk1.out.trans (BK.of_below hb5)).cell _ _ c2; have s2 := (Hk1.out.trans (BK.of_below hb5)).cell _ _ c3; have m0 := (Hk1.out.trans (BK.of_below hb5)).cell _ _ HK.out.1; have m1 := (Hk1.out.trans (BK.of_below hb5)).cell _ _ HK.out.2; clear t5 hb5)
          | (go_at_call 41; (with_reducible refine (joined_T b a x (putS klt k sl ll) sr q5 pr _ lr w5 (And.intro m0 m1) Ht5.out (T.keep H2.out Hk5.out) (by have := HL.out; omega)).mono ?_); rintro e w7 ⟨q7, rfl, t7, hb7⟩; have Hb7 := Lib.hid (Hb5.out.trans (hb7.mono Hb5.out.size)); have Ht7 := Lib.hid t7; have s1 := (BK.of_below hb7).cell _ _ (Hk5.out.cell _ _ c2); have s2 := (BK.of_below hb7).cell _ _ (Hk5.out.cell _ _ c3); clear t7 hb7))
      go_wp2
      go_ret
      exact ⟨q7, rfl, by rw [HI.out, HS.out]; exact Ht7.out, Hb7.out⟩
    | false =>
      cases hgt : klt a k with
      | true =>
        have HI : Hid (ins klt k v (ll ++ (a, x) :: lr) = ll ++ (a, x) :: ins klt k v lr) := ins_right klin HR.out hgt
        have HS : Hid (putS klt k (.seq sl sr) (ll ++ (a, x) :: lr) = joinS sl (putS klt k sr lr)) := putS_gt hll hlt hgt
        have HL : Hid ((ins klt k v lr).length ≤ lr.length + 1) := by
          show _ ≤ _
          rw [ins_length]
          split <;> omega
        have HC := Lib.hid hgt
        clear hlt hgt hll
        go_enter Try.func32, Try.ntmps32
        go_wp2_with (go_at_call 40; refine (cmp_gt k a _ HC.out).mono ?_; rintro e w' ⟨rfl, rfl⟩)
        go_region_held3 (fun w' => w'.cell? ⟨b, 2, none⟩ = some (.pointer pl) ∧ w'.cell? ⟨b, 3, none⟩ = some (.pointer pr)) (go_keep)
          (first
            | (go_at_call 32; (with_reducible refine (IH.out sr pr lr _ hn2 (T.keep H2.out Hk1.out) HR.out.right.tail (by omega)).mono ?_); rintro e w5 ⟨q5, rfl, t5, hb5⟩; have Hb5 := Lib.hid (Hb1.out.trans (hb5.mono Hb1.out.size)); have Ht5 := Lib.hid t5; have Hk5 := Lib.hid (Hk1.out.trans (BK.of_below hb5)); have s1 := (Hk1.out.trans (BK.of_below hb5)).cell _ _ c2; have s2 := (Hk1.out.trans (BK.of_below hb5)).cell _ _ c3; have m0 := (Hk1.out.trans (BK.of_below hb5)).cell _ _ HK.out.1; have m1 := (Hk1.out.trans (BK.of_below hb5)).cell _ _ HK.out.2; clear t5 hb5)
            | (go_at_call 41; (with_reducible refine (joined_T b a x sl (putS klt k sr lr) pl q5 ll _ w5 (And.intro m0 m1) (T.keep H1.out Hk5.out) Ht5.out (by have := HL.out; omega)).mono ?_); rintro e w7 ⟨q7, rfl, t7, hb7⟩; have Hb7 := Lib.hid (Hb5.out.trans (hb7.mono Hb5.out.size)); have Ht7 := Lib.hid t7; have s1 := (BK.of_below hb7).cell _ _ (Hk5.out.cell _ _ c2); have s2 := (BK.of_below hb7).cell _ _ (Hk5.out.cell _ _ c3); clear t7 hb7))
        go_wp2
        go_ret
        exact ⟨q7, rfl, by rw [HI.out, HS.out]; exact Ht7.out, Hb7.out⟩
      | false =>
        have HS : Hid (putS klt k (.seq sl sr) (ll ++ (a, x) :: lr) = .seq sl sr) := putS_eq hll hlt hgt
        obtain rfl := klin.tri k a hlt hgt
        have HI : Hid (ins klt k v (ll ++ (k, x) :: lr) = ll ++ (k, v) :: lr) := ins_here klin HR.out
        clear hlt hgt hll
        go_enter Try.func32, Try.ntmps32
        go_wp2_with (go_at_call 40; refine (cmp_eq k _).mono ?_; rintro e w' ⟨rfl, rfl⟩)
        refine wp_region_still_tail 18 (by kernel_rfl) (by kernel_rfl) ?_
        simp only [List.take_succ_cons, List.take_zero, List.drop_succ_cons, List.drop_zero]
        iterate 18 still_step
        refine wpStill_nil ?_
        change wpList _ _ _ _ _ w.drew
        go_wp2
        go_ret
        refine ⟨_, rfl, ?_, (below_dr (Below.refl _ w)).alloc (Nat.le_refl _) _⟩
        rw [HI.out, HS.out]
        exact Tr.node (b := w.heap.size) (NP.new (heap_alloc_new w.drew _) (by omega) (by omega)) (T.keep H1.out ((BK.drew w).trans (BK.of_below ((Below.refl _ _).alloc (Nat.le_refl _) _)))) (T.keep H2.out ((BK.drew w).trans (BK.of_below ((Below.refl _ _).alloc (Nat.le_refl _) _))))
end Go.Proofs.Ytgiaifglkecdjaa.IB
