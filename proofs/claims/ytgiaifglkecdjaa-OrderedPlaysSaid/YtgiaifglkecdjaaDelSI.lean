/- Layer 16, tables of string to int: least, del, find. -/
import Derived.Test.YtgiaifglkecdjaaPutSI
import Derived.Deep.LoopGhost
namespace Go.Proofs.Ytgiaifglkecdjaa.SI
open Go.RowKit

theorem T.none {w : World} {s : Code} {l : List (ByteArray × Int)} (a : T w s none l) : s = .skip ∧ l = [] := by
  rcases Tr.open a with ⟨h0, _, h1⟩ | ⟨b, k, v, pl, pr, ll, lr, sl, sr, h1, _⟩
  · exact ⟨h0, h1⟩
  · cases h1
theorem T.some {w : World} {s : Code} {q : Addr} {l : List (ByteArray × Int)} (a : T w s (some q) l) : ∃ e r x y, l = e :: r ∧ s = .seq x y := by
  rcases Tr.open a with ⟨_, h0, _⟩ | ⟨b, k, v, pl, pr, ll, lr, sl, sr, h1, _, rfl, rfl, _⟩
  · cases h0
  · cases ll with
    | nil => exact ⟨_, _, _, _, rfl, rfl⟩
    | cons e ll => exact ⟨_, _, _, _, rfl, rfl⟩

set_option maxHeartbeats 4000000 in
set_option maxRecDepth 100000 in
theorem least_T : ∀ (n : Nat) (s : Code) (p : Option Addr) (e : ByteArray × Int) (l : List (ByteArray × Int)) (w : World), sz s ≤ n → T w s p (e :: l) → l.length ≤ 1000000000 →
    Calls Try.prog 37 #[.pointer p] w fun en w' => ∃ bf q, en = .returned (.tuple #[.pointer (some ⟨bf, 0, none⟩), .pointer q]) ∧ (w.cell? ⟨bf, 0, none⟩ = some (.string e.1) ∧ w.cell? ⟨bf, 1, none⟩ = some (.int .i64 e.2)) ∧ T w' (leastS s) q l ∧ Below w.heap.size w w' := by
  intro n
  induction n with
  | zero =>
    intro s p e l w hn a _
    rcases a.open with ⟨_, _, h0⟩ | ⟨b, k, v, pl, pr, ll, lr, sl, sr, _, _, _, rfl, _, _⟩
    · cases h0
    · simp [sz] at hn
  | succ n ih =>
    intro s p e l w hn tt hlen
    rcases tt.open with ⟨_, _, h0⟩ | ⟨b, a, x, pl, pr, ll, lr, sl, sr, rfl, hnd, hl0, rfl, al, ar⟩
    · cases h0
    have IH := Lib.hid ih
    clear ih
    obtain ⟨c0, c1, c2, c3, -, -⟩ := NP.cells hnd
    have HK := Lib.hid (And.intro c0 c1)
    have H2 := Lib.hid ar
    simp only [sz] at hn
    have hn1 : sz sl ≤ n := by omega
    clear ar c0 c1 hnd hn
    cases pl with
    | none =>
      obtain ⟨g0, g1⟩ := T.none al
      subst g0 g1
      injection hl0 with e1 e2
      subst e1 e2
      clear al
      go_enter Try.func37, Try.ntmps37
      go_wp2_with fail
      go_quiet (fail)
      go_wp2
      go_ret2
      exact ⟨b, pr, rfl, HK.out, T.keep H2.out (BK.drewN w _), below_drewN (Below.refl _ w) _⟩
    | some q0 =>
      obtain ⟨e', r, sx, sy, rfl, rfl⟩ := T.some al
      rw [List.cons_append] at hl0
      injection hl0 with e1 e2
      subst e1 e2
      simp only [List.length_append, List.length_cons] at hlen
      have H1 := Lib.hid al
      clear al
      have hne : ∀ W, (binOp .eql 51 (.pointer (some q0)) (.pointer none)).run Try.prog W = .ok (.bool false) W := fun W => by go_simp
      go_enter Try.func37, Try.ntmps37
      go_wp2_with (first
        | (go_at_call 37; refine (IH.out (.seq sx sy) (some q0) e r _ hn1 H1.out (by omega)).mono ?_; rintro en w5 ⟨bf, q5, rfl, hc5, t5, hb5⟩; have Hb5 := Lib.hid hb5; have Ht5 := Lib.hid t5; have Hc5 := Lib.hid hc5; have s2 := (BK.of_below hb5).cell _ _ c3; have m0 := (BK.of_below hb5).cell _ _ HK.out.1; have m1 := (BK.of_below hb5).cell _ _ HK.out.2; clear t5 hb5 hc5)
        | (go_at_call 36; refine (joined_T b a x (leastS (.seq sx sy)) sr q5 pr r lr w5 (And.intro m0 m1) Ht5.out (T.keep H2.out (BK.of_below Hb5.out)) (by omega)).mono ?_; rintro e w7 ⟨q7, rfl, t7, hb7⟩; have Hb7 := Lib.hid (Hb5.out.trans (hb7.mono Hb5.out.size)); have Ht7 := Lib.hid t7; clear t7 hb7))
      go_ret2
      exact ⟨bf, q7, rfl, Hc5.out, Ht7.out, Hb7.out⟩

set_option maxHeartbeats 4000000 in
set_option maxRecDepth 100000 in
theorem del_T (k : ByteArray) : ∀ (n : Nat) (s : Code) (p : Option Addr) (l : List (ByteArray × Int)) (w : World), sz s ≤ n → T w s p l → Rises klt l → l.length ≤ 1000000000 →
    Calls Try.prog 28 #[.pointer p, (.string k)] w fun e w' => ∃ p', e = .returned (.pointer p') ∧ T w' (delS klt k s l) p' (rem klt k l) ∧ Below w.heap.size w w' := by
  have hnil : ∀ w : World, Calls Try.prog 28 #[.pointer none, (.string k)] w fun e w' => ∃ p', e = .returned (.pointer p') ∧ T w' (delS klt k .skip ([] : List (ByteArray × Int))) p' (rem klt k []) ∧ Below w.heap.size w w' := by
    intro w
    go_enter Try.func28, Try.ntmps28
    go_wp2
    go_ret
    exact ⟨none, rfl, Tr.nil _, Below.refl _ w⟩
  intro n
  induction n with
  | zero =>
    intro s p l w hn a _ _
    rcases a.open with ⟨rfl, rfl, rfl⟩ | ⟨b, k, v, pl, pr, ll, lr, sl, sr, _, _, _, rfl, _, _⟩
    · exact hnil w
    · simp [sz] at hn
  | succ n ih =>
    intro s p l w hn tt hri hlen
    rcases tt.open with ⟨rfl, rfl, rfl⟩ | ⟨b, a, x, pl, pr, ll, lr, sl, sr, rfl, hnd, rfl, rfl, al, ar⟩
    · exact hnil w
    have hll := al.len
    have IH := Lib.hid ih
    clear ih hnil
    obtain ⟨c0, c1, c2, c3, c4, c5⟩ := NP.cells hnd
    simp only [List.length_append, List.length_cons] at hlen
    simp only [sz] at hn
    have HK := Lib.hid (And.intro c0 c1)
    have H1 := Lib.hid al
    have H2 := Lib.hid ar
    have HR := Lib.hid hri
    have hn1 : sz sl ≤ n := by omega
    have hn2 : sz sr ≤ n := by omega
    clear al ar hri hn hnd
    have Hk1 : Hid (BK w w.drew) := BK.drew w
    have Hb1 : Hid (Below w.heap.size w w.drew) := below_dr (Below.refl _ w)
    cases hlt : klt k a with
    | true =>
      have HI : Hid (rem klt k (ll ++ (a, x) :: lr) = rem klt k ll ++ (a, x) :: lr) := rem_left hlt
      have HS : Hid (delS klt k (.seq sl sr) (ll ++ (a, x) :: lr) = joinS (delS klt k sl ll) sr) := delS_lt hll hlt
      have HL : Hid ((rem klt k ll).length ≤ ll.length) := by
        show _ ≤ _
        exact rem_sub.length_le
      have HC := Lib.hid hlt
      clear hlt hll
      go_enter Try.func28, Try.ntmps28
      go_wp2_with (go_at_call 35; refine (cmp_lt k a _ HC.out).mono ?_; rintro e w' ⟨rfl, rfl⟩)
      go_region_held3 (fun w' => w'.cell? ⟨b, 2, none⟩ = some (.pointer pl) ∧ w'.cell? ⟨b, 3, none⟩ = some (.pointer pr)) (go_keep)
        (first
          | (go_at_call 28; (with_reducible refine (IH.out sl pl ll _ hn1 (T.keep H1.out Hk1.out) HR.out.left (by omega)).mono ?_); rintro e w5 ⟨q5, rfl, t5, hb5⟩; have Hb5 := Lib.hid (Hb1.out.trans (hb5.mono Hb1.out.size)); have Ht5 := Lib.hid t5; have Hk5 := Lib.hid (Hk1.out.trans (BK.of_below hb5)); have s1 := (Hk1.out.trans (BK.of_below hb5)).cell _ _ c2; have s2 := (Hk1.out.trans (BK.of_below hb5)).cell _ _ c3; have m0 := (Hk1.out.trans (BK.of_below hb5)).cell _ _ HK.out.1; have m1 := (Hk1.out.trans (BK.of_below hb5)).cell _ _ HK.out.2; clear t5 hb5)
          | (go_at_call 36; (with_reducible refine (joined_T b a x (delS klt k sl ll) sr q5 pr _ lr w5 (And.intro m0 m1) Ht5.out (T.keep H2.out Hk5.out) (by have := HL.out; omega)).mono ?_); rintro e w7 ⟨q7, rfl, t7, hb7⟩; have Hb7 := Lib.hid (Hb5.out.trans (hb7.mono Hb5.out.size)); have Ht7 := Lib.hid t7; have s1 := (BK.of_below hb7).cell _ _ (Hk5.out.cell _ _ c2); have s2 := (BK.of_below hb7).cell _ _ (Hk5.out.cell _ _ c3); clear t7 hb7))
      go_wp2
      go_ret
      exact ⟨q7, rfl, by rw [HI.out, HS.out]; exact Ht7.out, Hb7.out⟩
    | false =>
      cases hgt : klt a k with
      | true =>
        have HI : Hid (rem klt k (ll ++ (a, x) :: lr) = ll ++ (a, x) :: rem klt k lr) := rem_right klin HR.out hgt
        have HS : Hid (delS klt k (.seq sl sr) (ll ++ (a, x) :: lr) = joinS sl (delS klt k sr lr)) := delS_gt hll hlt hgt
        have HL : Hid ((rem klt k lr).length ≤ lr.length) := by
          show _ ≤ _
          exact rem_sub.length_le
        have HC := Lib.hid hgt
        clear hlt hgt hll
        go_enter Try.func28, Try.ntmps28
        go_wp2_with (go_at_call 35; refine (cmp_gt k a _ HC.out).mono ?_; rintro e w' ⟨rfl, rfl⟩)
        go_region_held3 (fun w' => w'.cell? ⟨b, 2, none⟩ = some (.pointer pl) ∧ w'.cell? ⟨b, 3, none⟩ = some (.pointer pr)) (go_keep)
          (first
            | (go_at_call 28; (with_reducible refine (IH.out sr pr lr _ hn2 (T.keep H2.out Hk1.out) HR.out.right.tail (by omega)).mono ?_); rintro e w5 ⟨q5, rfl, t5, hb5⟩; have Hb5 := Lib.hid (Hb1.out.trans (hb5.mono Hb1.out.size)); have Ht5 := Lib.hid t5; have Hk5 := Lib.hid (Hk1.out.trans (BK.of_below hb5)); have s1 := (Hk1.out.trans (BK.of_below hb5)).cell _ _ c2; have s2 := (Hk1.out.trans (BK.of_below hb5)).cell _ _ c3; have m0 := (Hk1.out.trans (BK.of_below hb5)).cell _ _ HK.out.1; have m1 := (Hk1.out.trans (BK.of_below hb5)).cell _ _ HK.out.2; clear t5 hb5)
            | (go_at_call 36; (with_reducible refine (joined_T b a x sl (delS klt k sr lr) pl q5 ll _ w5 (And.intro m0 m1) (T.keep H1.out Hk5.out) Ht5.out (by have := HL.out; omega)).mono ?_); rintro e w7 ⟨q7, rfl, t7, hb7⟩; have Hb7 := Lib.hid (Hb5.out.trans (hb7.mono Hb5.out.size)); have Ht7 := Lib.hid t7; have s1 := (BK.of_below hb7).cell _ _ (Hk5.out.cell _ _ c2); have s2 := (BK.of_below hb7).cell _ _ (Hk5.out.cell _ _ c3); clear t7 hb7))
        go_wp2
        go_ret
        exact ⟨q7, rfl, by rw [HI.out, HS.out]; exact Ht7.out, Hb7.out⟩
      | false =>
        have HS := Lib.hid (delS_eq (a := sl) (b := sr) (lr := lr) (e := (a, x)) hll hlt hgt)
        obtain rfl := klin.tri k a hlt hgt
        have HI : Hid (rem klt k (ll ++ (k, x) :: lr) = ll ++ lr) := rem_here klin HR.out
        clear hlt hgt hll
        cases pr with
        | none =>
          obtain ⟨g0, g1⟩ := T.none H2.out
          subst g0 g1
          clear H2
          go_enter Try.func28, Try.ntmps28
          go_wp2_with (go_at_call 35; refine (cmp_eq k _).mono ?_; rintro e w' ⟨rfl, rfl⟩)
          go_ret
          exact ⟨pl, rfl, by rw [HI.out, List.append_nil, HS.out]; exact H1.out, Below.refl _ w⟩
        | some q0 =>
          obtain ⟨e', r, sx, sy, rfl, rfl⟩ := T.some H2.out
          simp only [List.length_cons] at hlen
          go_enter Try.func28, Try.ntmps28
          go_wp2_with (first
            | (go_at_call 35; refine (cmp_eq k _).mono ?_; rintro e w' ⟨rfl, rfl⟩)
            | (go_at_call 37; refine (least_T n (.seq sx sy) (some q0) e' r _ hn2 H2.out (by omega)).mono ?_; rintro en w5 ⟨bf, q5, rfl, hc5, t5, hb5⟩; have Hb5 := Lib.hid hb5; have Ht5 := Lib.hid t5; have s1 := (BK.of_below hb5).cell _ _ c2; have s2 := (BK.of_below hb5).cell _ _ c3; have m0 := (BK.of_below hb5).cell _ _ hc5.1; have m1 := (BK.of_below hb5).cell _ _ hc5.2; clear t5 hb5 hc5)
            | (go_at_call 36; refine (joined_T bf e'.1 e'.2 sl (leastS (.seq sx sy)) pl q5 ll r w5 (And.intro m0 m1) (T.keep H1.out (BK.of_below Hb5.out)) Ht5.out (by omega)).mono ?_; rintro e w7 ⟨q7, rfl, t7, hb7⟩; have Hb7 := Lib.hid (Hb5.out.trans (hb7.mono Hb5.out.size)); have Ht7 := Lib.hid t7; clear t7 hb7))
          go_ret
          exact ⟨q7, rfl, by rw [HI.out, HS.out]; exact Ht7.out, Hb7.out⟩

/-- What find hands back for an entry's value. -/
def Found (w : World) (k : ByteArray) (r : Option Int) (q : Option Addr) : Prop :=
  match r with
  | none => q = none
  | some v => ∃ b, q = some ⟨b, 0, none⟩ ∧ w.cell? ⟨b, 0, none⟩ = some (.string k) ∧ w.cell? ⟨b, 1, none⟩ = some (.int .i64 v)

set_option maxHeartbeats 4000000 in
set_option maxRecDepth 100000 in
theorem find_T (k : ByteArray) (s : Code) (p : Option Addr) (l : List (ByteArray × Int)) (w : World) (a : T w s p l) (hri : Rises klt l) :
    Calls Try.prog 29 #[.pointer p, (.string k)] w fun e w' => ∃ q, e = .returned (.pointer q) ∧ Found w k (look klt k l) q ∧ w = w' := by
  have HA := Lib.hid a
  have HR := Lib.hid hri
  clear a hri
  go_enter Try.func29, Try.ntmps29
  go_wp2_with fail
  go_loopg [0] (sz s) (fun g s0 wr => ∃ (q : Option Addr) (l' : List (ByteArray × Int)) (s' : Code), s0 = .pointer q ∧ T w s' q l' ∧ Rises klt l' ∧ look klt k l' = look klt k l ∧ sz s' ≤ g ∧ wr = w)
  case atStart => exact ⟨p, l, s, rfl, HA.out, HR.out, rfl, Nat.le_refl _, rfl⟩
  case round =>
    obtain ⟨q, l', s', rfl, ht, hr', hlk, hg, rfl⟩ := hrel
    rcases Tr.open ht with ⟨rfl, rfl, rfl⟩ | ⟨b, a, x, pl, pr, ll, lr, sl, sr, rfl, hn, rfl, rfl, al, ar⟩
    · have Hlk := Lib.hid hlk
      clear hlk ht hr' hg
      go_wp2
      go_ret
      exact ⟨none, rfl, by rw [← Hlk.out]; rfl, rfl⟩
    obtain ⟨c0, c1, c2, c3, -, -⟩ := NP.cells hn
    have H1 := Lib.hid al
    have H2 := Lib.hid ar
    have Hlk := Lib.hid hlk
    have Hr' := Lib.hid hr'
    simp only [sz] at hg
    clear hlk ht hr' al ar hn
    cases hlt : klt k a with
    | true =>
      have HC := Lib.hid hlt
      have q1 : (a.toList == k.toList) = false := by have := ne_of_lt hlt; rwa [Bool.beq_comm] at this
      have q2 : Op.bytesLess k.toList a.toList = true := hlt
      clear hlt
      go_wp2
      go_roundg (gk - 1)
      case measure => omega
      case rel => exact ⟨pl, ll, sl, rfl, H1.out, Hr'.out.left, by rw [← Hlk.out, look_left HC.out], by omega, rfl⟩
    | false =>
      cases hgt : klt a k with
      | true =>
        have HC := Lib.hid hgt
        have q1 : (a.toList == k.toList) = false := ne_of_lt hgt
        have q2 : Op.bytesLess k.toList a.toList = false := klin.asy hgt
        clear hlt hgt
        go_wp2
        go_roundg (gk - 1)
        case measure => omega
        case rel => exact ⟨pr, lr, sr, rfl, H2.out, Hr'.out.right.tail, by rw [← Hlk.out, look_right klin Hr'.out HC.out], by omega, rfl⟩
      | false =>
        obtain rfl := klin.tri k a hlt hgt
        clear hlt hgt
        go_wp2
        go_ret
        exact ⟨_, rfl, by rw [← Hlk.out, look_here klin Hr'.out]; exact ⟨b, rfl, c0, c1⟩, rfl⟩
end Go.Proofs.Ytgiaifglkecdjaa.SI
