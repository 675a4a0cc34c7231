/- bullanum.SameLists. -/
import Derived.Test.YtifjddkgnfanaaaDoorBase
namespace Go.Proofs.YtifjddkgnfanaaaDoor
open Go.RowKit

set_option maxHeartbeats 1000000 in
set_option maxRecDepth 100000 in
theorem SameLists_any (A B : Option Addr) (n m c d : Nat) (l r : List (List UInt8)) (w : World) (hl : RBL w A n l) (hr : RBL w B m r) (hn : n ≤ maxLen) (hm : m ≤ maxLen) :
    Calls Tryd.prog 38 #[.slice A n c, .slice B m d] w fun e w' => e = .returned (.bool (decide (l = r))) ∧ ∃ k, w' = w.drewN k := by
  unfold maxLen at hn hm
  have hll := Lib.hid hl.1
  have hrl := Lib.hid hr.1
  have Hl := Lib.hid hl
  have Hr := Lib.hid hr
  clear hl hr
  by_cases hnm : n = m
  · subst hnm
    go_enter Tryd.func38, Tryd.ntmps38
    go_wp2
    go_loopw [13] (fun i wr => ∃ k : Nat, k ≤ n ∧ i = .int .i64 k ∧ (∀ j, j < k → l.getD j [] = r.getD j []) ∧ ∃ q, wr = w.drewN q) (fun i _ => n - (intOf i).toNat)
    case atStart => exact ⟨0, Nat.zero_le _, rfl, fun j hj => absurd hj (by omega), 0, rfl⟩
    case round =>
      obtain ⟨k, hk, rfl, hall, q, rfl⟩ := hrel
      have Hall := Lib.hid hall
      clear hall
      by_cases hlt : k < n
      · obtain ⟨b, o, rfl, hb⟩ := Hl.out.2 (by omega)
        obtain ⟨v1, c1, A1, d1, e1, _, _, s1⟩ := hb k hlt
        subst e1
        obtain ⟨b', o', rfl, hb'⟩ := Hr.out.2 (by omega)
        obtain ⟨v2, c2, A2, d2, e2, _, _, s2⟩ := hb' k hlt
        subst e2
        clear hb hb'
        have k0 : (0 : Int) ≤ (k : Int) := by omega
        have k1 : (k : Int) < (n : Int) := by omega
        have ca := fun q => run_bytes_string (P := Tryd.prog) Tryd.underlying28 Tryd.underlying5 Tryd.underlying9 (c := d1) (s1.keep (Keeps.drewN w q))
        have cb := fun q => run_bytes_string (P := Tryd.prog) Tryd.underlying28 Tryd.underlying5 Tryd.underlying9 (c := d2) (s2.keep (Keeps.drewN w q))
        obtain ⟨x, hx⟩ : ∃ x, x = l.getD k [] := ⟨_, rfl⟩
        obtain ⟨y, hy⟩ : ∃ y, y = r.getD k [] := ⟨_, rfl⟩
        have HX := Lib.hid hx
        have HY := Lib.hid hy
        rw [← hx] at c1 ca
        rw [← hy] at c2 cb
        have sl := str_list x
        have sr := str_list y
        clear hx hy s1 s2
        by_cases he : x = y
        · subst he
          have q1 : (x == x) = true := by simp
          go_wp2
          go_quiet (fail)
          go_wp2
          go_roundw
          case rel =>
            refine ⟨k + 1, by omega, by go_num, fun j hj => ?_, _, rfl⟩
            rcases Nat.lt_or_ge j k with h | h
            · exact Hall.out j h
            · obtain rfl : j = k := by omega
              rw [← HX.out, ← HY.out]
          case measure => simp [intOf]; omega
        · have hne : (x == y) = false := beq_eq_false_iff_ne.2 he
          have He := Lib.hid he
          clear he
          go_wp2
          go_quiet (fail)
          go_wp2
          go_ret
          refine ⟨ret_bool (decide_eq_false ?_).symm, _, World.drewN_drewN _ _ _⟩
          rintro rfl
          exact He.out (HX.out.trans HY.out.symm)
      · obtain rfl : k = n := by omega
        have HE : Hid (l = r) := Lib.hid (by
          refine List.ext_getElem (by rw [hll.out, hrl.out]) fun j h1 h2 => ?_
          have := Hall.out j (by rw [← hll.out]; exact h1)
          simpa [List.getD_eq_getElem?_getD, h1, h2] using this)
        go_wp2
        go_ret
        exact ⟨ret_bool (decide_eq_true HE.out).symm, _, rfl⟩
  · have hne : ((n : Int) != (m : Int)) = true := by rw [bne_iff_ne]; omega
    have HD : Hid (decide (l = r) = false) := Lib.hid (decide_eq_false (by rintro rfl; exact hnm (hll.out.symm.trans hrl.out)))
    go_enter Tryd.func38, Tryd.ntmps38
    go_wp2
    go_ret
    exact ⟨ret_bool HD.out.symm, 0, rfl⟩
end Go.Proofs.YtifjddkgnfanaaaDoor
