/- bullanum.SameTexts. -/
import Derived.Test.YtgiaifglkecdjaaRX
namespace Go.Proofs.Ytgiaifglkecdjaa
open Go.RowKit

theorem SameTexts_any (A B : Option Addr) (n m c d : Nat) (l r : List ByteArray) (w : World) (hl : RX w A n (l.map (Value.string))) (hr : RX w B m (r.map (Value.string))) (hn : n ≤ maxLen) (hm : m ≤ maxLen) :
    Calls Try.prog 13 #[.slice A n c, .slice B m d] w fun e w' => e = .returned (.bool (decide (l = r))) ∧ ∃ k, w' = w.drewN k := by
  unfold maxLen at hn hm
  have hll := Lib.hid (show l.length = n by have := hl.1; simpa using this)
  have hrl := Lib.hid (show r.length = m by have := hr.1; simpa using this)
  have Hl := Lib.hid hl
  have Hr := Lib.hid hr
  clear hl hr
  by_cases hnm : n = m
  · subst hnm
    go_enter Try.func13, Try.ntmps13
    go_wp2
    go_loopw [13] (fun i wr => ∃ k : Nat, k ≤ n ∧ i = .int .i64 k ∧ (∀ j, j < k → l.getD j default = r.getD j default) ∧ ∃ q, wr = w.drewN q) (fun i _ => n - (intOf i).toNat)
    case atStart => exact ⟨0, Nat.zero_le _, rfl, fun j hj => absurd hj (by omega), 0, rfl⟩
    case round =>
      obtain ⟨k, hk, rfl, hall, q, rfl⟩ := hrel
      have Hall := Lib.hid hall
      clear hall
      by_cases hlt : k < n
      · obtain ⟨b, o, rfl, hb⟩ := Hl.out.2 (by omega)
        have c1 := hb k hlt
        obtain ⟨b', o', rfl, hb'⟩ := Hr.out.2 (by omega)
        have c2 := hb' k hlt
        rw [getD_map _ _ _ (by rw [hll.out]; exact hlt)] at c1
        rw [getD_map _ _ _ (by rw [hrl.out]; exact hlt)] at c2
        have HX : Hid (l.getD k default = l[k]'(by rw [hll.out]; exact hlt)) := by show _ = _; rw [List.getD_eq_getElem?_getD, List.getElem?_eq_getElem]; rfl
        have HY : Hid (r.getD k default = r[k]'(by rw [hrl.out]; exact hlt)) := by show _ = _; rw [List.getD_eq_getElem?_getD, List.getElem?_eq_getElem]; rfl
        clear hb hb'
        generalize l[k]'(by rw [hll.out]; exact hlt) = x at *
        generalize r[k]'(by rw [hrl.out]; exact hlt) = y at *
        have k0 : (0 : Int) ≤ (k : Int) := by omega
        have k1 : (k : Int) < (n : Int) := by omega
        by_cases he : x = y
        · subst he
          have q1 : (x.toList == x.toList) = true := by simp
          go_wp2
          go_quiet (fail)
          go_wp2
          go_roundw
          case rel =>
            refine ⟨k + 1, by omega, by go_num, fun j hj => ?_, _, rfl⟩
            rcases Nat.lt_or_ge j k with h | h
            · exact Hall.out j h
            · obtain rfl : j = k := by omega
              rw [HX.out, HY.out]
          case measure => simp [intOf]; omega
        · have hne : (x.toList == y.toList) = false := beq_eq_false_iff_ne.2 fun h => he (ByteArray.ext (Array.toList_inj.1 (by rwa [ByteArray.toList_eq, ByteArray.toList_eq] at h)))
          have He := Lib.hid he
          clear he
          go_wp2
          go_quiet (fail)
          go_wp2
          go_ret
          refine ⟨ret_bool (decide_eq_false ?_).symm, _, World.drewN_drewN _ _ _⟩
          rintro rfl
          exact He.out (HX.out.symm.trans HY.out)
      · have hk : k = n := by omega
        subst hk
        go_wp2
        go_ret
        exact ⟨ret_bool (decide_eq_true (eq_of_all hll.out hrl.out fun j hj => Hall.out j hj)).symm, _, rfl⟩
  · go_enter Try.func13, Try.ntmps13
    go_wp2
    go_ret
    refine ⟨ret_bool (decide_eq_false ?_).symm, 0, rfl⟩
    rintro rfl
    exact hnm (hll.out.symm.trans hrl.out)
end Go.Proofs.Ytgiaifglkecdjaa
