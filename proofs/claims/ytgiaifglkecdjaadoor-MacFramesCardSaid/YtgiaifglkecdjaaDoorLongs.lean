/- bullalaw02.long, bullanum.SameLists. -/
import Derived.Test.YtgiaifglkecdjaaDoorMac
namespace Go.Proofs.YtgiaifglkecdjaaDoor
open Go.RowKit

def partOver (p : List UInt8) : Bool := decide (300 < p.length)

theorem long02_any (A B : Option Addr) (n m c d : Nat) (w : World) (ls : List (List UInt8)) (hl : RBL w B m ls) (hm : m ≤ maxLen) :
    Calls Tryd.prog 29 #[.slice A n c, .slice B m d] w fun e w' => e = .returned (.bool (decide (300 < n) || decide (20 < m) || ls.any partOver)) ∧ w = w' := by
  unfold maxLen at hm
  by_cases h1 : 300 < n
  · have k1 : decide (300 < (n : Int)) = true := decide_eq_true (by omega)
    go_enter Tryd.func29, Tryd.ntmps29
    go_wp2
    go_ret
    exact ⟨ret_bool (by simp [h1]), rfl⟩
  have k1 : decide (300 < (n : Int)) = false := decide_eq_false (by omega)
  by_cases h2 : 20 < m
  · have k2 : decide (20 < (m : Int)) = true := decide_eq_true (by omega)
    go_enter Tryd.func29, Tryd.ntmps29
    go_wp2
    go_ret
    exact ⟨ret_bool (by simp [h2]), rfl⟩
  have k2 : decide (20 < (m : Int)) = false := decide_eq_false (by omega)
  have H1 := Lib.hid h1
  have H2 := Lib.hid h2
  clear h1 h2
  go_enter Tryd.func29, Tryd.ntmps29
  go_wp2
  have hll := Lib.hid hl.1
  go_loop [17] (fun i => ∃ k : Nat, k ≤ m ∧ i = .int .i64 k ∧ ∀ j, j < k → partOver (ls.getD j []) = false) (fun i => m - (intOf i).toNat)
  case atStart => exact ⟨0, Nat.zero_le _, rfl, fun j hj => absurd hj (by omega)⟩
  case round =>
    obtain ⟨k, hk, rfl, hall⟩ := hrel
    have Hall := Lib.hid hall
    clear hall
    by_cases hlt : k < m
    · obtain ⟨b, o, rfl, hb⟩ := hl.2 (by omega)
      obtain ⟨v, c1, A', c', rfl, hc1, hc2, -⟩ := hb k hlt
      clear hb hl
      have k0 : (0 : Int) ≤ (k : Int) := by omega
      have k1 : (k : Int) < (m : Int) := by omega
      go_wp2
      · go_ret
        refine ⟨ret_bool ?_, rfl⟩
        have : ls.any partOver = true := by
          rw [List.any_eq_true]
          refine ⟨ls.getD k [], ?_, ?_⟩
          · have := hll.out
            rw [List.getD_eq_getElem?_getD, List.getElem?_eq_getElem (by omega)]
            exact List.getElem_mem _
          · rw [List.getD_eq_getElem?_getD]
            exact decide_eq_true (by omega)
        simp [this]
      · go_round
        case rel =>
          refine ⟨k + 1, by omega, by go_num, fun j hj => ?_⟩
          rcases Nat.lt_or_ge j k with h | h
          · exact Hall.out j h
          · obtain rfl : j = k := by omega
            rw [List.getD_eq_getElem?_getD]
            exact decide_eq_false (by omega)
        case measure => simp [intOf]; omega
    · go_wp2
      go_ret
      refine ⟨ret_bool ?_, rfl⟩
      have : ls.any partOver = false := by
        rw [List.any_eq_false]
        intro x hx
        obtain ⟨i, hi, rfl⟩ := List.mem_iff_getElem.1 hx
        have := Hall.out i (by have := hll.out; omega)
        rw [List.getD_eq_getElem?_getD, List.getElem?_eq_getElem hi] at this
        simpa using this
      simp [this, H1.out, H2.out]

theorem lists_eq {ls rs : List (List UInt8)} (hl : ls.length = rs.length) (h : ∀ j, j < ls.length → ls.getD j [] = rs.getD j []) : ls = rs := by
  apply List.ext_getElem hl
  intro i h1 h2
  have := h i h1
  simpa [h1, h2] using this

theorem SameLists_any (A B : Option Addr) (n m c d : Nat) (w : World) (ls rs : List (List UInt8)) (hl : RBL w A n ls) (hr : RBL w B m rs) (hn : n ≤ maxLen) :
    Calls Tryd.prog 61 #[.slice A n c, .slice B m d] w fun e w' => e = .returned (.bool (decide (ls = rs))) ∧ ∃ k, w' = w.drewN k := by
  unfold maxLen at hn
  have hll := Lib.hid hl.1
  have hrl := Lib.hid hr.1
  by_cases hnm : n = m
  · subst hnm
    go_enter Tryd.func61, Tryd.ntmps61
    go_wp2
    go_loopw [13] (fun i wr => ∃ k : Nat, k ≤ n ∧ i = .int .i64 k ∧ (∀ j, j < k → ls.getD j [] = rs.getD j []) ∧ ∃ q, wr = w.drewN q) (fun i _ => n - (intOf i).toNat)
    case atStart => exact ⟨0, Nat.zero_le _, rfl, fun j hj => absurd hj (by omega), 0, rfl⟩
    case round =>
      obtain ⟨k, hk, rfl, hall, q, rfl⟩ := hrel
      have Hall := Lib.hid hall
      clear hall
      by_cases hlt : k < n
      · obtain ⟨b, o, rfl, hb⟩ := hl.2 (by omega)
        obtain ⟨v, c1, A', c', rfl, hc1, hc2, hx⟩ := hb k hlt
        obtain ⟨b', o', rfl, hb'⟩ := hr.2 (by omega)
        obtain ⟨v, c2, B', d', rfl, hd1, hd2, hy⟩ := hb' k hlt
        clear hb hl hb' hr
        have k0 : (0 : Int) ≤ (k : Int) := by omega
        have k1 : (k : Int) < (n : Int) := by omega
        have ca := fun q => run_bytes_string (P := Tryd.prog) Tryd.underlying22 Tryd.underlying5 Tryd.underlying9 (c := c') (hx.keep (Keeps.drewN w q))
        have cb := fun q => run_bytes_string (P := Tryd.prog) Tryd.underlying22 Tryd.underlying5 Tryd.underlying9 (c := d') (hy.keep (Keeps.drewN w q))
        clear hx hy
        generalize hp : ls.getD k [] = p at *
        generalize hp' : rs.getD k [] = p' at *
        have Hp := Lib.hid hp
        have Hp' := Lib.hid hp'
        clear hp hp'
        have sl := str_list p
        have sr := str_list p'
        by_cases he : p = p'
        · subst he
          go_wp2
          go_quiet (fail)
          go_wp2
          go_roundw
          case rel =>
            refine ⟨k + 1, by omega, by go_num, fun j hj => ?_, _, rfl⟩
            rcases Nat.lt_or_ge j k with h | h
            · exact Hall.out j h
            · obtain rfl : j = k := by omega
              rw [Hp.out, Hp'.out]
          case measure => simp [intOf]; omega
        · have hne : (p == p') = false := by simpa using he
          have He := Lib.hid he
          clear he
          go_wp2
          go_quiet (fail)
          go_wp2
          go_ret
          refine ⟨ret_bool (decide_eq_false ?_).symm, _, World.drewN_drewN _ _ _⟩
          rintro rfl
          exact He.out (Hp.out.symm.trans Hp'.out)
      · have hk : k = n := by omega
        subst hk
        go_wp2
        go_ret
        exact ⟨ret_bool (decide_eq_true (lists_eq (hll.out.trans hrl.out.symm) fun j hj => Hall.out j (by have := hll.out; omega))).symm, _, rfl⟩
  · go_enter Tryd.func61, Tryd.ntmps61
    go_wp2
    go_ret
    refine ⟨ret_bool (decide_eq_false ?_).symm, 0, rfl⟩
    rintro rfl
    exact hnm (hll.out.symm.trans hrl.out)
end Go.Proofs.YtgiaifglkecdjaaDoor
