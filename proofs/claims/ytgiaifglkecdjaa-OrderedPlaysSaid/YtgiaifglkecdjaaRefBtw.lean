/- The reference's tables of texts (layer 16): Between. -/
import Derived.Test.YtgiaifglkecdjaaRefTab
namespace Go.Proofs.Ytgiaifglkecdjaa
open Go.RowKit
open SI

set_option maxHeartbeats 1000000 in
theorem RefBetween_T (R : Nat) (k to : ByteArray) (most : Int) (l : List (ByteArray × Int)) (w : World) (a : RTab w R l) (hlen : l.length ≤ 1000000000) :
    Calls Try.prog 15 #[.pointer (some ⟨R, 0, none⟩), .string k, .string to, .int .i64 most] w fun e w' => ∃ v, e = .returned v ∧ OT w' w.heap.size v (btw klt k to most l) ∧ Below w.heap.size w w' := by
  obtain ⟨v, h1, h2⟩ := a
  obtain ⟨A, c, rfl, hc1, hc2⟩ := h2.form
  have c0 := Keeps.of_below ((Below.refl _ w).alloc (Nat.le_refl _) (.cells #[] 9)) _ _ (cell_of_one h1)
  have HX := Lib.hid (RE.of_own h2)
  clear h1 h2
  generalize hn : l.length = n at *
  have Hn := Lib.hid hn
  clear hn
  go_enter Try.func15, Try.ntmps15
  go_wp2
  go_loopw [9, 18] (fun v i wr => ∃ j : Nat, j ≤ n ∧ i = .int .i64 (j : Int) ∧ OT wr w.heap.size v (btw klt k to most (l.take j)) ∧ Below w.heap.size w wr) (fun _ i _ => n - (intOf i).toNat)
  case atStart => exact ⟨0, by omega, rfl, by rw [List.take_zero, btw_nil]; exact OT.empty w w.heap.size (Nat.le_refl _), (Below.refl _ w).alloc (Nat.le_refl _) _⟩
  case round =>
    obtain ⟨j, hj, rfl, hown, hbel⟩ := hrel
    have HBe := Lib.hid hbel
    obtain ⟨A', c', rfl, hc1', hc2', -⟩ := hown.form
    have HO := Lib.hid hown
    clear hbel hown
    by_cases hlt : j < n
    · obtain ⟨b, o, rfl, hb⟩ := HX.out.2 (by omega)
      have c1 := Keeps.of_below HBe.out _ _ (hb j hlt).1
      have c2 := Keeps.of_below HBe.out _ _ (hb j hlt).2
      have HS := Lib.hid (show btw klt k to most (l.take (j + 1)) = _ by
        rw [List.take_succ_eq_append_getElem (l := l) (i := j) (by rw [Hn.out]; exact hlt), btw_snoc])
      have hle := btw_le (lt := klt) k to most (l.take j)
      rw [List.length_take, Hn.out] at hle
      rw [List.getD_eq_getElem?_getD, List.getElem?_eq_getElem (by rw [Hn.out]; exact hlt)] at c1 c2
      simp only [Option.getD_some] at c1 c2
      generalize l[j]'(by rw [Hn.out]; exact hlt) = x at *
      generalize btw klt k to most (l.take j) = out at *
      clear hb
      have k0 : (0 : Int) ≤ (j : Int) := by omega
      have k1 : (j : Int) < (n : Int) := by omega
      have hB1 := HBe.out.alloc HBe.out.size (.cells #[.string x.1, .int .i64 x.2] 43)
      by_cases hx : klt x.1 k = false ∧ klt x.1 to = true ∧ (out.length : Int) < most
      · rw [if_pos hx] at HS
        have q1 : Op.bytesLess x.1.toList k.toList = false := hx.1
        have q2 : Op.bytesLess x.1.toList to.toList = true := hx.2.1
        have q3 : decide ((out.length : Int) < most) = true := decide_eq_true hx.2.2
        have HB1 := Lib.hid hB1
        clear hx hB1
        go_wp2_with (at_builtin; refine wpList_append_t rfl (.tmp 38) (.tmp 41) rfl ((HO.out.alloc _).alloc _) rfl (Src.text _ _ x.1 _ (by simp)) rfl ?_ ?_ ?_; rotate_right; intro v1 w1 hown1 hgr1; replace hown1 := Lib.hid hown1; replace hgr1 := Lib.hid hgr1)
        case refine_1 => simp only [List.length_cons, List.length_nil]; omega
        case refine_2 => exact (HB1.out.alloc HB1.out.size _).size
        go_roundw
        case rel =>
          have hB2 := HB1.out.alloc HB1.out.size (.cells #[.string x.1] 9)
          exact ⟨j + 1, by omega, by go_num, by rw [HS.out]; exact hown1.out, below_append_t hB2 hgr1.out ((HO.out.alloc _).alloc _) (Nat.le_refl _) hB2.size⟩
        case measure => simp [intOf]; omega
      · rw [if_neg hx] at HS
        have HB1 := Lib.hid hB1
        clear hB1
        cases q1 : klt x.1 k with
        | true =>
          replace q1 : Op.bytesLess x.1.toList k.toList = true := q1
          clear hx
          go_wp2
          go_roundw
          case rel => exact ⟨j + 1, by omega, by go_num, by rw [HS.out]; exact HO.out.alloc _, HB1.out⟩
          case measure => simp [intOf]; omega
        | false =>
          cases q2 : klt x.1 to with
          | false =>
            replace q1 : Op.bytesLess x.1.toList k.toList = false := q1
            replace q2 : Op.bytesLess x.1.toList to.toList = false := q2
            clear hx
            go_wp2
            go_roundw
            case rel => exact ⟨j + 1, by omega, by go_num, by rw [HS.out]; exact HO.out.alloc _, HB1.out⟩
            case measure => simp [intOf]; omega
          | true =>
            have q3 : decide ((out.length : Int) < most) = false := decide_eq_false fun h => hx ⟨q1, q2, h⟩
            replace q1 : Op.bytesLess x.1.toList k.toList = false := q1
            replace q2 : Op.bytesLess x.1.toList to.toList = true := q2
            clear hx
            go_wp2
            go_roundw
            case rel => exact ⟨j + 1, by omega, by go_num, by rw [HS.out]; exact HO.out.alloc _, HB1.out⟩
            case measure => simp [intOf]; omega
    · obtain rfl : j = n := by omega
      have HL : Hid (l.take j = l) := Lib.hid (List.take_of_length_le (Nat.le_of_eq Hn.out))
      rw [HL.out] at HO
      go_wp2
      go_ret
      exact ⟨_, rfl, by rw [← HL.out]; simpa [HL.out] using HO.out, HBe.out⟩
end Go.Proofs.Ytgiaifglkecdjaa
