/- The reference's tables of texts (layer 16): keysOf. -/
import Derived.Test.YtgiaifglkecdjaaRefTab
namespace Go.Proofs.Ytgiaifglkecdjaa
open Go.RowKit
open SI

set_option maxHeartbeats 1000000 in
theorem keysOf_T (R : Nat) (l : List (ByteArray × Int)) (w : World) (a : RTab w R l) (hlen : l.length ≤ 1000000000) :
    Calls Try.prog 20 #[.pointer (some ⟨R, 0, none⟩)] w fun e w' => ∃ v, e = .returned v ∧ OT w' w.heap.size v (l.map fun y => y.1) ∧ Below w.heap.size w w' := by
  obtain ⟨v, h1, h2⟩ := a
  obtain ⟨A, c, rfl, hc1, hc2⟩ := h2.form
  have c0 := Keeps.of_below ((Below.refl _ w).alloc (Nat.le_refl _) (.cells #[] 9)) _ _ (cell_of_one h1)
  have HX := Lib.hid (RE.of_own h2)
  clear h1 h2
  generalize hn : l.length = n at *
  have Hn := Lib.hid hn
  clear hn
  go_enter Try.func20, Try.ntmps20
  go_wp2
  go_loopw [3, 12] (fun v i wr => ∃ j : Nat, j ≤ n ∧ i = .int .i64 (j : Int) ∧ OT wr w.heap.size v ((l.take j).map fun y => y.1) ∧ Below w.heap.size w wr) (fun _ i _ => n - (intOf i).toNat)
  case atStart => exact ⟨0, by omega, rfl, by simpa using OT.empty w w.heap.size (Nat.le_refl _), (Below.refl _ w).alloc (Nat.le_refl _) _⟩
  case round =>
    obtain ⟨j, hj, rfl, hown, hbel⟩ := hrel
    have HBe := Lib.hid hbel
    have HO := Lib.hid hown
    clear hbel hown
    by_cases hlt : j < n
    · obtain ⟨b, o, rfl, hb⟩ := HX.out.2 (by omega)
      have c1 := Keeps.of_below HBe.out _ _ (hb j hlt).1
      have c2 := Keeps.of_below HBe.out _ _ (hb j hlt).2
      have HS := Lib.hid (List.take_succ_eq_append_getElem (l := l) (i := j) (by rw [Hn.out]; exact hlt))
      rw [List.getD_eq_getElem?_getD, List.getElem?_eq_getElem (by rw [Hn.out]; exact hlt)] at c1 c2
      simp only [Option.getD_some] at c1 c2
      generalize l[j]'(by rw [Hn.out]; exact hlt) = x at *
      clear hb
      have k0 : (0 : Int) ≤ (j : Int) := by omega
      have k1 : (j : Int) < (n : Int) := by omega
      have HO2 := Lib.hid ((HO.out.alloc (.cells #[.string x.1, .int .i64 x.2] 43)).alloc (.cells #[.string x.1] 9))
      have HSrc := Lib.hid (Src.text (wr.alloc (.cells #[.string x.1, .int .i64 x.2] 43)) (wr.heap.size + 1) x.1 1 (by simp))
      go_wp2_with (at_builtin; refine wpList_append_t rfl (.tmp 16) (.tmp 19) rfl HO2.out rfl HSrc.out rfl ?_ ?_ ?_; rotate_right; intro v1 w1 hown1 hgr1; replace hown1 := Lib.hid hown1; replace hgr1 := Lib.hid hgr1)
      case refine_1 => simp only [List.length_map, List.length_take, List.length_cons, List.length_nil]; omega
      case refine_2 => exact ((HBe.out.alloc HBe.out.size _).alloc (HBe.out.alloc HBe.out.size _).size _).size
      go_roundw
      case rel =>
        have hB1 := (HBe.out.alloc HBe.out.size (.cells #[.string x.1, .int .i64 x.2] 43)).alloc (HBe.out.alloc HBe.out.size (.cells #[.string x.1, .int .i64 x.2] 43)).size (.cells #[.string x.1] 9)
        exact ⟨j + 1, by omega, by go_num, by rw [HS.out, List.map_append]; exact hown1.out, below_append_t hB1 hgr1.out ((HO.out.alloc _).alloc _) (Nat.le_refl _) hB1.size⟩
      case measure => simp [intOf]; omega
    · obtain rfl : j = n := by omega
      have HL : Hid (l.take j = l) := Lib.hid (List.take_of_length_le (Nat.le_of_eq Hn.out))
      rw [HL.out] at HO
      go_wp2
      go_ret
      exact ⟨_, rfl, HO.out, HBe.out⟩

end Go.Proofs.Ytgiaifglkecdjaa
