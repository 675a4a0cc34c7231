/- Layer 16, tables of string to int: Between. -/
import Derived.Test.YtgiaifglkecdjaaAtSI
import Derived.Test.YtgiaifglkecdjaaRefTab
namespace Go.Proofs.Ytgiaifglkecdjaa.SI
open Go.RowKit

theorem spanK_len {k to : ByteArray} {l : List (ByteArray × Int)} : ((span klt k to l).map fun e => e.1).length = (span klt k to l).length := List.length_map _
theorem span_le (k to : ByteArray) (l : List (ByteArray × Int)) : (span klt k to l).length ≤ l.length := List.length_filter_le _ _
theorem btw_all {k to : ByteArray} {most : Int} {l : List (ByteArray × Int)} {j : Nat} (h : (span klt k to l).length = j) (hm : (j : Int) < most) : ((span klt k to l).map fun e => e.1).take j = btw klt k to most l := by
  unfold btw
  rw [List.take_of_length_le (by rw [spanK_len]; omega), List.take_of_length_le (by rw [spanK_len]; omega)]

set_option maxHeartbeats 1000000 in
theorem Between_T (g : Nat) (k to : ByteArray) (most : Int) (s : Code) (l : List (ByteArray × Int)) (w : World) (a : TabAt w g s l) (hri : Rises klt l) (hlen : l.length ≤ 1000000000) :
    Calls Try.prog 14 #[.pointer (some ⟨g, 0, none⟩), .string k, .string to, .int .i64 most] w fun e w' => ∃ v, e = .returned v ∧ OT w' w.heap.size v (btw klt k to most l) ∧ Below w.heap.size w w' := by
  have HA := Lib.hid a
  have HR := Lib.hid hri
  clear a hri
  have hrk := rank_le (lt := klt) k l
  have hsp := span_le k to l
  go_enter Try.func14, Try.ntmps14
  go_wp2_with (go_at_call 21; refine (Rank_T g k s l _ HA.out HR.out hlen).mono ?_; rintro e w' ⟨rfl, rfl⟩)
  obtain ⟨r, hr⟩ : ∃ r, r = rank klt k l := ⟨_, rfl⟩
  have Hr := Lib.hid hr
  rw [← hr] at hrk ⊢
  clear hr
  go_loopw [9, 10] (fun v i wr => ∃ j i' : Nat, Hid (i' = r + j) ∧ j ≤ (span klt k to l).length ∧ i = .int .i64 (i' : Int) ∧ (j = 0 ∨ (j : Int) ≤ most) ∧ OT wr w.heap.size v (((span klt k to l).map fun e => e.1).take j) ∧ Below w.heap.size w wr) (fun _ i _ => r + l.length - (intOf i).toNat)
  case atStart => exact ⟨0, r, rfl, by omega, rfl, .inl rfl, by rw [List.take_zero]; exact OT.nil _ _, Below.refl _ _⟩
  case round =>
    obtain ⟨j, i', Hi, hj, rfl, hjm, hown, hbel⟩ := hrel
    have HBe := Lib.hid hbel
    have HA2 := Lib.hid (HA.out.below hbel)
    have hlj : (((span klt k to l).map fun e => e.1).take j).length = j := by rw [List.length_take, spanK_len]; omega
    obtain ⟨A', c', rfl, hc1', hc2', -⟩ := hown.form
    have HO := Lib.hid hown
    rw [hlj] at hc1'
    have HE : Hid (Value.slice A' (((span klt k to l).map fun e => e.1).take j).length c' = Value.slice A' j c') := Lib.hid (by rw [hlj])
    have Hlj := Lib.hid hlj
    rw [HE.out] at HO ⊢
    have hib : i' ≤ r + l.length := by have := Hi.out; omega
    clear hbel hown hlj HE
    have hstep := span_step klin k to HR.out hj
    rw [← Hr.out, ← Hi.out] at hstep
    have HS := Lib.hid hstep
    clear hstep
    by_cases hm : (j : Int) < most
    · have q0 : decide ((j : Int) < most) = true := decide_eq_true hm
      have HAt := Lib.hid (At_T g (i' : Int) s l wr HA2.out (by omega) (by omega) hlen)
      have Hm := Lib.hid hm
      clear hm
      cases hx : l[i']? with
      | none =>
        rw [getI_nat, hx] at HAt
        simp only [atV] at HAt
        have HD := Lib.hid (HS.out.1 hx)
        clear hx
        go_wp2_with (go_at_call 16; refine HAt.out.mono ?_; rintro e w' ⟨rfl, q, rfl⟩)
        go_ret
        exact ⟨_, rfl, by rw [← btw_all HD.out Hm.out]; exact HO.out, below_drewN HBe.out _⟩
      | some x =>
        rw [getI_nat, hx] at HAt
        simp only [atV] at HAt
        have hil : i' < l.length := (List.getElem?_eq_some_iff.1 hx).1
        have HD := Lib.hid (HS.out.2 x hx)
        clear hx
        cases hto : klt x.1 to with
        | false =>
          have q1 : Op.bytesLess x.1.toList to.toList = false := hto
          have HD2 := Lib.hid (HD.out.1 hto)
          clear hto
          go_wp2_with (go_at_call 16; refine HAt.out.mono ?_; rintro e w' ⟨rfl, q, rfl⟩)
          go_ret
          exact ⟨_, rfl, by rw [← btw_all HD2.out Hm.out]; exact HO.out, below_drewN HBe.out _⟩
        | true =>
          have q1 : Op.bytesLess x.1.toList to.toList = true := hto
          have HD2 := Lib.hid (HD.out.2 hto)
          clear hto
          have hbase : w.heap.size ≤ wr.heap.size := HBe.out.size
          go_wp2_with (first
            | (go_at_call 16; refine HAt.out.mono ?_; rintro e w' ⟨rfl, q, rfl⟩)
            | (at_builtin; refine wpList_append_t rfl (.tmp 37) (.tmp 39) rfl (OT.alloc (w := wr.drewN q) HO.out (.cells #[.string x.1] 9)) rfl (Src.text (wr.drewN q) wr.heap.size x.1 1 rfl) rfl ?_ ?_ ?_; rotate_right; intro v1 w1 hown1 hgr1; replace hown1 := Lib.hid hown1; replace hgr1 := Lib.hid hgr1))
          case refine_1 => rw [Hlj.out]; simp only [List.length_cons, List.length_nil]; omega
          case refine_2 => simp; omega
          go_roundw
          case rel =>
            have hB1 : Below w.heap.size w ((wr.drewN q).alloc (.cells #[.string x.1] 9)) := (below_drewN HBe.out q).alloc hbase _
            exact ⟨j + 1, i' + 1, Lib.hid (by have := Hi.out; omega), HD2.out.1, by go_num, .inr (by have := Hm.out; omega), by rw [HD2.out.2]; exact hown1.out, below_append_t hB1 hgr1.out (OT.alloc (w := wr.drewN q) HO.out _) (Nat.le_refl _) hB1.size⟩
          case measure => simp [intOf]; omega
    · have q0 : decide ((j : Int) < most) = false := decide_eq_false hm
      have HJ : Hid (((span klt k to l).map fun e => e.1).take j = btw klt k to most l) := Lib.hid (by
        unfold btw
        rcases hjm with rfl | h
        · rw [show most.toNat = 0 by omega]
        · rw [show most.toNat = j by omega])
      clear hm hjm
      go_wp2
      go_ret
      exact ⟨_, rfl, by rw [← HJ.out]; exact HO.out, HBe.out⟩
end Go.Proofs.Ytgiaifglkecdjaa.SI
