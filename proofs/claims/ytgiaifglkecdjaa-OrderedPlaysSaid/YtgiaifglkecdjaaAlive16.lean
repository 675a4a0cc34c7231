/- Layer 16's law: alive. -/
import Derived.Test.YtgiaifglkecdjaaTabIB
namespace Go.Proofs.Ytgiaifglkecdjaa
open Go.RowKit

namespace IB
def aliveL : Nat → List (Int × Bool)
  | 0 => []
  | k + 1 => ins klt ((k + 1 : Nat) : Int) true (aliveL k)
def aliveS : Nat → Code
  | 0 => .skip
  | k + 1 => putS klt ((k + 1 : Nat) : Int) (aliveS k) (aliveL k)
theorem aliveL_rises : ∀ k, Rises klt (aliveL k)
  | 0 => List.Pairwise.nil
  | k + 1 => ins_rises klin (aliveL_rises k)
theorem aliveL_len : ∀ k, (aliveL k).length ≤ k
  | 0 => Nat.le_refl _
  | k + 1 => by
    have := aliveL_len k
    rw [aliveL, ins_length]
    split <;> omega
theorem alive_ht : ht (aliveS 7) = 3 := by decide +kernel
theorem alive_len : (aliveL 7).length = 7 := by decide +kernel
end IB

set_option maxHeartbeats 1000000 in
set_option maxRecDepth 100000 in
theorem alive16_any (w : World) : Calls Try.prog 4 #[] w fun e w' => e = .returned (.bool true) ∧ Below w.heap.size w w' := by
  go_enter Try.func4, Try.ntmps4
  go_wp2_with (go_at_call 23; refine (IB.New_T w).mono ?_; rintro e w1 ⟨rfl, ht1, hb1⟩)
  have H1 := Lib.hid ht1
  have Hb1 := Lib.hid hb1
  clear ht1 hb1
  go_loopw [2] (fun i wr => ∃ k : Nat, k ≤ 7 ∧ i = .int .i64 ((k + 1 : Nat) : Int) ∧ IB.TabAt wr w.heap.size (IB.aliveS k) (IB.aliveL k) ∧ Below w.heap.size w wr) (fun i _ => 8 - (intOf i).toNat)
  case atStart => exact ⟨0, by omega, rfl, H1.out, Hb1.out⟩
  case round =>
    obtain ⟨k, hk, rfl, ha, hb⟩ := hrel
    have HA := Lib.hid ha
    have HB := Lib.hid hb
    clear ha hb
    by_cases hlt : k < 7
    · have HE : Hid (putS IB.klt ((k + 1 : Nat) : Int) (IB.aliveS k) (IB.aliveL k) = IB.aliveS (k + 1) ∧ ins IB.klt ((k + 1 : Nat) : Int) true (IB.aliveL k) = IB.aliveL (k + 1)) := ⟨rfl, rfl⟩
      have HP := Lib.hid (IB.Put_T w.heap.size ((k + 1 : Nat) : Int) true _ _ wr HA.out (IB.aliveL_rises k) (by have := IB.aliveL_len k; omega))
      rw [HE.out.1, HE.out.2] at HP
      go_wp2_with (go_at_call 24; refine HP.out.mono ?_; rintro e w2 ⟨rfl, ht2, hf2⟩)
      go_roundw
      case rel => exact ⟨k + 1, by omega, by go_num, ht2, HB.out.trans (hf2.below HB.out.size (fun i _ h => by omega))⟩
      case measure => simp [intOf]; omega
    · obtain rfl : k = 7 := by omega
      have HL := Lib.hid (IB.Len_T w.heap.size _ _ wr HA.out)
      have HH := Lib.hid (IB.Height_T w.heap.size _ _ wr HA.out)
      rw [IB.alive_len] at HL
      rw [IB.alive_ht] at HH
      go_wp2_with (first
        | (go_at_call 25; refine HH.out.mono ?_; rintro e w2 ⟨rfl, rfl⟩)
        | (go_at_call 26; refine HL.out.mono ?_; rintro e w2 ⟨rfl, rfl⟩))
      go_ret
      exact ⟨rfl, HB.out⟩
end Go.Proofs.Ytgiaifglkecdjaa
