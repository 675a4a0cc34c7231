/- The reference's Frame of too many parts; mac.Tagged of what is not framed. -/
import Derived.Test.YtlfeofakggkebaaDoorTagged
import Derived.Test.YtlfeofakggkebaaDoorNum
namespace Go.Proofs.YtlfeofakggkebaaDoor
open Go.RowKit

set_option maxHeartbeats 4000000 in
set_option maxRecDepth 100000 in
theorem RefFrame_many (s : ByteArray) (A : Option Addr) (n c : Nat) (w : World) (hn : 16 < n) (h1 : wordBad s.data.toList = false) :
    Calls Tryd.prog 19 #[.string s, .slice A n c] w fun e w' => e = .returned (.tuple #[.slice none 0 0, .int .i64 3]) ∧ w' = w := by
  have hsz : s.data.toList.length = s.size := by simp
  simp only [wordBad, Bool.or_eq_false_iff, decide_eq_false_iff_not, Bool.not_eq_false'] at h1
  obtain ⟨⟨g1, g2⟩, g3⟩ := h1
  rw [hsz] at g2
  have hpos : 1 ≤ s.size := by
    rcases Nat.eq_zero_or_pos s.size with h | h
    · rw [h] at hsz
      rw [List.eq_nil_of_length_eq_zero hsz] at g1
      simp at g1
    · omega
  have Hsz := Lib.hid hsz
  have Hall := Lib.hid g3
  clear hsz g1 g3
  have k1 : decide ((s.size : Int) < 1) = false := decide_eq_false (by omega)
  have k2 : decide (32 < (s.size : Int)) = false := decide_eq_false (by omega)
  have k3 : decide (16 < (n : Int)) = true := decide_eq_true (by omega)
  have hs63 : s.size ≤ 9223372036854775807 := by omega
  go_enter Tryd.func19, Tryd.ntmps19
  go_wp2_with fail
  go_loop [6] (fun i => ∃ k : Nat, k ≤ s.size ∧ i = .int .i64 (k : Int)) (fun i => s.size - (intOf i).toNat)
  case atStart => exact ⟨0, by omega, rfl⟩
  case round =>
    obtain ⟨k, hk, rfl⟩ := hrel
    by_cases hlt : k < s.size
    · have hg := getD_data s k hlt
      have hp : wordC s[k] = true := by
        rw [← plainC_eq, ← hg]
        have := List.all_eq_true.1 Hall.out (s.data.toList.getD k 0) (by rw [List.getD_eq_getElem?_getD, List.getElem?_eq_getElem (by have := Hsz.out; omega)]; exact List.getElem_mem _)
        exact this
      clear hg
      unfold wordC at hp
      simp only [Bool.not_eq_true', Bool.and_eq_false_iff, Bool.or_eq_false_iff, decide_eq_false_iff_not, bne_eq_false_iff_eq] at hp
      by_cases h1 : s[k].toNat < 97
      · have q1 : decide ((s[k].toNat : Int) < 97) = true := decide_eq_true (by omega)
        by_cases h3 : s[k].toNat < 48
        · have q3 : decide ((s[k].toNat : Int) < 48) = true := decide_eq_true (by omega)
          have q5 : ((s[k].toNat : Int) != 45) = false := by rw [bne_eq_false_iff_eq]; omega
          clear hp
          go_wp2
          go_round
          case rel => exact ⟨k + 1, by omega, by go_num⟩
          case measure => simp [intOf]; omega
        · have q3 : decide ((s[k].toNat : Int) < 48) = false := decide_eq_false (by omega)
          have q4 : decide (57 < (s[k].toNat : Int)) = false := decide_eq_false (by omega)
          clear hp
          go_wp2
          go_round
          case rel => exact ⟨k + 1, by omega, by go_num⟩
          case measure => simp [intOf]; omega
      · have q1 : decide ((s[k].toNat : Int) < 97) = false := decide_eq_false (by omega)
        have q2 : decide (122 < (s[k].toNat : Int)) = false := decide_eq_false (by omega)
        clear hp
        go_wp2
        go_round
        case rel => exact ⟨k + 1, by omega, by go_num⟩
        case measure => simp [intOf]; omega
    · obtain rfl : k = s.size := by omega
      go_wp2
      go_ret2
      exact ⟨rfl, rfl⟩

set_option maxRecDepth 100000 in
/-- mac.Tagged of a word or of parts that are not framed: no digest, the error. -/
theorem Tagged_bad (A : Option Addr) (n c : Nat) (s : ByteArray) (A2 : Option Addr) (n2 c2 : Nat) (ls : List (List UInt8)) (w : World) (hl : RBL w A2 n2 ls) (hs : s.size ≤ maxLen) (hn : n2 ≤ maxLen) {at_ al : Addr} (he : TextErrs w (ErrVal at_) (ErrVal al)) (h : frameBad s.data.toList ls = true) {r : Addr} (hr : (if wordBad s.data.toList then ErrVal at_ else ErrVal al) = ErrVal r) :
    Calls Tryd.prog 54 #[.slice A n c, .string s, .slice A2 n2 c2] w fun e w' => e = .returned (.tuple #[.agg zer32, ErrVal r]) ∧ Below w.heap.size w w' := by
  have Hl := Lib.hid hl
  have He := Lib.hid he
  have Hh := Lib.hid h
  have HS := Lib.hid (And.intro hs hn)
  have hb1 : Below w.heap.size w (w.alloc (.cells zer32 48)) := (Below.refl _ w).alloc (Nat.le_refl _) _
  have Hz1 := Lib.hid (heap_alloc_new w (.cells zer32 48))
  have Hb1 := Lib.hid hb1
  have HRr := Lib.hid hr
  clear hl he h hs hn hb1 hr
  go_enter Tryd.func54, Tryd.ntmps54
  go_wp2_with fail
  refine (Frame_bad s A2 n2 c2 ls _ (Hl.out.keep (Keeps.of_below ((Below.refl _ w).alloc (Nat.le_refl _) _))) HS.out.1 HS.out.2 (He.out.keep (Keeps.of_below ((Below.refl _ w).alloc (Nat.le_refl _) _))) Hh.out).mono ?_
  rw [HRr.out]
  rintro e w2 ⟨rfl, hb2⟩
  have Hb2 := Lib.hid (Hb1.out.trans (hb2.mono (by simp)))
  have Hz2 := Lib.hid ((hb2.block w.heap.size (by simp)).trans Hz1.out)
  clear hb2
  have HC2 : Hid (zer32.size = 32) := by show _ = _; decide
  have HB2 : Hid (zer32.all (·.oneCell') = true) := by show _ = _; decide +kernel
  unfold ErrVal
  go_wp2_with (first
    | (refine wpList_store_row rfl 48 (.tmp 6) (.tmp 18) rfl w.heap.size zer32 rfl rfl 48 _ Hz2.out (by rw [HC2.out]; exact info_32) (by first | rfl | rw [HC2.out]) HB2.out ?_)
    | fail)
  refine bodyPost_ret (results_row_tmp (x := ErrVal r) rfl _ _ w.heap.size 48 zer32 (0, 0) _ rfl rfl (setRow_heap _ _ _ _ _ _ Hz2.out) Tryd.underlying48 rfl (by rw [HC2.out]; exact info_32)) rfl ⟨rfl, ?_⟩
  exact ⟨Hb2.out.os, Hb2.out.tape, Hb2.out.output, by simpa [World.setRow] using Hb2.out.size, fun i hi => (setRow_other _ _ _ _ (by omega)).trans (Hb2.out.block i hi)⟩
end Go.Proofs.YtlfeofakggkebaaDoor
