/- Layer 16, tables of string to int: At. -/
import Derived.Test.YtgiaifglkecdjaaTabSI
import Derived.Test.YtgiaifglkecdjaaPlayP
namespace Go.Proofs.Ytgiaifglkecdjaa.SI
open Go.RowKit

/-- What At answers of an entry, or of none. -/
def atV : Option (ByteArray × Int) → Value
  | some e => .tuple #[.string e.1, .int .i64 e.2, .bool true]
  | none => .tuple #[.string ⟨#[]⟩, .int .i64 0, .bool false]

set_option maxHeartbeats 1000000 in
theorem At_T (g : Nat) (i : Int) (s : Code) (l : List (ByteArray × Int)) (w : World) (a : TabAt w g s l) (hi0 : -9223372036854775808 ≤ i) (hi1 : i ≤ 9223372036854775807) (hlen : l.length ≤ 1000000000) :
    Calls Try.prog 16 #[.pointer (some ⟨g, 0, none⟩), .int .i64 i] w fun e w' => e = .returned (atV (getI l i)) ∧ ∃ k, w' = w.drewN k := by
  obtain ⟨p, h1, h2⟩ := a
  have c0 := cell_of_one h1
  have H2 := Lib.hid h2
  clear h1 h2
  go_enter Try.func16, Try.ntmps16
  go_wp2_with fail
  go_loopg [1, 7] (sz s) (fun gk s1 s7 wr => ∃ (j : Int) (q : Option Addr) (l' : List (ByteArray × Int)) (s' : Code), s1 = .int .i64 j ∧ s7 = .pointer q ∧ T w s' q l' ∧ getI l' j = getI l i ∧ -9223372036854775808 ≤ j ∧ j ≤ 9223372036854775807 ∧ l'.length ≤ 1000000000 ∧ sz s' ≤ gk ∧ wr = w)
  case atStart => exact ⟨i, p, l, s, rfl, rfl, H2.out, rfl, hi0, hi1, hlen, Nat.le_refl _, rfl⟩
  case round =>
    obtain ⟨j, q, l', s', rfl, rfl, ht, hgi, hj0, hj1, hle, hg, rfl⟩ := hrel
    rcases Tr.open ht with ⟨rfl, rfl, rfl⟩ | ⟨b, a, x, pl, pr, ll, lr, sl, sr, rfl, hn, rfl, rfl, al, ar⟩
    · have Hgi := Lib.hid hgi
      clear hgi ht hg
      go_wp2
      go_ret3
      exact ⟨by rw [← Hgi.out, getI_nil]; rfl, 0, rfl⟩
    obtain ⟨d0, d1, d2, d3, -, -⟩ := NP.cells hn
    have G1 := Lib.hid al
    have G2 := Lib.hid ar
    have Hgi := Lib.hid hgi
    simp only [List.length_append, List.length_cons] at hle
    simp only [sz] at hg
    clear hgi ht al ar hn
    by_cases hlt : j < (ll.length : Int)
    · have HC := Lib.hid hlt
      have q1 : (j == (ll.length : Int)) = false := beq_eq_false_iff_ne.2 (by omega)
      have q2 : decide (j < (ll.length : Int)) = true := decide_eq_true hlt
      have q3 : (j != (ll.length : Int)) = true := bne_iff_ne.2 (by omega)
      clear hlt
      go_wp2_with (go_at_call 30; refine (many_T sl pl ll _ G1.out).mono ?_; rintro e w' ⟨rfl, rfl⟩)
      go_roundg (gk - 1)
      case measure => omega
      case rel => exact ⟨j, pl, ll, sl, rfl, rfl, G1.out, by rw [← Hgi.out, getI_left HC.out], hj0, hj1, by omega, by omega, rfl⟩
    · by_cases hgt : (ll.length : Int) < j
      · have HC := Lib.hid hgt
        have q1 : (j == (ll.length : Int)) = false := beq_eq_false_iff_ne.2 (by omega)
        have q2 : decide (j < (ll.length : Int)) = false := decide_eq_false (by omega)
        have q3 : (j != (ll.length : Int)) = true := bne_iff_ne.2 (by omega)
        clear hlt hgt
        have b0 : -9223372036854775808 ≤ j - ((ll.length : Int) + 1) := by have := HC.out; omega
        have b1 : j - ((ll.length : Int) + 1) ≤ 9223372036854775807 := by have := HC.out; omega
        go_wp2_with (go_at_call 30; refine (many_T sl pl ll _ G1.out).mono ?_; rintro e w' ⟨rfl, rfl⟩)
        go_roundg (gk - 1)
        case measure => omega
        case rel => exact ⟨j - ((ll.length : Int) + 1), pr, lr, sr, by go_num, rfl, G2.out, by rw [← Hgi.out, getI_right HC.out], b0, b1, by omega, by omega, rfl⟩
      · obtain rfl : j = (ll.length : Int) := by omega
        have q1 : ((ll.length : Int) == (ll.length : Int)) = true := by simp
        clear hlt hgt
        go_wp2_with (go_at_call 30; refine (many_T sl pl ll _ G1.out).mono ?_; rintro e w' ⟨rfl, rfl⟩)
        go_quiet (fail)
        go_wp2
        go_ret3
        exact ⟨by rw [← Hgi.out, getI_here rfl]; rfl, _, rfl⟩
end Go.Proofs.Ytgiaifglkecdjaa.SI
