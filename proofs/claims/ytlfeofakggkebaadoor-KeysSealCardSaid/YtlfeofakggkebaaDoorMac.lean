/- Layer 2 (mac): Same, plain, Frame: what they compute. -/
import Derived.Test.YtlfeofakggkebaaDoorBase
import Derived.Test.YtlfeofakggkebaaDoorShelf
import Derived.Test.YtlfeofakggkebaaDoorRows
namespace Go.Proofs.YtlfeofakggkebaaDoor
open Go.RowKit

/-! ### Same -/
def difs (l r : List UInt8) : UInt8 := (l.zip r).foldl (fun d p => d ||| (p.1 ^^^ p.2)) 0

theorem difs_snoc (l r : List UInt8) (k : Nat) (hl : k < l.length) (hr : k < r.length) :
    difs (l.take (k + 1)) (r.take (k + 1)) = difs (l.take k) (r.take k) ||| (l.getD k 0 ^^^ r.getD k 0) := by
  unfold difs
  rw [List.take_succ_eq_append_getElem hl, List.take_succ_eq_append_getElem hr, List.zip_append (by simp; omega), List.foldl_append]
  simp [hl, hr]

theorem or_eq_zero (a b : UInt8) : (a ||| b = 0) ↔ a = 0 ∧ b = 0 := by
  constructor
  · intro h
    have h' : a.toNat ||| b.toNat = 0 := by have := congrArg UInt8.toNat h; simpa using this
    have := Nat.or_eq_zero_iff.1 h'
    exact ⟨UInt8.toNat_inj.1 this.1, UInt8.toNat_inj.1 this.2⟩
  · rintro ⟨rfl, rfl⟩; rfl

theorem xor_eq_zero (a b : UInt8) : (a ^^^ b = 0) ↔ a = b := UInt8.xor_eq_zero_iff

theorem difs_zero_aux (z : List (UInt8 × UInt8)) : ∀ d : UInt8, (z.foldl (fun d p => d ||| (p.1 ^^^ p.2)) d = 0) ↔ d = 0 ∧ ∀ p ∈ z, p.1 = p.2 := by
  induction z with
  | nil => intro d; simp
  | cons p z ih =>
    intro d
    rw [List.foldl_cons, ih, or_eq_zero, xor_eq_zero]
    simp [and_assoc]

theorem difs_zero (l r : List UInt8) (h : l.length = r.length) : difs l r = 0 ↔ l = r := by
  unfold difs
  rw [difs_zero_aux]
  simp only [true_and]
  constructor
  · intro hz
    apply List.ext_getElem h
    intro i h1 h2
    exact hz (l[i], r[i]) (by rw [← List.getElem_zip (h := by simp; omega)]; exact List.getElem_mem _)
  · rintro rfl p hp
    obtain ⟨i, hi, rfl⟩ := List.mem_iff_getElem.1 hp
    simp

theorem Same_ne (A B : Option Addr) (n m c d : Nat) (w : World) (h : n ≠ m) :
    Calls Tryd.prog 58 #[.slice A n c, .slice B m d] w fun e w' => e = .returned (.bool false) ∧ w = w' := by
  go_enter Tryd.func58, Tryd.ntmps58
  go_wp2
  go_ret
  exact ⟨rfl, rfl⟩

theorem Same_eq (A B : Option Addr) (n c d : Nat) (w : World) (l r : List UInt8) (hl : RB w A n l) (hr : RB w B n r) (hn : n ≤ maxLen) :
    Calls Tryd.prog 58 #[.slice A n c, .slice B n d] w fun e w' => e = .returned (.bool (decide (l = r))) ∧ ∃ k, w' = w.drewN k := by
  unfold maxLen at hn
  go_enter Tryd.func58, Tryd.ntmps58
  go_wp2
  go_loopw [5, 14] (fun d i wr => ∃ k : Nat, k ≤ n ∧ i = .int .i64 k ∧ d = .int .u8 (difs (l.take k) (r.take k)).toNat ∧ ∃ q, wr = w.drewN q) (fun _ i _ => n - (intOf i).toNat)
  case atStart => exact ⟨0, Nat.zero_le _, rfl, by simp [difs], 0, rfl⟩
  case round =>
    obtain ⟨k, hk, rfl, rfl, q, rfl⟩ := hrel
    have hll := hl.1
    have hrl := hr.1
    by_cases hlt : k < n
    · have hsn := Lib.hid (difs_snoc l r k (by omega) (by omega))
      obtain ⟨b, o, rfl, hb⟩ := hl.2 (by omega)
      obtain ⟨b', o', rfl, hb'⟩ := hr.2 (by omega)
      have c1 := hb k hlt
      have c2 := hb' k hlt
      clear hb hb' hl hr hll hrl
      have k0 : (0 : Int) ≤ (k : Int) := by omega
      have k1 : (k : Int) < (n : Int) := by omega
      go_wp2
      go_quiet (fail)
      go_wp2
      go_roundw
      case rel =>
        refine ⟨k + 1, by omega, by go_num, ?_, _, rfl⟩
        rw [hsn.out]
        simp only [← List.getD_eq_getElem?_getD, b_or, b_xor]
      case measure => simp [intOf]; omega
    · obtain rfl : n = k := by omega
      have h0 := difs_zero l r (by omega)
      rw [List.take_of_length_le (by omega), List.take_of_length_le (by omega)]
      go_wp2
      go_ret
      refine ⟨ret_bool ?_, _, rfl⟩
      rw [Bool.eq_iff_iff, decide_eq_true_iff, ← h0, ← UInt8.toNat_inj]
      simp

/-! ### plain -/
def letters : List UInt8 := [97, 98, 99, 100, 101, 102, 103, 104, 105, 106, 107, 108, 109, 110, 111, 112, 113, 114, 115, 116, 117, 118, 119, 120, 121, 122, 48, 49, 50, 51, 52, 53, 54, 55, 56, 57, 45]
def plainC (c : UInt8) : Bool := decide (0 ≤ Lib.indexByte letters c)
def plainB (l : List UInt8) : Bool := l.all plainC

theorem getD_data (s : ByteArray) (k : Nat) (h : k < s.size) : s.data.toList.getD k 0 = s[k] := by
  have h' : k < s.data.toList.length := by simpa using h
  rw [List.getD_eq_getElem?_getD, List.getElem?_eq_getElem h']
  rfl

theorem all_of_getD {p : UInt8 → Bool} {l : List UInt8} : (∀ j, j < l.length → p (l.getD j 0) = true) → l.all p = true := by
  intro h
  rw [List.all_eq_true]
  intro x hx
  obtain ⟨i, hi, rfl⟩ := List.mem_iff_getElem.1 hx
  have := h i hi
  simpa [hi] using this

theorem not_all_of_getD {p : UInt8 → Bool} {l : List UInt8} (j : Nat) (hj : j < l.length) (h : p (l.getD j 0) = false) : l.all p = false := by
  rw [List.all_eq_false]
  exact ⟨l[j], List.getElem_mem _, by simpa [hj] using h⟩

theorem plain_any (s : ByteArray) (w : World) (hs : s.size ≤ maxLen) :
    Calls Tryd.prog 117 #[.string s] w fun e w' => e = .returned (.bool (plainB s.data.toList)) ∧ w = w' := by
  unfold maxLen at hs
  go_enter Tryd.func117, Tryd.ntmps117
  go_wp2
  go_loop [6] (fun i => ∃ k : Nat, k ≤ s.size ∧ i = .int .i64 k ∧ ∀ j, j < k → plainC (s.data.toList.getD j 0) = true) (fun i => s.size - (intOf i).toNat)
  case atStart => exact ⟨0, Nat.zero_le _, rfl, fun j hj => absurd hj (by omega)⟩
  case round =>
    obtain ⟨k, hk, rfl, hall⟩ := hrel
    have Hall := Lib.hid hall
    clear hall
    have hsz : s.data.toList.length = s.size := by simp
    by_cases hlt : k < s.size
    · have hg := Lib.hid (getD_data s k hlt)
      go_wp2_with (go_at_call 134; refine (Tryd.strings_IndexByte _ _ _).mono ?_; rintro e w' ⟨rfl, rfl⟩)
      · go_ret
        refine ⟨ret_bool ?_, rfl⟩
        refine (not_all_of_getD k (by omega) ?_).symm
        rw [hg.out]
        exact decide_eq_false (by simp only [letters]; omega)
      · go_round
        case rel =>
          refine ⟨k + 1, by omega, by go_num, fun j hj => ?_⟩
          rcases Nat.lt_or_ge j k with h | h
          · exact Hall.out j h
          · obtain rfl : j = k := by omega
            rw [hg.out]
            exact decide_eq_true (by simp only [letters]; omega)
        case measure => simp [intOf]; omega
    · go_wp2
      go_ret
      exact ⟨ret_bool (all_of_getD fun j hj => Hall.out j (by omega)).symm, rfl⟩

/-! ### slices.ContainsFunc over the parts -/
def tooLong (p : List UInt8) : Bool := decide (65536 < p.length)

theorem Frame1_any (A : Option Addr) (n c : Nat) (w : World) :
    Calls Tryd.prog 119 #[.slice A n c] w fun e w' => e = .returned (.bool (decide (65536 < n))) ∧ w = w' := by
  go_enter Tryd.func119, Tryd.ntmps119
  go_wp2
  go_ret
  exact ⟨ret_bool (by rw [decide_eq_decide]; omega), rfl⟩

theorem IndexFunc_any (A : Option Addr) (n c : Nat) (w : World) (ls : List (List UInt8)) (hl : RBL w A n ls) (hn : n ≤ maxLen) :
    Calls Tryd.prog 135 #[.slice A n c, .func (.func 119) #[] #[]] w fun e w' => (∃ i : Int, e = .returned (.int .i64 i) ∧ decide (0 ≤ i) = ls.any tooLong) ∧ w = w' := by
  unfold maxLen at hn
  have hll := hl.1
  go_enter Tryd.func135, Tryd.ntmps135
  go_wp2
  go_loop [8] (fun i => ∃ k : Nat, k ≤ n ∧ i = .int .i64 k ∧ ∀ j, j < k → tooLong (ls.getD j []) = false) (fun i => n - (intOf i).toNat)
  case atStart => exact ⟨0, Nat.zero_le _, rfl, fun j hj => absurd hj (by omega)⟩
  case round =>
    obtain ⟨k, hk, rfl, hall⟩ := hrel
    have Hall := Lib.hid hall
    clear hall
    by_cases hlt : k < n
    · obtain ⟨b, o, rfl, hb⟩ := hl.2 (by omega)
      obtain ⟨v, c1, A', c', rfl, hc1, hc2, -⟩ := hb k hlt
      clear hb hl
      have k0 : (0 : Int) ≤ (k : Int) := by omega
      have k1 : (k : Int) < (n : Int) := by omega
      have hlk := Lib.hid hll
      clear hll
      go_wp2_with (go_at_call 119; refine (Frame1_any _ _ _ _).mono ?_; rintro e w' ⟨rfl, rfl⟩)
      · go_ret
        refine ⟨⟨k, rfl, ?_⟩, rfl⟩
        rw [decide_eq_true (by omega), eq_comm, List.any_eq_true]
        refine ⟨ls.getD k [], ?_, ?_⟩
        · have := hlk.out
          rw [List.getD_eq_getElem?_getD, List.getElem?_eq_getElem (by omega)]
          exact List.getElem_mem _
        · rw [List.getD_eq_getElem?_getD]
          exact decide_eq_true (by assumption)
      · go_round
        case rel =>
          refine ⟨k + 1, by omega, by go_num, fun j hj => ?_⟩
          rcases Nat.lt_or_ge j k with h | h
          · exact Hall.out j h
          · obtain rfl : j = k := by omega
            rw [List.getD_eq_getElem?_getD]
            exact decide_eq_false (by assumption)
        case measure => simp [intOf]; omega
    · go_wp2
      go_ret
      refine ⟨⟨-1, rfl, ?_⟩, rfl⟩
      rw [decide_eq_false (by omega), eq_comm, List.any_eq_false]
      intro x hx
      obtain ⟨i, hi, rfl⟩ := List.mem_iff_getElem.1 hx
      have := Hall.out i (by omega)
      rw [List.getD_eq_getElem?_getD, List.getElem?_eq_getElem hi] at this
      simpa using this

theorem ContainsFunc_any (A : Option Addr) (n c : Nat) (w : World) (ls : List (List UInt8)) (hl : RBL w A n ls) (hn : n ≤ maxLen) :
    Calls Tryd.prog 118 #[.slice A n c, .func (.func 119) #[] #[]] w fun e w' => e = .returned (.bool (ls.any tooLong)) ∧ w = w' := by
  go_enter Tryd.func118, Tryd.ntmps118
  go_wp2_with (go_at_call 135; refine (IndexFunc_any _ _ _ _ ls (by assumption) (by assumption)).mono ?_; rintro e w' ⟨⟨i, rfl, hi⟩, rfl⟩; have Hi := Lib.hid hi; clear hi)
  go_ret
  exact ⟨ret_bool Hi.out, rfl⟩
end Go.Proofs.YtlfeofakggkebaaDoor
