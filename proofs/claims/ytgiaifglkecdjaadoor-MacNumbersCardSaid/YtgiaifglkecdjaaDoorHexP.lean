/- Texts of hexadecimal digits, and the bytes that they are. No program in sight. -/
import Derived.Test.YtgiaifglkecdjaaDoorText
import Derived.Test.YtgiaifglkecdjaaDoorMac
namespace Go.Proofs.YtgiaifglkecdjaaDoor
open Go.RowKit

def digits : List UInt8 := [48, 49, 50, 51, 52, 53, 54, 55, 56, 57, 97, 98, 99, 100, 101, 102]
/-- A digit's value; -1: it is none. -/
def hv (c : UInt8) : Int := Lib.indexByte digits c
def isHex (c : UInt8) : Bool := decide (0 ≤ hv c)
def hn (c : UInt8) : UInt8 := UInt8.ofNat (hv c).toNat
def bytesOf : List UInt8 → List UInt8
  | a :: b :: l => (16 * hn a + hn b) :: bytesOf l
  | _ => []

theorem hv_all : ((List.range 256).all fun n =>
    let c := UInt8.ofNat n
    decide (hv c = (hn c).toNat ∨ hv c = -1) && decide ((hn c).toNat < 16) && (!isHex c || hexC (hn c) == c) &&
    (isHex c == (decide (48 ≤ n ∧ n ≤ 57) || decide (97 ≤ n ∧ n ≤ 102))) && (!decide (48 ≤ n ∧ n ≤ 57) || decide (hv c = (n : Int) - 48)) && (!decide (97 ≤ n ∧ n ≤ 102) || decide (hv c = (n : Int) - 87))) = true := by decide +kernel
theorem hexC_all : ((List.range 16).all fun n => isHex (hexC (UInt8.ofNat n)) && hn (hexC (UInt8.ofNat n)) == UInt8.ofNat n) = true := by decide +kernel
theorem hexB_all : ((List.range 16).all fun x => (List.range 16).all fun y => (16 * UInt8.ofNat x + UInt8.ofNat y) / 16 == UInt8.ofNat x && (16 * UInt8.ofNat x + UInt8.ofNat y) % 16 == UInt8.ofNat y) = true := by decide +kernel
theorem divmod_all : ((List.range 256).all fun n => 16 * (UInt8.ofNat n / 16) + UInt8.ofNat n % 16 == UInt8.ofNat n && decide ((UInt8.ofNat n / 16).toNat < 16) && decide ((UInt8.ofNat n % 16).toNat < 16)) = true := by decide +kernel

theorem ofNat_self (c : UInt8) : UInt8.ofNat c.toNat = c := by simp
theorem hv_facts (c : UInt8) : (hv c = (hn c).toNat ∨ hv c = -1) ∧ (hn c).toNat < 16 ∧ (isHex c = true → hexC (hn c) = c) ∧
    (isHex c = true ↔ (48 ≤ c.toNat ∧ c.toNat ≤ 57) ∨ (97 ≤ c.toNat ∧ c.toNat ≤ 102)) ∧ ((48 ≤ c.toNat ∧ c.toNat ≤ 57) → hv c = (c.toNat : Int) - 48) ∧ ((97 ≤ c.toNat ∧ c.toNat ≤ 102) → hv c = (c.toNat : Int) - 87) := by
  have h := List.all_eq_true.1 hv_all c.toNat (by simpa using c.toNat_lt)
  simp only [ofNat_self, Bool.and_eq_true, decide_eq_true_eq, Bool.or_eq_true, Bool.not_eq_true', beq_iff_eq, decide_eq_false_iff_not] at h
  obtain ⟨⟨⟨⟨⟨h1, h2⟩, h3⟩, h4⟩, h5⟩, h6⟩ := h
  refine ⟨h1, h2, fun x => ?_, ?_, fun x => ?_, fun x => ?_⟩
  · rcases h3 with h3 | h3
    · rw [x] at h3; cases h3
    · exact h3
  · rw [h4, Bool.or_eq_true, decide_eq_true_eq, decide_eq_true_eq]
  · rcases h5 with h5 | h5
    · exact absurd x h5
    · exact h5
  · rcases h6 with h6 | h6
    · exact absurd x h6
    · exact h6
theorem hv_hex {c : UInt8} (h : isHex c = true) : hv c = (hn c).toNat := by
  rcases (hv_facts c).1 with x | x
  · exact x
  · rw [isHex, x] at h; simp at h
theorem hv_not {c : UInt8} (h : isHex c = false) : hv c = -1 := by
  rcases (hv_facts c).1 with x | x
  · have := of_decide_eq_false (show decide (0 ≤ hv c) = false from h)
    omega
  · exact x
theorem hexC_facts (c : UInt8) (h : c.toNat < 16) : isHex (hexC c) = true ∧ hn (hexC c) = c := by
  have h := List.all_eq_true.1 hexC_all c.toNat (by simpa using h)
  simpa only [ofNat_self, Bool.and_eq_true, beq_iff_eq] using h
theorem hexB_facts (x y : UInt8) (hx : x.toNat < 16) (hy : y.toNat < 16) : hexB (16 * x + y) = [hexC x, hexC y] := by
  have h := List.all_eq_true.1 (List.all_eq_true.1 hexB_all x.toNat (by simpa using hx)) y.toNat (by simpa using hy)
  simp only [ofNat_self, Bool.and_eq_true, beq_iff_eq] at h
  rw [hexB, h.1, h.2]
theorem divmod_facts (c : UInt8) : 16 * (c / 16) + c % 16 = c ∧ (c / 16).toNat < 16 ∧ (c % 16).toNat < 16 := by
  have h := List.all_eq_true.1 divmod_all c.toNat (by simpa using c.toNat_lt)
  simp only [ofNat_self, Bool.and_eq_true, beq_iff_eq, decide_eq_true_eq] at h
  exact ⟨h.1.1, h.1.2, h.2⟩

theorem hexs_bytesOf : ∀ (n : Nat) (l : List UInt8), l.length = 2 * n → l.all isHex = true → hexs (bytesOf l) = l := by
  intro n
  induction n with
  | zero => intro l hl _; have := List.length_eq_zero_iff.1 (by omega : l.length = 0); subst this; rfl
  | succ n ih =>
    intro l hl ha
    match l, hl with
    | a :: b :: l, hl =>
      simp only [List.all_cons, Bool.and_eq_true] at ha
      have h := ih l (by simp at hl; omega) ha.2.2
      simp only [bytesOf, hexs, List.flatMap_cons] at *
      rw [h, hexB_facts _ _ (hv_facts a).2.1 (hv_facts b).2.1, (hv_facts a).2.2.1 ha.1, (hv_facts b).2.2.1 ha.2.1]
      rfl
theorem bytesOf_hexs (l : List UInt8) : bytesOf (hexs l) = l := by
  induction l with
  | nil => rfl
  | cons c l ih =>
    simp only [hexs, List.flatMap_cons, hexB, List.cons_append, List.nil_append, bytesOf] at *
    rw [ih, (hexC_facts _ (divmod_facts c).2.1).2, (hexC_facts _ (divmod_facts c).2.2).2, (divmod_facts c).1]
theorem hexs_hex (l : List UInt8) : (hexs l).all isHex = true := by
  induction l with
  | nil => rfl
  | cons c l ih =>
    simp only [hexs, List.flatMap_cons, hexB, List.cons_append, List.nil_append, List.all_cons, Bool.and_eq_true] at *
    exact ⟨(hexC_facts _ (divmod_facts c).2.1).1, (hexC_facts _ (divmod_facts c).2.2).1, ih⟩
theorem bytesOf_length : ∀ (n : Nat) (l : List UInt8), l.length = 2 * n → (bytesOf l).length = n := by
  intro n
  induction n with
  | zero => intro l hl; have := List.length_eq_zero_iff.1 (by omega : l.length = 0); subst this; rfl
  | succ n ih =>
    intro l hl
    match l, hl with
    | a :: b :: l, hl => simp only [bytesOf, List.length_cons, ih l (by simp at hl; omega)]
theorem bytesOf_get : ∀ (j : Nat) (l : List UInt8), 2 * j + 1 < l.length → (bytesOf l).getD j 0 = 16 * hn (l.getD (2 * j) 0) + hn (l.getD (2 * j + 1) 0) := by
  intro j
  induction j with
  | zero =>
    intro l hl
    match l, hl with
    | a :: b :: l, hl => rfl
  | succ j ih =>
    intro l hl
    match l, hl with
    | a :: b :: l, hl =>
      have h := ih l (by simp at hl; omega)
      rw [show 2 * (j + 1) = 2 * j + 1 + 1 by omega]
      simpa only [bytesOf, List.getD_cons_succ] using h

/-! ### what the loops hold behind i digits -/
/-- The program's row of m bytes: of a half byte only its first digit. -/
def outAt (m : Nat) (l : List UInt8) (i : Nat) : List UInt8 := (List.range m).map fun j => if 2 * j + 1 < i then 16 * hn (l.getD (2 * j) 0) + hn (l.getD (2 * j + 1) 0) else if 2 * j < i then hn (l.getD (2 * j) 0) else 0
theorem outAt_length (m : Nat) (l : List UInt8) (i : Nat) : (outAt m l i).length = m := by simp [outAt]
theorem outAt_zero (m : Nat) (l : List UInt8) : outAt m l 0 = List.replicate m 0 := by
  refine List.ext_getElem (by simp [outAt]) fun j h1 h2 => ?_
  simp [outAt]
theorem outAt_step (m : Nat) (l : List UInt8) (i : Nat) (hi : i < 2 * m) : outAt m l (i + 1) = (outAt m l i).set (i / 2) (if i % 2 = 0 then hn (l.getD i 0) else 16 * (outAt m l i).getD (i / 2) 0 + hn (l.getD i 0)) := by
  have hm : i / 2 < m := by omega
  have hg : (outAt m l i).getD (i / 2) 0 = if 2 * (i / 2) + 1 < i then 16 * hn (l.getD (2 * (i / 2)) 0) + hn (l.getD (2 * (i / 2) + 1) 0) else if 2 * (i / 2) < i then hn (l.getD (2 * (i / 2)) 0) else 0 := by
    rw [List.getD_eq_getElem?_getD, List.getElem?_eq_getElem (by rw [outAt_length]; exact hm)]
    simp [outAt]
  refine List.ext_getElem (by simp [outAt]) fun j h1 h2 => ?_
  have hj : j < m := by simpa [outAt] using h1
  rw [List.getElem_set]
  by_cases e : i / 2 = j
  · rw [if_pos e]
    subst e
    rw [hg]
    rcases Nat.mod_two_eq_zero_or_one i with h | h
    · have e2 : 2 * (i / 2) = i := by omega
      rw [if_pos h]
      simp [outAt, e2]
    · have e2 : 2 * (i / 2) + 1 = i := by omega
      have e3 : 2 * (i / 2) < i := by omega
      rw [if_neg (by omega), if_neg (by omega), if_pos e3]
      simp only [outAt, List.getElem_map, List.getElem_range]
      rw [if_pos (by omega), e2]
  · rw [if_neg e]
    simp only [outAt, List.getElem_map, List.getElem_range]
    by_cases h : 2 * j + 1 < i
    · rw [if_pos h, if_pos (by omega)]
    · rw [if_neg h, if_neg (by omega)]
      by_cases h' : 2 * j < i
      · rw [if_pos h', if_pos (by omega)]
      · rw [if_neg h', if_neg (by omega)]
theorem outAt_done (m : Nat) (l : List UInt8) (hl : l.length = 2 * m) : outAt m l (2 * m) = bytesOf l := by
  refine List.ext_getElem (by rw [outAt_length, bytesOf_length m l hl]) fun j h1 h2 => ?_
  have hj : j < m := by simpa [outAt] using h1
  have := bytesOf_get j l (by omega)
  rw [List.getD_eq_getElem?_getD, List.getElem?_eq_getElem h2] at this
  rw [Option.getD_some] at this
  rw [this]
  simp only [outAt, List.getElem_map, List.getElem_range]
  rw [if_pos (by omega)]

/-- The reference's row: it grows at each first digit, which stands at its place at once. -/
def refAt (l : List UInt8) (i : Nat) : List UInt8 := (List.range ((i + 1) / 2)).map fun j => if 2 * j + 1 < i then 16 * hn (l.getD (2 * j) 0) + hn (l.getD (2 * j + 1) 0) else 16 * hn (l.getD (2 * j) 0)
theorem refAt_length (l : List UInt8) (i : Nat) : (refAt l i).length = (i + 1) / 2 := by simp [refAt]
theorem refAt_even (l : List UInt8) (i : Nat) (h : i % 2 = 0) : refAt l (i + 1) = refAt l i ++ [16 * hn (l.getD i 0)] := by
  refine List.ext_getElem (by simp [refAt]; omega) fun j h1 h2 => ?_
  have hj : j < (i + 1 + 1) / 2 := by simpa [refAt] using h1
  rw [List.getElem_append]
  split
  · rename_i hs
    have : j < (i + 1) / 2 := by simpa [refAt] using hs
    simp only [refAt, List.getElem_map, List.getElem_range]
    rw [if_pos (by omega), if_pos (by omega)]
  · rename_i hs
    have : ¬ j < (i + 1) / 2 := by simpa [refAt] using hs
    simp only [refAt, List.getElem_map, List.getElem_range, List.getElem_singleton]
    rw [if_neg (by omega), show 2 * j = i by omega]
theorem refAt_odd (l : List UInt8) (i : Nat) (h : i % 2 = 1) : refAt l (i + 1) = (refAt l i).set (i / 2) ((refAt l i).getD (i / 2) 0 + hn (l.getD i 0)) := by
  have hm : i / 2 < (i + 1) / 2 := by omega
  have hg : (refAt l i).getD (i / 2) 0 = if 2 * (i / 2) + 1 < i then 16 * hn (l.getD (2 * (i / 2)) 0) + hn (l.getD (2 * (i / 2) + 1) 0) else 16 * hn (l.getD (2 * (i / 2)) 0) := by
    rw [List.getD_eq_getElem?_getD, List.getElem?_eq_getElem (by rw [refAt_length]; exact hm)]
    simp [refAt]
  refine List.ext_getElem (by simp [refAt]; omega) fun j h1 h2 => ?_
  have hj : j < (i + 1 + 1) / 2 := by simpa [refAt] using h1
  rw [List.getElem_set]
  by_cases e : i / 2 = j
  · rw [if_pos e]
    subst e
    rw [hg, if_neg (by omega)]
    simp only [refAt, List.getElem_map, List.getElem_range]
    rw [if_pos (by omega), show 2 * (i / 2) + 1 = i by omega]
  · rw [if_neg e]
    simp only [refAt, List.getElem_map, List.getElem_range]
    rw [if_pos (by omega), if_pos (by omega)]
theorem refAt_done (m : Nat) (l : List UInt8) (hl : l.length = 2 * m) : refAt l (2 * m) = bytesOf l := by
  refine List.ext_getElem (by rw [refAt_length, bytesOf_length m l hl]; omega) fun j h1 h2 => ?_
  have hj : j < (2 * m + 1) / 2 := by simpa [refAt] using h1
  have := bytesOf_get j l (by omega)
  rw [List.getD_eq_getElem?_getD, List.getElem?_eq_getElem h2] at this
  rw [Option.getD_some] at this
  rw [this]
  simp only [refAt, List.getElem_map, List.getElem_range]
  rw [if_pos (by omega)]
end Go.Proofs.YtgiaifglkecdjaaDoor
