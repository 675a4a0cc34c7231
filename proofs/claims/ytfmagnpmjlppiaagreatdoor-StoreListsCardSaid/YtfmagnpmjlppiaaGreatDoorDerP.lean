/- Layers 3 and 4 (tlv, whole): elements' bytes, in plain words. No program in sight. -/
import Derived.Test.YtfmagnpmjlppiaaGreatDoorBase
namespace Go.Proofs.YtfmagnpmjlppiaaGreatDoor
/-! ### numbers' bytes -/
/-- The bytes of a number, the last one first. -/
def lowB (n : Nat) : List UInt8 := if h : n = 0 then [] else UInt8.ofNat n :: lowB (n / 256)
termination_by n
decreasing_by exact Nat.div_lt_self (by omega) (by omega)
/-- A length's bytes. -/
def lenB (n : Nat) : List UInt8 := if n ≤ 127 then [UInt8.ofNat n] else (lowB n ++ [UInt8.ofNat (128 + (lowB n).length)]).reverse
def elemB (tag : Nat) (b : List UInt8) : List UInt8 := UInt8.ofNat tag :: (lenB b.length ++ b)
/-- A body's bytes of a number that isn't below 0, the last one first. -/
def lowI (n : Nat) : List UInt8 := if h : n < 128 then [UInt8.ofNat n] else UInt8.ofNat n :: lowI (n / 256)
termination_by n
decreasing_by exact Nat.div_lt_self (by omega) (by omega)
def intB (n : Nat) : List UInt8 := (lowI n).reverse
/-- The number of bytes, the first one highest. -/
def valB (b : List UInt8) : Nat := b.foldl (fun n c => n * 256 + c.toNat) 0

theorem lowB_zero : lowB 0 = [] := by unfold lowB; simp
theorem lowB_pos {n : Nat} (h : 0 < n) : lowB n = UInt8.ofNat n :: lowB (n / 256) := by
 rw [lowB, dif_neg (by omega)]
theorem lowB_len {n : Nat} : ∀ k, n < 256 ^ k → (lowB n).length ≤ k := by
 intro k
 induction k generalizing n with
 | zero =>
  intro h
  have h0 : n = 0 := by simpa using h
  subst h0
  rw [lowB_zero]
  simp
 | succ k ih =>
  intro h
  rcases Nat.eq_zero_or_pos n with h0 | h0
  ·subst h0; rw [lowB_zero]; simp
  ·rw [lowB_pos h0, List.length_cons]
   have := ih (n := n / 256) (by rw [Nat.pow_succ] at h; exact Nat.div_lt_of_lt_mul (by omega))
   omega
theorem valB_snoc (b : List UInt8) (c : UInt8) : valB (b ++ [c]) = valB b * 256 + c.toNat := by simp [valB]
theorem valB_lowB (n : Nat) : valB (lowB n).reverse = n := by
 induction n using Nat.strongRecOn with
 | _ n ih =>
  rcases Nat.eq_zero_or_pos n with h0 | h0
  ·subst h0; rw [lowB_zero]; rfl
  ·rw [lowB_pos h0, List.reverse_cons, valB_snoc, ih (n / 256) (Nat.div_lt_self h0 (by omega)), UInt8.toNat_ofNat']
   omega
theorem lowB_ne {n : Nat} (h : 0 < n) : lowB n ≠ [] := by rw [lowB_pos h]; simp
/-- The highest byte is not 0. -/
theorem lowB_last {n : Nat} (h : 0 < n) : ((lowB n).getLast (lowB_ne h)).toNat ≠ 0 := by
 induction n using Nat.strongRecOn with
 | _ n ih =>
  rcases Nat.eq_zero_or_pos (n / 256) with h0 | h0
  ·have e : lowB n = [UInt8.ofNat n] := by rw [lowB_pos h, h0, lowB_zero]
   simp only [e, List.getLast_singleton, UInt8.toNat_ofNat']
   omega
  ·have e := lowB_pos h
   simp only [e]
   rw [List.getLast_cons (lowB_ne h0)]
   exact ih (n / 256) (Nat.div_lt_self h (by omega)) h0
theorem lowI_small {n : Nat} (h : n < 128) : lowI n = [UInt8.ofNat n] := by rw [lowI, dif_pos h]
theorem lowI_more {n : Nat} (h : 128 ≤ n) : lowI n = UInt8.ofNat n :: lowI (n / 256) := by rw [lowI, dif_neg (by omega)]
theorem lowI_ne (n : Nat) : lowI n ≠ [] := by
 rcases Nat.lt_or_ge n 128 with h | h
 ·rw [lowI_small h]; simp
 ·rw [lowI_more h]; simp
theorem valB_intB (n : Nat) : valB (intB n) = n := by
 unfold intB
 induction n using Nat.strongRecOn with
 | _ n ih =>
  rcases Nat.lt_or_ge n 128 with h | h
  ·rw [lowI_small h]; simp [valB]; omega
  ·rw [lowI_more h, List.reverse_cons, valB_snoc, ih (n / 256) (Nat.div_lt_self (by omega) (by omega)), UInt8.toNat_ofNat']
   omega
theorem lowI_len {n : Nat} : ∀ k, n < 128 * 256 ^ k → (lowI n).length ≤ k + 1 := by
 intro k
 induction k generalizing n with
 | zero => intro h; rw [lowI_small (by simpa using h)]; simp
 | succ k ih =>
  intro h
  rcases Nat.lt_or_ge n 128 with h0 | h0
  ·rw [lowI_small h0]; simp
  ·rw [lowI_more h0, List.length_cons]
   have := ih (n := n / 256) (by rw [Nat.pow_succ, ← Nat.mul_assoc] at h; exact Nat.div_lt_of_lt_mul (by omega))
   omega
/-- The highest byte is below 128. -/
theorem lowI_last (n : Nat) : ((lowI n).getLast (lowI_ne n)).toNat < 128 := by
 induction n using Nat.strongRecOn with
 | _ n ih =>
  rcases Nat.lt_or_ge n 128 with h | h
  ·simp only [lowI_small h, List.getLast_singleton, UInt8.toNat_ofNat']; omega
  ·simp only [lowI_more h]
   rw [List.getLast_cons (lowI_ne _)]
   exact ih (n / 256) (Nat.div_lt_self (by omega) (by omega))
/-- .. and the highest two aren't 0 and something below 128. -/
theorem intB_form (n : Nat) : ∀ a b r, intB n = a :: b :: r → a.toNat = 0 → 128 ≤ b.toNat := by
 unfold intB
 induction n using Nat.strongRecOn with
 | _ n ih =>
  intro a b r e h0
  rcases Nat.lt_or_ge n 128 with h | h
  ·rw [lowI_small h] at e; simp at e
  ·rw [lowI_more h, List.reverse_cons] at e
   rcases Nat.lt_or_ge (n / 256) 128 with h1 | h1
   ·rw [lowI_small h1] at e
    simp at e
    obtain ⟨e1, e2, _⟩ := e
    subst e1
    subst e2
    rw [UInt8.toNat_ofNat'] at h0 ⊢
    omega
   ·have hk : ∃ x y z, (lowI (n / 256)).reverse = x :: y :: z := by
     have h2 : 2 ≤ (lowI (n / 256)).reverse.length := by
      rw [lowI_more h1, List.length_reverse, List.length_cons]
      have := List.length_pos_iff.2 (lowI_ne (n / 256 / 256))
      omega
     match hh : (lowI (n / 256)).reverse, h2 with
     | x :: y :: z, _ => exact ⟨x, y, z, rfl⟩
    obtain ⟨x, y, z, hx⟩ := hk
    rw [hx] at e
    simp at e
    obtain ⟨e1, e2, _⟩ := e
    subst e1
    subst e2
    exact ih (n / 256) (Nat.div_lt_self (by omega) (by omega)) _ _ _ hx h0
theorem lenB_length {n : Nat} (h : n ≤ 65535) : (lenB n).length ≤ 3 := by
 unfold lenB
 split
 ·simp
 ·have := lowB_len (n := n) 2 (by omega)
  simp
  omega
theorem elemB_length (tag : Nat) (b : List UInt8) (h : b.length ≤ 65535) : (elemB tag b).length ≤ b.length + 4 := by
 unfold elemB
 have := lenB_length h
 simp
 omega
end Go.Proofs.YtfmagnpmjlppiaaGreatDoor
