/- ShaConstants: the list of constants. -/
import Derived.Test.YtbpmigcbfbdnjaaDoorRoot
import Derived.Test.YtbpmigcbfbdnjaaDoorLaw
namespace Go.Proofs.YtbpmigcbfbdnjaaDoor
open Go.RowKit Go.ChangeShapes Go.WideShapes Go.ChangeAt

def primeK (p d : Nat) : Bool := (List.range' 2 (d - 2)).all fun e => p % e != 0
def isP (p : Nat) : Bool := primeK p p
def constW (p : Nat) : UInt32 := UInt32.ofNat (rootF p)
def constL (p : Nat) : List UInt32 := ((List.range' 2 (p - 2)).filter isP).map constW
theorem range2 (p : Nat) (h : 2 ≤ p) : List.range' 2 (p + 1 - 2) = List.range' 2 (p - 2) ++ [p] := by
  rw [show p + 1 - 2 = (p - 2) + 1 by omega, List.range'_concat]
  congr 2
  omega
theorem primeK_succ (p d : Nat) (h : 2 ≤ d) : primeK p (d + 1) = (primeK p d && (p % d != 0)) := by
  unfold primeK
  rw [range2 d h, List.all_append]
  simp
theorem constL_succ (p : Nat) (h : 2 ≤ p) : constL (p + 1) = constL p ++ if isP p then [constW p] else [] := by
  unfold constL
  rw [range2 p h, List.filter_append, List.map_append]
  congr 1
  by_cases h : isP p <;> simp [h]
theorem constL_length (p : Nat) : (constL p).length = ((List.range' 2 (p - 2)).filter isP).length := by simp [constL]
theorem constL_mono (p : Nat) (h : 2 ≤ p) : ∀ k, (constL p).length ≤ (constL (p + k)).length
  | 0 => Nat.le_refl _
  | k + 1 => by
    have := constL_mono p h k
    rw [show p + (k + 1) = p + k + 1 by omega, constL_succ (p + k) (by omega), List.length_append]
    omega
theorem count_311 : ((List.range' 2 (311 - 2)).filter isP).length = 63 := by decide +kernel
theorem constL_small (p : Nat) (h : 2 ≤ p) (h2 : p < 312) : (constL p).length < 64 := by
  have := constL_mono p h (311 - p)
  rw [show p + (311 - p) = 311 by omega, constL_length 311, count_311] at this
  omega
theorem rootF_lt (p : Nat) : rootF p < 4294967296 := by unfold rootF; omega
theorem constW_nat (p : Nat) : (constW p).toNat = rootF p := by
  unfold constW
  rw [UInt32.toNat_ofNat']
  exact Nat.mod_eq_of_lt (rootF_lt p)
set_option maxRecDepth 100000 in
theorem constL_312 : constL 312 = ktab := by decide +kernel
end Go.Proofs.YtbpmigcbfbdnjaaDoor
