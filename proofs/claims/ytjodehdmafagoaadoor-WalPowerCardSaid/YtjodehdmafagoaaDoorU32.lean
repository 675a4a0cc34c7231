/- uint32 arithmetic as the walks meet it, on 32-bit words of Lean's own. -/
import Derived.Test.YtjodehdmafagoaaDoorBytes
namespace Go.Proofs.YtjodehdmafagoaaDoor
open Go.RowKit

/-- A word as a value. -/
abbrev u32v (x : UInt32) : Value := .int .u32 (x.toNat : Int)

theorem u32_add_wrap (x y : UInt32) : IntKind.u32.wrap ((x.toNat : Int) + (y.toNat : Int)) = ((x + y).toNat : Int) := by
  rw [IntKind.wrap_u32, UInt32.toNat_add]
  omega
theorem b32_xor (x y : UInt32) : bits .xor .u32 (x.toNat : Int) (y.toNat : Int) = ((x ^^^ y).toNat : Int) := by
  rw [u32_xor_nat _ _ x.toNat_lt y.toNat_lt, UInt32.toNat_xor]
theorem b32_and (x y : UInt32) : bits .and .u32 (x.toNat : Int) (y.toNat : Int) = ((x &&& y).toNat : Int) := by
  rw [u32_and_nat _ _ x.toNat_lt y.toNat_lt, UInt32.toNat_and]
theorem b32_or (x y : UInt32) : bits .or .u32 (x.toNat : Int) (y.toNat : Int) = ((x ||| y).toNat : Int) := by
  rw [u32_or_nat _ _ x.toNat_lt y.toNat_lt, UInt32.toNat_or]

theorem shl32 (x : UInt32) (m : Nat) (h : m < 32) : (x.toNat : Int) * 2 ^ m % 4294967296 = ((x <<< UInt32.ofNat m).toNat : Int) := by
  rw [UInt32.toNat_shiftLeft, UInt32.toNat_ofNat', Nat.mod_eq_of_lt (show m < 2 ^ 32 by omega), Nat.mod_eq_of_lt h, Nat.shiftLeft_eq, Int.natCast_emod, Int.natCast_mul, Int.natCast_pow]
  rfl
theorem shr32 (x : UInt32) (m : Nat) (h : m < 32) : (x.toNat : Int) / 2 ^ m = ((x >>> UInt32.ofNat m).toNat : Int) := by
  rw [UInt32.toNat_shiftRight, UInt32.toNat_ofNat', Nat.mod_eq_of_lt (show m < 2 ^ 32 by omega), Nat.mod_eq_of_lt h, Nat.shiftRight_eq_div_pow, Int.natCast_ediv, Int.natCast_pow]
  rfl


def rotr (x : UInt32) (n : Nat) : UInt32 := x >>> UInt32.ofNat n ||| x <<< UInt32.ofNat (32 - n)

theorem neg_and31 (n : Nat) (h0 : 0 < n) (h : n < 32) : bits .and .u64 (IntKind.u64.wrap (-(n : Int))) 31 = ((32 - n : Nat) : Int) := by
  have : ∀ n ∈ List.range 32, 0 < n → bits .and .u64 (IntKind.u64.wrap (-(n : Int))) 31 = ((32 - n : Nat) : Int) := by decide +kernel
  exact this n (by simpa using h) h0

theorem rot_any (x : UInt32) (n : Nat) (w : World) (h0 : 0 < n) (h : n < 32) :
    Calls Tryd.prog 89 #[.int .u32 (x.toNat : Int), .int .i64 (-(n : Int))] w fun e w' => e = .returned (.int .u32 ((rotr x n).toNat : Int)) ∧ w = w' := by
  have hn := neg_and31 n h0 h
  have h2 : (32 : Int) - ((32 - n : Nat) : Int) = (n : Int) := by omega
  have e1 := shl32 x (32 - n) (by omega)
  have e2 := shr32 x n (by omega)
  have E := Lib.hid (show (rotr x n) = x <<< UInt32.ofNat (32 - n) ||| x >>> UInt32.ofNat n by unfold rotr; rw [UInt32.or_comm])
  generalize 32 - n = m at *
  have E1 := Lib.hid e1
  have E2 := Lib.hid e2
  clear e1 e2
  go_enter Tryd.func89, Tryd.ntmps89
  go_wp2
  go_ret
  refine ⟨ret_int ?_, rfl⟩
  rw [E.out, ← b32_or, ← E1.out, ← E2.out]

theorem right_any (x : UInt32) (n : Nat) (w : World) (h0 : 0 < n) (h : n < 32) :
    Calls Tryd.prog 88 #[.int .u32 (x.toNat : Int), .int .i64 (n : Int)] w fun e w' => e = .returned (.int .u32 ((rotr x n).toNat : Int)) ∧ w = w' := by
  go_enter Tryd.func88, Tryd.ntmps88
  go_wp2_with (go_at_call 89; refine (rot_any x n _ h0 h).mono ?_; rintro e w' ⟨rfl, rfl⟩)
  go_ret
  exact ⟨rfl, rfl⟩
end Go.Proofs.YtjodehdmafagoaaDoor
