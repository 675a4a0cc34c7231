/- Layer 4 (whole): numbers read. -/
import Derived.Test.YtfmagnpmjlppiaaGreatDoorTlvC
import Derived.Test.YtfmagnpmjlppiaaGreatDoorTabs
namespace Go.Proofs.YtfmagnpmjlppiaaGreatDoor
open Go.RowKit

theorem or_byte (v : Nat) (y : UInt8) (hv : v < 36028797018963968) : bits .or .i64 ((v : Int) * 256) (y.toNat : Int) = ((v * 256 + y.toNat : Nat) : Int) := by
 have hy := y.toNat_lt
 have e : (v : Int) * 256 = ((v * 256 : Nat) : Int) := by omega
 have o : v * 256 ||| y.toNat = v * 256 + y.toNat := by
  have := Nat.two_pow_add_eq_or_of_lt (i := 8) (b := y.toNat) (by omega) v
  rw [Nat.mul_comm] at this
  exact this.symm
 rw [e, i64_or_nat _ _ (by omega) (by omega), o]
theorem valB_one (l : List UInt8) (h : 0 < l.length) : valB (l.take 1) = (l.getD 0 0).toNat := by
 have := valB_cons_take (l := l) (i := 0) h
 rw [this]
 simp [valB]

theorem valB_app (a : List UInt8) : ∀ b : List UInt8, valB a ≤ valB (a ++ b) := by
 intro b
 have h : ∀ k, ∀ b : List UInt8, b.length = k → valB a ≤ valB (a ++ b) := by
  intro k
  induction k with
  | zero => intro b hb; rw [List.eq_nil_of_length_eq_zero hb]; simp
  | succ k ih =>
   intro b hb
   obtain ⟨b', c, rfl⟩ : ∃ b' c, b = b' ++ [c] := ⟨b.dropLast, b.getLast (by intro e; rw [e] at hb; simp at hb), (List.dropLast_concat_getLast _).symm⟩
   rw [← List.append_assoc, valB_snoc]
   have := ih b' (by simpa using hb)
   omega
 exact h _ b rfl
theorem run_tailS {w : World} {b o n c E : Nat} {l : List UInt8} (hb : RB w (some ⟨b, o, none⟩) n l) (hnc : n ≤ c) (hE : E ≤ n) :
  ∃ b1 o1, (∀ W, (Instr.slice 24 (.slice (some ⟨b, o, none⟩) n c) (some (.int .i64 (E : Int))) none none).run Tryz.prog W = .ok (.slice (some ⟨b1, o1, none⟩) (n - E) (c - E)) W) ∧ RB w (some ⟨b1, o1, none⟩) (n - E) (l.drop E) := by
 obtain ⟨AE, h1, h2⟩ := run_tail hb hnc hE
 have h3 : ∃ b1 o1, AE = some ⟨b1, o1, none⟩ := by
  have ht' : Tryz.prog.underlying 24 = some (.slice (Tryz.prog.elem 24)) := by simp [Program.elem, Tryz.underlying24]
  have he : Tryz.prog.elem 24 = 5 := by simp [Program.elem, Tryz.underlying24]
  have hz : ∀ w, (Go.sizeOf 5).run Tryz.prog w = .ok 1 w := fun w => by
   obtain ⟨i0, hi, hz0, hz1, hz2⟩ := info_parts info_u8
   simp [sizeOf, typeInfo, hi, hz1]
  have h := h1 w
  rw [run_slice_l w 24 _ _ _ ht' .i64 _ (by omega) (by omega), he, hz] at h
  simp [Result.andThen, sliced] at h
  by_cases hc : c = E
  ·rw [if_pos hc] at h; exact ⟨_, _, h.symm⟩
  ·rw [if_neg hc, addr_add] at h; exact ⟨_, _, h.symm⟩
 obtain ⟨b1, o1, rfl⟩ := h3
 exact ⟨b1, o1, h1, h2⟩
theorem valB_take_le (l : List UInt8) (k : Nat) : valB (l.take k) ≤ valB l := by
 have := valB_app (l.take k) (l.drop k)
 rwa [List.take_append_drop] at this

set_option maxHeartbeats 2000000 in
set_option maxRecDepth 100000 in
theorem Get_num (A : Option Addr) (m c n : Nat) (l : List UInt8) (w : World) (hb : RB w A m l) (hmc : m ≤ c) (_hc : c ≤ maxLen) (hv : valB l = n) (hn : n < 4611686018427387904) (h1 : 1 ≤ l.length) (h8 : l.length ≤ 8) (ht : (l.getD 0 0).toNat < 128) (hf : 1 < l.length → (l.getD 0 0).toNat = 0 → 128 ≤ (l.getD 1 0).toNat) :
  Calls Tryz.prog 122 #[.slice A m c] w fun e w' => e = .returned (.tuple #[.int .i64 (n : Int), .nilIface]) ∧ w = w' := by
 have hm := hb.1
 obtain ⟨b, o, eA, hcell⟩ := hb.2 (by omega)
 have c0 := hcell 0 (by omega)
 rw [Nat.add_zero] at c0
 subst eA
 obtain ⟨b1, o1, hsl, hr1⟩ := run_tailS (E := 1) hb hmc (by omega)
 have hsl1 : ∀ W, (Instr.slice 24 (.slice (some ⟨b, o, none⟩) m c) (some (.int .i64 1)) none none).run Tryz.prog W = .ok (.slice (some ⟨b1, o1, none⟩) (m - 1) (c - 1)) W := hsl
 have h1v := valB_one l (by omega)
 have HCl : Hid (∀ i, i + 1 < m → w.cell? ⟨b1, o1 + i, none⟩ = some (.int .u8 ((l.getD (i + 1) 0).toNat : Int))) := Hj fun i hi => by
  obtain ⟨b2, o2, e1, hc1⟩ := hr1.2 (by omega)
  injection e1 with e1
  injection e1 with e1 e2
  subst e1; subst e2
  rw [hc1 i (by omega)]
  simp [List.getD_eq_getElem?_getD]
 obtain ⟨X, hX⟩ : ∃ X : Int, X = ((l.getD 0 0).toNat : Int) := ⟨_, rfl⟩
 have hXv : X = (valB (l.take 1) : Int) := by rw [h1v]; exact hX
 have HXV := Hj hXv
 rw [← hX] at c0
 have x0 : 0 ≤ X := by omega
 have x1 : X < 128 := by omega
 have w1 : IntKind.i8.wrap X = X := by unfold IntKind.wrap; simp [IntKind.signed, IntKind.bits]; omega
 have w2 : IntKind.i64.wrap X = X := IntWalk.i64_in _ (by omega)
 have w3 : wrap64 X = X := by unfold wrap64; omega
 have q0 : ((m : Int) == 0) = false := beq_eq_false_iff_ne.2 (by omega)
 have q255 : (X == 255) = false := beq_eq_false_iff_ne.2 (by omega)
 have q8 : decide ((m : Int) > 8) = false := decide_eq_false (by omega)
 have q8' : decide (8 < (m : Int)) = false := decide_eq_false (by omega)
 have q8n : decide (8 < m) = false := decide_eq_false (by omega)
 have m0 : (0 : Int) < (m : Int) := by omega
 have HM := Hj (And.intro hm (And.intro h1 h8))
 have HV := Hj (And.intro hv hn)
 obtain ⟨M1, hM1⟩ : ∃ M1, M1 = m - 1 := ⟨_, rfl⟩
 have HM1 : Hid (M1 + 1 = m ∧ M1 ≤ 7) := Hj (by omega)
 rw [← hM1] at hsl1
 have hM7 : (M1 : Int) ≤ 7 := by omega
 have hcs : (decide ((m : Int) > 1) = false ∧ decide (1 < (m : Int)) = false ∧ decide (1 < m) = false) ∨ (decide ((m : Int) > 1) = true ∧ decide (1 < (m : Int)) = true ∧ decide (1 < m) = true ∧ (X == 0) = false) ∨
   (decide ((m : Int) > 1) = true ∧ decide (1 < (m : Int)) = true ∧ decide (1 < m) = true ∧ (X == 0) = true ∧ ∃ Y : Int, w.cell? ⟨b, o + 1, none⟩ = some (.int .u8 Y) ∧ decide (Y < 128) = false ∧ (1 : Int) < (m : Int)) := by
  by_cases hm1 : 1 < m
  ·by_cases hx : X = 0
   ·refine .inr (.inr ⟨decide_eq_true (by omega), decide_eq_true (by omega), decide_eq_true hm1, by rw [hx]; rfl, _, hcell 1 hm1, decide_eq_false ?_, by omega⟩)
    have := hf (by omega) (by omega)
    omega
   ·exact .inr (.inl ⟨decide_eq_true (by omega), decide_eq_true (by omega), decide_eq_true hm1, beq_eq_false_iff_ne.2 hx⟩)
  ·exact .inl ⟨decide_eq_false (by omega), decide_eq_false (by omega), decide_eq_false hm1⟩
 clear hb hmc _hc hm hcell hr1 hsl hX hXv h1v hv hn h1 h8 ht hf hM1
 rcases hcs with ⟨y1, y2, y3⟩ | ⟨y1, y2, y3, y4⟩ | ⟨y1, y2, y3, y4, Y, y5, y6, y7⟩
 all_goals
  go_enter Tryz.func122, Tryz.ntmps122
  go_wp2
  go_loopg [4, 54] M1 (fun gk s4 s54 wr => ∃ i : Nat, i + gk = M1 ∧ s54 = .int .i64 (i : Int) ∧ s4 = .int .i64 (valB (l.take (i + 1)) : Int) ∧ wr = w)
  case atStart => exact ⟨0, by omega, rfl, by rw [HXV.out], rfl⟩
  case round =>
   obtain ⟨i, hi, rfl, rfl, rfl⟩ := hrel
   have HI := Hj hi
   by_cases hlt : i < M1
   ·have ci := HCl.out i (by have := HM1.out; omega)
    have hvs := valB_cons_take (l := l) (i := i + 1) (by have := HM.out; have := HM1.out; omega)
    have hv2 : valB (l.take (i + 1 + 1)) < 4611686018427387904 := Nat.lt_of_le_of_lt (valB_take_le l _) (by rw [HV.out.1]; exact HV.out.2)
    obtain ⟨v, hv⟩ : ∃ v, v = valB (l.take (i + 1)) := ⟨_, rfl⟩
    obtain ⟨y, hy⟩ : ∃ y, y = l.getD (i + 1) 0 := ⟨_, rfl⟩
    rw [← hv, ← hy] at hvs
    rw [← hv]
    rw [← hy] at ci
    have HVS := Hj hvs
    have hor := or_byte v y (by omega)
    have z1 : IntKind.i64.wrap ((v : Int) * 256) = (v : Int) * 256 := IntWalk.i64_in _ (by omega)
    have z2 : wrap64 ((v : Int) * 256) = (v : Int) * 256 := by unfold wrap64; omega
    have y0 : (0 : Int) ≤ (y.toNat : Int) ∧ (y.toNat : Int) < 256 := by have := y.toNat_lt; omega
    obtain ⟨y0, y1⟩ := y0
    have i0 : (0 : Int) ≤ (i : Int) := by omega
    have i1 : (i : Int) < (M1 : Int) := by omega
    clear hv hy hvs hv2 hi hlt
    go_wp2
    go_roundg (gk - 1)
    case measure => have := HI.out; omega
    case rel => exact ⟨i + 1, by have := HI.out; omega, by go_num, (by rw [HVS.out, Int.natCast_add, Int.natCast_mul]; rfl), rfl⟩
   ·have hik : M1 = i := by omega
    have hvn : valB (l.take (i + 1)) = n := by
     have e : l.take (i + 1) = l := List.take_of_length_le (by have := HM.out; have := HM1.out; omega)
     rw [e]
     exact HV.out.1
    rw [hvn]
    subst hik
    clear hvn hi hlt
    go_wp2
    go_ret2
    exact ⟨rfl, rfl⟩
theorem intB_pos (n : Nat) : 1 ≤ (intB n).length := by
 unfold intB
 rw [List.length_reverse]
 exact List.length_pos_iff.2 (lowI_ne n)
theorem intB_top (n : Nat) : ((intB n).getD 0 0).toNat < 128 := by
 have e : (intB n).getD 0 0 = (lowI n).getLast (lowI_ne n) := by
  unfold intB
  rw [List.getD_eq_getElem?_getD, List.getElem?_reverse (by exact List.length_pos_iff.2 (lowI_ne n)), Nat.sub_zero, ← List.getLast?_eq_getElem?, List.getLast?_eq_some_getLast (lowI_ne n)]
  rfl
 rw [e]
 exact lowI_last n
theorem intB_two (n : Nat) (h : 1 < (intB n).length) (h0 : ((intB n).getD 0 0).toNat = 0) : 128 ≤ ((intB n).getD 1 0).toNat := by
 match e : intB n, h with
 | a :: b :: r, _ =>
  rw [e] at h0
  exact intB_form n a b r e h0
theorem Get_any (A : Option Addr) (m c n : Nat) (w : World) (hb : RB w A m (intB n)) (hmc : m ≤ c) (hc : c ≤ maxLen) (hn : n < 4611686018427387904) :
  Calls Tryz.prog 122 #[.slice A m c] w fun e w' => e = .returned (.tuple #[.int .i64 (n : Int), .nilIface]) ∧ w = w' :=
 Get_num A m c n (intB n) w hb hmc hc (valB_intB n) hn (intB_pos n) (by unfold intB; rw [List.length_reverse]; exact lowI_len 7 (by omega)) (intB_top n) (intB_two n)

set_option maxHeartbeats 1000000 in
theorem Range_any (A : Option Addr) (m c n : Nat) (lo hi : Int) (w : World) (hb : RB w A m (intB n)) (hmc : m ≤ c) (hc : c ≤ maxLen) (hn : n < 4611686018427387904) (h1 : lo ≤ (n : Int)) (h2 : (n : Int) ≤ hi) :
  Calls Tryz.prog 75 #[.slice A m c, .int .i64 lo, .int .i64 hi] w fun e w' => e = .returned (.tuple #[.int .i64 (n : Int), .nilIface]) ∧ w = w' := by
 have HG := Hj (Get_any A m c n w hb hmc hc hn)
 have q1 : decide ((n : Int) < lo) = false := decide_eq_false (by omega)
 have q2 : decide ((n : Int) > hi) = false := decide_eq_false (by omega)
 have q2' : decide (hi < (n : Int)) = false := decide_eq_false (by omega)
 clear hb hmc hc hn h1 h2
 go_enter Tryz.func75, Tryz.ntmps75
 go_wp2_with (first
  | (go_at_call 122; go_loud ((with_reducible refine HG.out.mono ?_); rintro e w1 ⟨rfl, rfl⟩))
  | fail)
 go_ret2
 exact ⟨rfl, rfl⟩
end Go.Proofs.YtfmagnpmjlppiaaGreatDoor
