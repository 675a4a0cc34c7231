/- Layer 3 (tlv): Put. -/
import Derived.Test.YtfmagnpmjlppiaaGreatDoorTlvA
import Derived.Test.YtfmagnpmjlppiaaGreatDoorWalA
namespace Go.Proofs.YtfmagnpmjlppiaaGreatDoor
open Go.RowKit

theorem below_dd {B : Nat} {a w : World} (h : Below B a w) : Below B a w.drew := ⟨h.os, h.tape, h.output, h.size, h.block⟩
/-- Concat over an element's three parts. -/
theorem cat3 (tag : Nat) (A : Option Addr) (m c q : Nat) (body : List UInt8) (w : World) (V : Value) (hm : m ≤ 65535) (hmc : m ≤ c) (hc : c ≤ maxLen) (h1 : RB w (some ⟨q, 0, none⟩) 1 [UInt8.ofNat tag]) (h2 : SB w V (lenB m)) (h3 : RB w A m body) :
  Calls Tryz.prog 124 #[.slice (some ⟨w.heap.size, 0, none⟩) 3 3] (w.alloc (.cells #[.slice (some ⟨q, 0, none⟩) 1 1, V, .slice A m c] 24)) fun e w' => ∃ v, e = .returned v ∧ OB w' w.heap.size v (elemB tag body) ∧ Below w.heap.size w w' := by
 have D5 := ((Below.refl w.heap.size w).alloc Kj (.cells #[.slice (some ⟨q, 0, none⟩) 1 1, V, .slice A m c] 24))
 have k5 := Kz D5
 have hL : body.length = m := h3.1
 have hrbl : RBL (w.alloc (.cells #[.slice (some ⟨q, 0, none⟩) 1 1, V, .slice A m c] 24)) (some ⟨w.heap.size, 0, none⟩) 3 [[UInt8.ofNat tag], lenB body.length, body] := RBL.lits (vs := [.slice (some ⟨q, 0, none⟩) 1 1, V, .slice A m c]) (heap_alloc_new w _) rfl (fun k hk => by
  have : k = 0 ∨ k = 1 ∨ k = 2 := by omega
  rcases this with rfl | rfl | rfl
  ·exact ⟨_, rfl, SB.of_rb (h1.keep k5) (by decide) (by decide)⟩
  ·exact ⟨_, rfl, by show SB _ _ (lenB body.length); rw [hL]; exact h2.keep k5⟩
  ·exact ⟨_, rfl, SB.of_rb (h3.keep k5) hmc hc⟩)
 have hf : ([[UInt8.ofNat tag], lenB body.length, body] : List (List UInt8)).flatten = elemB tag body := by simp [elemB]
 refine (Concat_any _ 3 3 _ _ hrbl (by decide) (by rw [hf]; have := elemB_length tag body (by omega); omega)).mono ?_
 rw [hf]
 rintro e w6 ⟨v6, rfl, ho6, hb6⟩
 exact ⟨_, rfl, ho6.mono D5.size, D5.trans (hb6.mono D5.size)⟩

set_option maxHeartbeats 4000000 in
set_option maxRecDepth 100000 in
theorem Put_tlv (tag : Nat) (A : Option Addr) (m c : Nat) (body : List UInt8) (w : World) (ht : Tag (tag : Int)) (htl : tag < 256) (hb : RB w A m body) (hmc : m ≤ c) (hc : c ≤ maxLen) (hm : m ≤ 65530) :
  Calls Tryz.prog 76 #[.agg #[.int .i64 (tag : Int), .slice A m c]] w fun e w' => ∃ A' c', e = .returned (.tuple #[.slice A' (elemB tag body).length c', .nilIface]) ∧ OB w' w.heap.size (.slice A' (elemB tag body).length c') (elemB tag body) ∧ Below w.heap.size w w' := by
 obtain ⟨wb, hwb⟩ : ∃ W, W = w.alloc (.cells #[.int .i64 (tag : Int), .slice A m c] 141) := ⟨_, rfl⟩
 have hbb := (Below.refl w.heap.size w).alloc Kj (.cells #[.int .i64 (tag : Int), .slice A m c] 141)
 have hrow := heap_alloc_new w (.cells #[.int .i64 (tag : Int), .slice A m c] 141)
 rw [← hwb] at hbb hrow
 have BB := Hj hbb
 have HK : Hid (∀ W, Below wb.heap.size wb W → W.cell? ⟨w.heap.size, 0, none⟩ = some (.int .i64 (tag : Int)) ∧ W.cell? ⟨w.heap.size, 1, none⟩ = some (.slice A m c)) := Hj fun W hW => ⟨Kz hW _ _ (Kq 0 hrow), Kz hW _ _ (Kq 1 hrow)⟩
 have HKn := Hj (fun W => Known_any (tag : Int) W ht)
 have HLe := Hj (fun W => Length_any m W (by omega))
 have HB := Hj hb
 have HM := Hj (And.intro hmc (And.intro hc hm))
 have q1 : decide ((m : Int) > 65530) = false := decide_eq_false (by omega)
 have q1' : decide (65530 < (m : Int)) = false := decide_eq_false (by omega)
 have q1n : decide (65530 < m) = false := decide_eq_false (by omega)
 obtain ⟨y, hy⟩ : ∃ y, y = UInt8.ofNat tag := ⟨_, rfl⟩
 have hu := u8_mod tag
 rw [← hy] at hu
 have hu3 : IntKind.u8.wrap (tag : Int) = (y.toNat : Int) := by rw [← hu]; simp [IntKind.wrap, IntKind.signed, IntKind.bits]
 have hu2 : (y.toNat : Nat) = tag := by rw [hy, UInt8.toNat_ofNat']; omega
 have HY := Hj hy
 have HU2 := Hj hu2
 clear ht htl hb hmc hc hm hbb hrow hy hu2
 go_enter Tryz.func76, Tryz.ntmps76
 go_wp2_with (first
  | (go_at_call 123; go_loud (rw [← hwb]; (with_reducible refine (HKn.out wb).mono ?_); rintro e w1 ⟨rfl, hb1⟩; have B1 := Hj hb1; obtain ⟨x0, x1⟩ := HK.out w1 hb1; clear hb1))
  | fail)
 have HB1 : Hid (RB w1 A m body) := Hj (HB.out.keep (Kz (BB.out.trans (B1.out.mono BB.out.size))))
 have HRY : Hid (∀ W : World, RB (W.alloc (.cells #[.int .u8 (y.toNat : Int)] 5)) (some ⟨W.heap.size, 0, none⟩) 1 [y]) := Hj fun W => by
  have h := OB.lit W 0 (Nat.zero_le _) [y] 1 rfl (by simp [maxLen])
  obtain ⟨A, cap, e, _, _, hr⟩ := OB.form h
  injection e with e1 _ _
  subst e1
  exact hr
 have HCat : Hid (∀ (W : World) (q : Nat) (V : Value), RB W (some ⟨q, 0, none⟩) 1 [y] → SB W V (lenB m) → RB W A m body → Calls Tryz.prog 124 #[.slice (some ⟨W.heap.size, 0, none⟩) 3 3] (W.alloc (.cells #[.slice (some ⟨q, 0, none⟩) 1 1, V, .slice A m c] 24)) fun e w' => ∃ v, e = .returned v ∧ OB w' W.heap.size v (elemB tag body) ∧ Below W.heap.size W w') := Hj fun W q V h1 h2 h3 => cat3 tag A m c q body W V (by have := HM.out; omega) HM.out.1 HM.out.2.1 (by rw [← HY.out]; exact h1) h2 h3
 have BD : Hid (Below w1.heap.size w1 w1.drew) := Hj (below_dd (Below.refl _ _))
 have BA : Hid (Below w1.heap.size w1 (w1.alloc (.cells #[.int .u8 (y.toNat : Int)] 5)).drew) := Hj (below_dd ((Below.refl _ _).alloc Kj _))
 have HK1 : Hid (∀ W, Below w1.heap.size w1 W → W.cell? ⟨w.heap.size, 0, none⟩ = some (.int .i64 (tag : Int)) ∧ W.cell? ⟨w.heap.size, 1, none⟩ = some (.slice A m c)) := Hj fun W hW => HK.out W (B1.out.trans (hW.mono B1.out.size))
 go_region_held3 (fun w' => w'.cell? ⟨w.heap.size, 0, none⟩ = some (.int .i64 (tag : Int)) ∧ w'.cell? ⟨w.heap.size, 1, none⟩ = some (.slice A m c)) (first | exact ⟨by assumption, by assumption⟩ | (exact HK1.out _ BA.out) | go_keep)
  (first
   | (go_at_call 125; (with_reducible refine (HLe.out w1.drew).mono ?_); rintro e w2 ⟨A2, c2, rfl, ho2, hb2⟩; have B2 := Hj (BD.out.trans (hb2.mono BD.out.size)); obtain ⟨y0, y1⟩ := HK1.out w2 B2.out; have hca := HCat.out (w2.alloc (.cells #[.int .u8 (y.toNat : Int)] 5)) w2.heap.size _ (HRY.out w2) (OB.alloc ho2 (.cells #[.int .u8 (y.toNat : Int)] 5)).sb ((HB1.out.keep (Kz B2.out)).keep (Kz ((Below.refl _ w2).alloc Kj _))); rw [show (w2.alloc (.cells #[.int .u8 (y.toNat : Int)] 5)).heap.size = w2.heap.size + 1 by simp] at hca; have HCa := Hj hca; clear ho2 hb2 hca)
   | (go_at_call 125; (with_reducible refine (HLe.out (w1.alloc (.cells #[.int .u8 (y.toNat : Int)] 5)).drew).mono ?_); rintro e w2 ⟨A2, c2, rfl, ho2, hb2⟩; have B2 := Hj (BA.out.trans (hb2.mono BA.out.size)); obtain ⟨y0, y1⟩ := HK1.out w2 B2.out; have hca := HCat.out w2 w1.heap.size _ (((HRY.out w1).keep (Keeps.drew _)).keep (Kz hb2)) ho2.sb (HB1.out.keep (Kz B2.out)); have HCa := Hj hca; clear ho2 hb2 hca)
   | (go_at_call 124; go_loud ((with_reducible refine HCa.out.mono ?_); rintro e w3 ⟨v3, rfl, ho3, hb3⟩; obtain ⟨A3, c3, e3, -, -, -⟩ := ho3.form; subst e3; have O3 := Hj ho3; have B3 : Hid (Below w1.heap.size w1 w3) := Hj (by first | exact B2.out.trans (hb3.mono B2.out.size) | exact (B2.out.alloc B2.out.size _).trans (hb3.mono (Kv B2.out.size (by simp)))); obtain ⟨z0, z1⟩ := HK1.out w3 B3.out; clear ho3 hb3))
   | fail)
 all_goals
  go_wp2
  go_ret2
  refine ⟨A3, c3, rfl, OB.mono O3.out ?_, BB.out.trans ((B1.out.trans (B3.out.mono B1.out.size)).mono BB.out.size)⟩
  have h1 := BB.out.size
  have h2 := B1.out.size
  have h3 := B2.out.size
  simp
  omega
end Go.Proofs.YtfmagnpmjlppiaaGreatDoor
