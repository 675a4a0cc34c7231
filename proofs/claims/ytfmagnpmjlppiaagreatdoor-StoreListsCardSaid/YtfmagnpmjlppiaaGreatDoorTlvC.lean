/- Layer 3 (tlv): lengths read. -/
import Derived.Test.YtfmagnpmjlppiaaGreatDoorDerP
import Derived.Test.YtfmagnpmjlppiaaGreatDoorTlvB
import Derived.Test.YtfmagnpmjlppiaaGreatDoorWalQ
import Derived.Test.YtfmagnpmjlppiaaGreatDoorTabSO
namespace Go.Proofs.YtfmagnpmjlppiaaGreatDoor
open Go.RowKit

theorem valB_cons_take {l : List UInt8} {i : Nat} (h : i < l.length) : valB (l.take (i + 1)) = valB (l.take i) * 256 + (l.getD i 0).toNat := by
 have e : l.take (i + 1) = l.take i ++ [l.getD i 0] := by
  rw [List.take_add_one, List.getD_eq_getElem?_getD, List.getElem?_eq_getElem h]
  rfl
 rw [e, valB_snoc]
theorem valB_lt (l : List UInt8) : ∀ i, i ≤ l.length → valB (l.take i) < 256 ^ i := by
 intro i
 induction i with
 | zero => intro _; simp [valB]
 | succ i ih =>
  intro h
  rw [valB_cons_take (by omega), Nat.pow_succ]
  have := ih (by omega)
  have := (l.getD i 0).toNat_lt
  omega
theorem lenB_short {n : Nat} (h : n ≤ 127) : lenB n = [UInt8.ofNat n] := if_pos h
theorem lenB_long {n : Nat} (h : 127 < n) : lenB n = UInt8.ofNat (128 + (lowB n).length) :: (lowB n).reverse := by
 unfold lenB
 rw [if_neg (by omega), List.reverse_append]
 rfl

set_option maxHeartbeats 1000000 in
theorem measure_short (A : Option Addr) (m c n : Nat) (rest : List UInt8) (w : World) (hb : RB w A m (UInt8.ofNat n :: rest)) (hmc : m ≤ c) (hc : c ≤ maxLen) (hn : n ≤ 127) :
  Calls Tryz.prog 178 #[.slice A m c] w fun e w' => ∃ A' c', e = .returned (.tuple #[.int .i64 (n : Int), .slice A' rest.length c', .nilIface]) ∧ RB w A' rest.length rest ∧ rest.length ≤ c' ∧ c' ≤ maxLen ∧ ∃ k, w' = w.drewN k := by
 have hm : m = rest.length + 1 := by have := hb.1; simp at this; omega
 obtain ⟨b, o, eA, hcell⟩ := hb.2 (by omega)
 have h0 := hcell 0 (by omega)
 obtain ⟨x, hx⟩ : ∃ x, x = UInt8.ofNat n := ⟨_, rfl⟩
 have hxn : x.toNat = n := by rw [hx, UInt8.toNat_ofNat']; omega
 rw [← hx] at h0 hb
 simp only [List.getD_cons_zero, Nat.add_zero, hxn] at h0
 obtain ⟨A1, hsl, hr1⟩ := run_tail (E := 1) hb hmc (by omega)
 rw [show m - 1 = rest.length by omega] at hsl hr1
 have HR : Hid (RB w A1 rest.length rest) := Hj (by simpa using hr1)
 have HC : Hid (rest.length ≤ c - 1 ∧ c - 1 ≤ maxLen) := Hj (by omega)
 have q0 : ((m : Int) == 0) = false := beq_eq_false_iff_ne.2 (by omega)
 have q1 : decide ((n : Int) ≤ 127) = true := decide_eq_true (by omega)
 have q1n : decide (n ≤ 127) = true := decide_eq_true (by omega)
 have hw : IntKind.i64.wrap (n : Int) = (n : Int) := IntWalk.i64_in _ (by omega)
 have m0 : (0 : Int) < (m : Int) := by omega
 have hsl1 : ∀ W, (Instr.slice 24 (.slice A m c) (some (.int .i64 1)) none none).run Tryz.prog W = .ok (.slice A1 rest.length (c - 1)) W := hsl
 subst eA
 clear hb hmc hc hm hcell hr1 hsl hx hxn
 go_enter Tryz.func178, Tryz.ntmps178
 go_wp2
 go_region
 go_wp2
 go_ret3
 exact ⟨A1, c - 1, rfl, HR.out, HC.out.1, HC.out.2, 1, rfl⟩

theorem lowB_wide {n : Nat} (h : 127 < n) (hn : n ≤ 65535) : 1 ≤ (lowB n).length ∧ (lowB n).length ≤ 2 :=
 ⟨List.length_pos_iff.2 (lowB_ne (by omega)), lowB_len 2 (by omega)⟩
/-- The first of the bytes is not 0. -/
theorem lowB_first {n : Nat} (h : 0 < n) : ((lowB n).reverse.getD 0 0).toNat ≠ 0 := by
 have e : (lowB n).reverse.getD 0 0 = (lowB n).getLast (lowB_ne h) := by
  rw [List.getD_eq_getElem?_getD, List.getElem?_reverse (by exact List.length_pos_iff.2 (lowB_ne h)), Nat.sub_zero, ← List.getLast?_eq_getElem?, List.getLast?_eq_some_getLast (lowB_ne h)]
  rfl
 rw [e]
 exact lowB_last h

set_option maxHeartbeats 2000000 in
theorem measure_long (A : Option Addr) (m c n : Nat) (rest l : List UInt8) (w : World) (hb : RB w A m (UInt8.ofNat (128 + l.length) :: (l ++ rest))) (hmc : m ≤ c) (hc : c ≤ maxLen) (hn : 127 < n) (hl1 : 1 ≤ l.length) (hl2 : l.length ≤ 2) (hv : valB l = n) (hz : (l.getD 0 0).toNat ≠ 0) :
  Calls Tryz.prog 178 #[.slice A m c] w fun e w' => ∃ A' c', e = .returned (.tuple #[.int .i64 (n : Int), .slice A' rest.length c', .nilIface]) ∧ RB w A' rest.length rest ∧ rest.length ≤ c' ∧ c' ≤ maxLen ∧ ∃ k, w' = w.drewN k := by
 have hm : m = l.length + rest.length + 1 := by have := hb.1; simp at this; omega
 obtain ⟨b, o, eA, hcell⟩ := hb.2 (by omega)
 have h0 := hcell 0 (by omega)
 obtain ⟨x, hx⟩ : ∃ x, x = UInt8.ofNat (128 + l.length) := ⟨_, rfl⟩
 have hxn : x.toNat = 128 + l.length := by rw [hx, UInt8.toNat_ofNat']; omega
 rw [← hx] at h0 hb
 simp only [List.getD_cons_zero, Nat.add_zero] at h0
 obtain ⟨A1, hsl, hr1⟩ := run_tail (E := 1) hb hmc (by omega)
 have hr1' : RB w A1 (l.length + rest.length) (l ++ rest) := by
  rw [show m - 1 = l.length + rest.length by omega] at hr1
  simpa using hr1
 rw [show m - 1 = l.length + rest.length by omega] at hsl
 obtain ⟨A2, hsl2, hr2⟩ := run_tail (E := l.length) hr1' (c := c - 1) (by omega) (by omega)
 rw [show l.length + rest.length - l.length = rest.length by omega] at hsl2 hr2
 have hr2' : RB w A2 rest.length rest := by simpa using hr2
 obtain ⟨b1, o1, eA1, hcell1⟩ := hr1'.2 (by omega)
 have HCl : Hid (∀ i, i < l.length → w.cell? ⟨b1, o1 + i, none⟩ = some (.int .u8 ((l.getD i 0).toNat : Int))) := Hj fun i hi => by
  rw [hcell1 i (by omega), List.getD_eq_getElem?_getD, List.getElem?_append_left (by omega), ← List.getD_eq_getElem?_getD]
 subst eA1
 have HR : Hid (RB w A2 rest.length rest) := Hj hr2'
 have HC : Hid (rest.length ≤ c - 1 - l.length ∧ c - 1 - l.length ≤ maxLen) := Hj (by omega)
 have q0 : ((m : Int) == 0) = false := beq_eq_false_iff_ne.2 (by omega)
 obtain ⟨k, hk⟩ : ∃ k, k = l.length := ⟨_, rfl⟩
 obtain ⟨X, hX⟩ : ∃ X : Int, X = (x.toNat : Int) := ⟨_, rfl⟩
 have hXk : X = (k : Int) + 128 := by omega
 rw [← hX] at h0
 rw [← hk] at hsl hsl2
 have q1 : decide (X ≤ 127) = false := decide_eq_false (by omega)
 have hw : IntKind.i64.wrap X = X := IntWalk.i64_in _ (by omega)
 have hw' : wrap64 X = X := by unfold wrap64; omega
 have hw2 : IntKind.i64.wrap (X - 128) = (k : Int) := by rw [IntWalk.i64_in _ (by omega)]; omega
 have hw2' : wrap64 (X - 128) = (k : Int) := by unfold wrap64; omega
 have q2 : ((k : Int) == 0) = false := beq_eq_false_iff_ne.2 (by omega)
 have q3 : decide ((k : Int) > 4) = false := decide_eq_false (by omega)
 have q3n : decide (4 < k) = false := decide_eq_false (by omega)
 have q4 : decide (((k + rest.length : Nat) : Int) < (k : Int)) = false := decide_eq_false (by omega)
 have q4n : decide (k + rest.length < k) = false := decide_eq_false (by omega)
 have m0 : (0 : Int) < (m : Int) := by omega
 have m1 : (k : Int) ≤ ((c - 1 : Nat) : Int) ∧ (0 : Int) ≤ (k : Int) := by omega
 have mk : (0 : Int) < (k : Int) + (rest.length : Int) := by omega
 have q5 : decide ((n : Int) ≤ 127) = false := decide_eq_false (by omega)
 have q5n : decide (n ≤ 127) = false := decide_eq_false (by omega)
 have c0 := HCl.out 0 (by omega)
 rw [Nat.add_zero] at c0
 obtain ⟨z, hzz⟩ : ∃ z, z = l.getD 0 0 := ⟨_, rfl⟩
 rw [← hzz] at hz c0
 have q6 : ((z.toNat : Int) == 0) = false := beq_eq_false_iff_ne.2 (by omega)
 have hsl1 : ∀ W, (Instr.slice 24 (.slice A m c) (some (.int .i64 1)) none none).run Tryz.prog W = .ok (.slice (some ⟨b1, o1, none⟩) (k + rest.length) (c - 1)) W := hsl
 have HK := Hj hk
 have HL := Hj (And.intro hl1 hl2)
 have HV := Hj hv
 obtain ⟨m1, m2⟩ := m1
 subst eA
 clear hX hXk hb hmc hc hm hcell hr1 hsl hx hxn hr1' hr2 hr2' hcell1 hl1 hl2 hv hk hzz hz hn
 go_enter Tryz.func178, Tryz.ntmps178
 go_wp2
 go_region
 go_wp2
 go_loopg [7, 44] k (fun gk s7 s44 wr => ∃ i : Nat, i + gk = k ∧ s44 = .int .i64 (i : Int) ∧ s7 = .int .i64 (valB (l.take i) : Int) ∧ wr = w.drew)
 case atStart => exact ⟨0, by omega, rfl, rfl, rfl⟩
 case round =>
  obtain ⟨i, hi, rfl, rfl, rfl⟩ := hrel
  have HI := Hj hi
  by_cases hlt : i < k
  ·have ci := HCl.out i (by have := HK.out; omega)
   have hvs := valB_cons_take (l := l) (i := i) (by have := HK.out; omega)
   have hvl := valB_lt l i (by have := HK.out; omega)
   have hv2 : valB (l.take i) < 65536 := Nat.lt_of_lt_of_le hvl (Kv (Nat.pow_le_pow_right (by omega) (show i ≤ 2 by have := HK.out; have := HL.out; omega)) (by decide))
   obtain ⟨v, hv⟩ : ∃ v, v = valB (l.take i) := ⟨_, rfl⟩
   obtain ⟨y, hy⟩ : ∃ y, y = l.getD i 0 := ⟨_, rfl⟩
   rw [← hv, ← hy] at hvs
   rw [← hv] at hv2 ⊢
   rw [← hy] at ci
   have HVS := Hj hvs
   have v0 : (0 : Int) ≤ (v : Int) ∧ (v : Int) < 65536 := by omega
   have y0 : (0 : Int) ≤ (y.toNat : Int) ∧ (y.toNat : Int) < 256 := by have := y.toNat_lt; omega
   obtain ⟨v0, v1⟩ := v0
   obtain ⟨y0, y1⟩ := y0
   have i0 : (0 : Int) ≤ (i : Int) := by omega
   have i1 : (i : Int) < (k : Int) := by omega
   have i2 : (k : Int) ≤ 2 := by have := HK.out; have := HL.out; omega
   clear hv hy hvs hv2 hvl hi hlt
   go_wp2
   go_roundg (gk - 1)
   case measure => have := HI.out; omega
   case rel => exact ⟨i + 1, by have := HI.out; omega, by go_num, (by rw [HVS.out]; go_num), rfl⟩
  ·have hik : k = i := by omega
   have hvn : valB (l.take i) = n := by
    have e : l.take i = l := List.take_of_length_le (by have := HK.out; omega)
    rw [e]
    exact HV.out
   rw [hvn]
   subst hik
   clear hvn hi hlt
   go_wp2
   go_region
   go_wp2
   go_ret3
   exact ⟨A2, c - 1 - k, rfl, HR.out, by rw [HK.out]; exact HC.out.1, by rw [HK.out]; exact HC.out.2, 2, rfl⟩
end Go.Proofs.YtfmagnpmjlppiaaGreatDoor

/- Layer 3 (tlv): the first element of bytes. -/
namespace Go.Proofs.YtfmagnpmjlppiaaGreatDoor
open Go.RowKit

theorem measure_any (A : Option Addr) (m c n : Nat) (rest : List UInt8) (w : World) (hb : RB w A m (lenB n ++ rest)) (hmc : m ≤ c) (hc : c ≤ maxLen) (hn : n ≤ 65535) :
  Calls Tryz.prog 178 #[.slice A m c] w fun e w' => ∃ A' c', e = .returned (.tuple #[.int .i64 (n : Int), .slice A' rest.length c', .nilIface]) ∧ RB w A' rest.length rest ∧ rest.length ≤ c' ∧ c' ≤ maxLen ∧ ∃ k, w' = w.drewN k := by
 by_cases h : n ≤ 127
 ·rw [lenB_short h] at hb
  exact measure_short A m c n rest w hb hmc hc h
 ·rw [lenB_long (by omega)] at hb
  have h2 := lowB_wide (n := n) (by omega) hn
  refine measure_long A m c n rest (lowB n).reverse w (by rw [List.length_reverse]; exact hb) hmc hc (by omega) (by rw [List.length_reverse]; exact h2.1) (by rw [List.length_reverse]; exact h2.2) (valB_lowB n) (lowB_first (by omega))
theorem info_element : (Tryz.prog.info? 141).map (·.size) = some 2 := by kernel_rfl
theorem OB.other {w : World} {B g i : Nat} {v u : Value} {l : List UInt8} {cs : Array Value} {T : TypeId} {fr : Nat × Nat} (h : OB w B v l) (hg : w.heap[g]? = some (.cells cs T fr)) (hT : T ≠ 5) : OB (w.setCell ⟨g, i, none⟩ u) B v l :=
 OwnS.keepB h fun k hk => Below.heap_setCell w ⟨g, i, none⟩ u k fun e => by
  obtain ⟨cur, hcur⟩ := own_type h hk
  rw [e] at hcur
  exact hT (types_ne hg hcur)

set_option maxHeartbeats 4000000 in
set_option maxRecDepth 100000 in
theorem Next_any (tag : Nat) (A : Option Addr) (m c : Nat) (body rest : List UInt8) (w : World) (hb : RB w A m (elemB tag body ++ rest)) (hmc : m ≤ c) (hc : c ≤ maxLen) (ht : Tag (tag : Int)) (htl : tag < 256) (hbl : body.length ≤ 65530) (hrl : rest.length ≤ 1000000000) :
  Calls Tryz.prog 121 #[.slice A m c] w fun e w' => ∃ A1 c1 A2 c2, e = .returned (.tuple #[.agg #[.int .i64 (tag : Int), .slice A1 body.length c1], .slice A2 rest.length c2, .nilIface]) ∧
   OB w' w.heap.size (.slice A1 body.length c1) body ∧ OB w' w.heap.size (.slice A2 rest.length c2) rest ∧ Below w.heap.size w w' := by
 have hm : m = 1 + ((lenB body.length).length + (body.length + rest.length)) := by have := hb.1; simp [elemB] at this; omega
 obtain ⟨b, o, eA, hcell⟩ := hb.2 (by omega)
 have h0 := hcell 0 (by omega)
 have e0 : (elemB tag body ++ rest).getD 0 0 = UInt8.ofNat tag := rfl
 rw [e0, Nat.add_zero, UInt8.toNat_ofNat', show tag % 2 ^ 8 = tag by omega] at h0
 have hdr : (elemB tag body ++ rest).drop 1 = lenB body.length ++ (body ++ rest) := by simp [elemB]
 obtain ⟨A0, hsl, hr0⟩ := run_tail (E := 1) hb hmc (by omega)
 rw [hdr] at hr0
 obtain ⟨N, hN⟩ : ∃ N, N = body.length := ⟨_, rfl⟩
 obtain ⟨K, hK⟩ : ∃ K, K = rest.length := ⟨_, rfl⟩
 obtain ⟨R, hR⟩ : ∃ R, R = N + K := ⟨_, rfl⟩
 obtain ⟨M0, hM0⟩ : ∃ M0, M0 = m - 1 := ⟨_, rfl⟩
 obtain ⟨c0, hc0⟩ : ∃ c0, c0 = c - 1 := ⟨_, rfl⟩
 rw [← hM0] at hr0 hsl
 rw [← hc0] at hsl
 have hlen : (body ++ rest).length = R := by rw [List.length_append]; omega
 rw [← hN, ← hK]
 rw [← hN] at hr0 hbl
 have hsl1 : ∀ W, (Instr.slice 24 (.slice A m c) (some (.int .i64 1)) none none).run Tryz.prog W = .ok (.slice A0 M0 c0) W := hsl
 obtain ⟨wa, hwa⟩ : ∃ W, W = w.alloc (.cells #[.int .i64 0, .slice none 0 0] 141) := ⟨_, rfl⟩
 have hbb := (Below.refl w.heap.size w).alloc Kj (.cells #[.int .i64 0, .slice none 0 0] 141)
 have hrow := heap_alloc_new w (.cells #[.int .i64 0, .slice none 0 0] 141)
 rw [← hwa] at hbb hrow
 have BB := Hj hbb
 have HRow : Hid (∀ W, Below wa.heap.size wa W → W.heap[w.heap.size]? = some (.cells #[.int .i64 0, .slice none 0 0] 141 (0, 0))) := Hj fun W hW => (hW.block _ (Cz hrow)).trans hrow
 have HK : Hid (∀ W, Below wa.heap.size wa W → W.cell? ⟨w.heap.size, 0, none⟩ = some (.int .i64 0) ∧ W.cell? ⟨w.heap.size, 1, none⟩ = some (.slice none 0 0) ∧ W.frozen? ⟨w.heap.size, 0, none⟩ = false ∧ W.frozen? ⟨w.heap.size, 1, none⟩ = false) := Hj fun W hW =>
  ⟨Kq 0 (HRow.out W hW), Kq 1 (HRow.out W hW), Kx (HRow.out W hW), Kx (HRow.out W hW)⟩
 have HCe : Hid (∀ W, Below wa.heap.size wa W → W.cell? ⟨b, o, none⟩ = some (.int .u8 (tag : Int))) := Hj fun W hW => Kz hW _ _ (Kz hbb _ _ h0)
 have HKn := Hj (fun W => Known_any (tag : Int) W ht)
 have HM : Hid (∀ W, Below wa.heap.size wa W → Calls Tryz.prog 178 #[.slice A0 M0 c0] W fun e w' => ∃ A' c', e = .returned (.tuple #[.int .i64 (N : Int), .slice A' R c', .nilIface]) ∧ RB W A' R (body ++ rest) ∧ R ≤ c' ∧ c' ≤ maxLen ∧ ∃ k, w' = W.drewN k) := Hj fun W hW => by
  have := measure_any A0 M0 c0 N (body ++ rest) W ((hr0.keep (Kz hbb)).keep (Kz hW)) (by omega) (by omega) (by omega)
  rw [hlen] at this
  exact this
 have HL := Hj (And.intro hN (And.intro hK (And.intro hR (And.intro hbl hrl))))
 have q0 : ((m : Int) == 0) = false := beq_eq_false_iff_ne.2 (by omega)
 have m0 : (0 : Int) < (m : Int) := by omega
 have q1 : decide ((N : Int) > 65530) = false := decide_eq_false (by omega)
 have q1' : decide (65530 < (N : Int)) = false := decide_eq_false (by omega)
 have q1n : decide (65530 < N) = false := decide_eq_false (by omega)
 have q2 : decide ((N : Int) > (R : Int)) = false := decide_eq_false (by omega)
 have q2' : decide ((R : Int) < (N : Int)) = false := decide_eq_false (by omega)
 have q2n : decide (R < N) = false := decide_eq_false (by omega)
 have hwt : IntKind.i64.wrap (tag : Int) = (tag : Int) := IntWalk.i64_in _ (by omega)
 have cA : ∀ ob, (w.alloc ob).cell? ⟨b, o, none⟩ = some (.int .u8 (tag : Int)) := fun ob => Kz ((Below.refl w.heap.size w).alloc Kj ob) _ _ h0
 subst eA
 clear hb hmc hc ht htl hbl hrl hm hcell h0 e0 hdr hsl hr0 hN hK hR hM0 hc0 hbb hrow hlen
 go_enter Tryz.func121, Tryz.ntmps121
 go_wp2_with (first
  | (go_at_call 123; go_loud (rw [← hwa]; (with_reducible refine (HKn.out wa).mono ?_); rintro e w1 ⟨rfl, hb1⟩; have B1 := Hj hb1; have cB := HCe.out w1 hb1; clear hb1))
  | (go_at_call 178; go_loud ((with_reducible refine (HM.out w1 B1.out).mono ?_); rintro e w2 ⟨A1, c1, rfl, hr1, hc11, hc12, k2, hk2⟩; have B2 : Hid (Below wa.heap.size wa w2) := Hj (by rw [hk2]; exact below_drewN B1.out k2); have R2 : Hid (RB w2 A1 R (body ++ rest)) := Hj (by rw [hk2]; exact hr1.keep (Keeps.drewN _ _)); have HC11 := Hj (And.intro hc11 hc12); clear hr1 hc11 hc12 hk2))
  | fail)
 have B2d : Hid (Below wa.heap.size wa w2.drew) := Hj (below_dd B2.out)
 have HC1 : Hid (∀ W, Below wa.heap.size wa W → (Keeps w2 W) → Calls Tryz.prog 78 #[.slice A1 N c1] W fun e w' => ∃ A' cap, e = .returned (.slice A' N cap) ∧ OB w' W.heap.size (.slice A' N cap) body ∧ Below W.heap.size W w') := Hj fun W _ hW => by
  have h := Clone_any A1 N c1 body W (by
   have h := (R2.out.keep hW).take N (by have := HL.out; omega)
   rwa [List.take_left' HL.out.1.symm] at h) (by have := HL.out; omega)
  rw [← HL.out.1] at h
  exact h
 obtain ⟨A5, hsl5, hr5⟩ := run_tail (E := N) R2.out HC11.out.1 (by have := HL.out; omega)
 rw [show R - N = K by have := HL.out; omega, List.drop_left' HL.out.1.symm] at hr5
 rw [show R - N = K by have := HL.out; omega] at hsl5
 have R5 := Hj hr5
 have HC2 : Hid (∀ W, (Keeps w2 W) → Calls Tryz.prog 78 #[.slice A5 K (c1 - N)] W fun e w' => ∃ A' cap, e = .returned (.slice A' K cap) ∧ OB w' W.heap.size (.slice A' K cap) rest ∧ Below W.heap.size W w') := Hj fun W hW => by
  have h := Clone_any A5 K (c1 - N) rest W (R5.out.keep hW) (by have := HL.out; omega)
  rw [← HL.out.2.1] at h
  exact h
 have m1 : (N : Int) ≤ (c1 : Int) := by have := HL.out; have := HC11.out; omega
 have m2 : (0 : Int) ≤ (N : Int) := by omega
 clear hr5
 refine wp_region_noPanic ?_
 refine wp_region_held_drew (S := (fun _ => True)) (by kernel_rfl) ?_ (fun hHeld => ?_)
 ·trivial
 refine tk 0 hHeld ?_
 try simp only [pa]
 refine tk 1 hHeld ?_
 try simp only [pa]
 refine tk 2 hHeld ?_
 try simp only [pa]
 refine tk 3 hHeld ?_
 try simp only [pa]
 refine tk 6 hHeld ?_
 try simp only [pa]
 refine tk 7 hHeld ?_
 try simp only [pa]
 refine tk 8 hHeld ?_
 try simp only [pa]
 refine rd1 4 rfl (fun K hK => ?_)
 go_simp
 (with_reducible refine (HC1.out w2.drew B2d.out (Keeps.drew _)).mono ?_)
 rintro e w3 ⟨A3, c3, rfl, ho3, hb3⟩
 have O3 := Hj ho3
 have B3 := Hj (B2d.out.trans (hb3.mono B2d.out.size))
 have S3 := Hj hb3
 clear ho3 hb3
 refine hK.out _ _ ?_ (fun hHeld => ?_)
 ·trivial
 clear hK K
 try simp only [pa]
 refine tk 5 hHeld ?_
 try simp only [pa]
 refine rd1 9 rfl (fun K hK => ?_)
 go_simp
 (with_reducible refine (HC2.out w3 ((Keeps.drew _).trans (Kz S3.out))).mono ?_)
 rintro e w4 ⟨A4, c4, rfl, ho4, hb4⟩
 have O4 := Hj ho4
 have B4 := Hj (B3.out.trans (hb4.mono B3.out.size))
 have S4 := Hj hb4
 obtain ⟨x0, x1, xf0, xf1⟩ := HK.out w4 B4.out
 clear ho4 hb4
 refine hK.out _ _ ?_ (fun hHeld => ?_)
 ·trivial
 clear hK K
 try simp only [pa]
 refine rd1 10 rfl (fun K hK => ?_)
 go_simp
 refine hK.out _ _ ?_ (fun hHeld => ?_)
 ·trivial
 clear hK K
 try simp only [pa]
 refine tk 11 hHeld ?_
 try simp only [pa]
 refine tk 12 hHeld ?_
 try simp only [pa]
 refine wpAnyH_done (by kernel_rfl) ?_ _
 refine NoPanic.normal ?_
 go_wp2
 refine bodyPost_ret (results_cellTT _ rfl rfl (heap_setCell_same _ _ 1 _ _ _ (heap_setCell_same _ _ 0 _ _ _ (HRow.out w4 B4.out))) Tryz.underlying141 info_element) rfl ⟨A3, c3, A4, c4, rfl, ?_, ?_, ?_⟩
 ·exact OB.other (OB.other (OB.mono (OB.below O3.out S4.out) (Kv BB.out.size B2d.out.size)) (HRow.out w4 B4.out) (by decide)) (heap_setCell_same _ _ 0 _ _ _ (HRow.out w4 B4.out)) (by decide)
 ·exact OB.other (OB.other (OB.mono O4.out (Kv BB.out.size B3.out.size)) (HRow.out w4 B4.out) (by decide)) (heap_setCell_same _ _ 0 _ _ _ (HRow.out w4 B4.out)) (by decide)
 ·exact (BB.out.trans (B4.out.mono BB.out.size)).trans ((((Fr.refl (fun k => k = w.heap.size) w4).setCell (p := ⟨w.heap.size, 0, none⟩) (fun _ => rfl) _).setCell (p := ⟨w.heap.size, 1, none⟩) (fun _ => rfl) _).below (Kv BB.out.size B4.out.size) fun i _ e => by rw [e]; exact Nat.le_refl _)
end Go.Proofs.YtfmagnpmjlppiaaGreatDoor

/- Layer 3 (tlv): whole elements: a list of plain ones. -/
namespace Go.Proofs.YtfmagnpmjlppiaaGreatDoor
open Go.RowKit

set_option maxHeartbeats 1000000 in
theorem whole_plain (tag lv : Int) (A : Option Addr) (n c : Nat) (w : World) (h : tag ∈ plainT) :
  Calls Tryz.prog 214 #[.agg #[.int .i64 tag, .slice A n c], .int .i64 lv] w fun e w' => e = .returned (.tuple #[.int .i64 1, .nilIface]) ∧ Below w.heap.size w w' := by
 have hbb := (Below.refl w.heap.size w).alloc Kj (.cells #[.int .i64 tag, .slice A n c] 141)
 have hrow := heap_alloc_new w (.cells #[.int .i64 tag, .slice A n c] 141)
 have c0 : (w.alloc (.cells #[.int .i64 tag, .slice A n c] 141)).cell? ⟨w.heap.size, 0, none⟩ = some (.int .i64 tag) := Kq 0 hrow
 have HB := Hj hbb
 have HM := Hj (fun W => Made_plain tag W h)
 clear hbb hrow h
 go_enter Tryz.func214, Tryz.ntmps214
 go_wp2_with (first
  | (go_at_call 129; go_loud ((with_reducible refine (HM.out _).mono ?_); rintro e w1 ⟨rfl, rfl⟩))
  | fail)
 go_ret2
 exact ⟨rfl, HB.out⟩

/-- The bytes of plain elements. -/
def elemsB (ks : List (Nat × List UInt8)) : List UInt8 := ks.flatMap fun k => elemB k.1 k.2
/-- Plain elements. -/
def Plains (ks : List (Nat × List UInt8)) : Prop := ∀ k ∈ ks, (k.1 : Int) ∈ plainT ∧ k.2.length ≤ 65530
theorem elemsB_cons (k : Nat × List UInt8) (ks : List (Nat × List UInt8)) : elemsB (k :: ks) = elemB k.1 k.2 ++ elemsB ks := rfl
theorem elemB_pos (tag : Nat) (b : List UInt8) : 0 < (elemB tag b).length := by simp [elemB]
theorem plain_small {x : Int} (h : x ∈ plainT) : 0 < x ∧ x < 48 := by simp [plainT] at h; omega

set_option maxHeartbeats 4000000 in
set_option maxRecDepth 100000 in
theorem whole_list (A : Option Addr) (n c : Nat) (ks : List (Nat × List UInt8)) (w : World) (hp : Plains ks) (hb : RB w A n (elemsB ks)) (hnc : n ≤ c) (hc : c ≤ maxLen) (hn : n ≤ 1000000) :
  Calls Tryz.prog 214 #[.agg #[.int .i64 48, .slice A n c], .int .i64 16] w fun e w' => ∃ d : Int, e = .returned (.tuple #[.int .i64 d, .nilIface]) ∧ Below w.heap.size w w' := by
 have hbb := (Below.refl w.heap.size w).alloc Kj (.cells #[.int .i64 48, .slice A n c] 141)
 have hrow := heap_alloc_new w (.cells #[.int .i64 48, .slice A n c] 141)
 obtain ⟨wa, hwa⟩ : ∃ W, W = w.alloc (.cells #[.int .i64 48, .slice A n c] 141) := ⟨_, rfl⟩
 have c0 : (w.alloc (.cells #[.int .i64 48, .slice A n c] 141)).cell? ⟨w.heap.size, 0, none⟩ = some (.int .i64 48) := Kq 0 hrow
 have c1 : (w.alloc (.cells #[.int .i64 48, .slice A n c] 141)).cell? ⟨w.heap.size, 1, none⟩ = some (.slice A n c) := Kq 1 hrow
 rw [← hwa] at hrow hbb
 have HK : Hid (∀ W, Below wa.heap.size wa W → W.cell? ⟨w.heap.size, 0, none⟩ = some (.int .i64 48)) := Hj fun W hW => Kz hW _ _ (Kq 0 hrow)
 have HB := Hj hbb
 have HRB : Hid (RB wa A n (elemsB ks)) := Hj (hb.keep (Kz hbb))
 have HM := Hj (fun W => Made_list W)
 have HP := Hj hp
 have HN := Hj (And.intro hnc (And.intro hc hn))
 clear hbb hrow hb hp hnc hc hn
 go_enter Tryz.func214, Tryz.ntmps214
 go_wp2_with (first
  | (go_at_call 129; go_loud (rw [← hwa]; (with_reducible refine (HM.out _).mono ?_); rintro e w1 ⟨rfl, rfl⟩))
  | fail)
 go_loopg [6, 7, 8] ks.length (fun gk s6 s7 s8 wr => ∃ (r : List (Nat × List UInt8)) (d : Int) (A' : Option Addr) (n' c' : Nat), r.length = gk ∧ s6 = .int .i64 d ∧ (d = 1 ∨ d = 2) ∧ s8 = .slice A' n' c' ∧ Plains r ∧ RB wr A' n' (elemsB r) ∧ n' ≤ c' ∧ c' ≤ maxLen ∧ n' ≤ 1000000 ∧ Below wa.heap.size wa wr)
 case atStart => exact ⟨ks, 1, A, n, c, rfl, rfl, .inl rfl, rfl, HP.out, by rw [← hwa]; exact HRB.out, HN.out.1, HN.out.2.1, HN.out.2.2, by rw [← hwa]; exact Below.refl _ _⟩
 case round =>
  obtain ⟨r, d, A', n', c', hr, rfl, hd, rfl, hpr, hrb, hnc', hc', hn', hbel⟩ := hrel
  have HBel := Hj hbel
  have HR := Hj hr
  have HC := Hj (And.intro hnc' (And.intro hc' hn'))
  cases r with
  | nil =>
   have h0 : n' = 0 := by have := hrb.1; simpa [elemsB] using this.symm
   subst h0
   clear hd hpr hrb hnc' hc' hn' hbel hr
   go_wp2
   go_ret2
   exact ⟨d, rfl, HB.out.trans (HBel.out.mono HB.out.size)⟩
  | cons k r =>
   rw [elemsB_cons] at hrb
   have h1 := elemB_pos k.1 k.2
   have hl : n' = (elemB k.1 k.2).length + (elemsB r).length := by have := hrb.1; rw [List.length_append] at this; omega
   have q : (0 : Int) < (n' : Int) := by omega
   have hk := hpr k (by simp)
   have hks := plain_small hk.1
   have HNx : Hid (∀ W, Keeps wr W → Calls Tryz.prog 121 #[.slice A' n' c'] W fun e w' => ∃ A1 c1 A2 c2, e = .returned (.tuple #[.agg #[.int .i64 (k.1 : Int), .slice A1 k.2.length c1], .slice A2 (elemsB r).length c2, .nilIface]) ∧ OB w' W.heap.size (.slice A1 k.2.length c1) k.2 ∧ OB w' W.heap.size (.slice A2 (elemsB r).length c2) (elemsB r) ∧ Below W.heap.size W w') :=
    Hj fun W hW => Next_any k.1 A' n' c' k.2 (elemsB r) W (hrb.keep hW) hnc' hc' (.inr hk.1) (by omega) hk.2 (by omega)
   have HWh := Hj (fun A n c W => whole_plain (k.1 : Int) 15 A n c W hk.1)
   have HRP : Hid (Plains r) := Hj fun x hx => hpr x (by simp [hx])
   obtain ⟨T, hT⟩ : ∃ T, T = k.1 := ⟨_, rfl⟩
   obtain ⟨R, hRR⟩ : ∃ R, R = (elemsB r).length := ⟨_, rfl⟩
   obtain ⟨M, hM⟩ : ∃ M, M = k.2.length := ⟨_, rfl⟩
   have HQ := Hj (And.intro hl (And.intro h1 (And.intro hRR hr)))
   rw [← hT, ← hRR, ← hM] at HNx
   rw [← hT] at HWh
   have e1 : (n' : Int) - (R : Int) ≤ (c' : Int) ∧ (0 : Int) ≤ (n' : Int) - (R : Int) ∧ (n' : Int) ≤ 1000000 ∧ (0 : Int) ≤ (R : Int) := by omega
   obtain ⟨e1, e2, e3, e4⟩ := e1
   clear hpr hrb hnc' hc' hn' hbel hr h1 hl hk hks hT hRR hM
   rcases hd with rfl | rfl
   all_goals
    go_wp2_with (first
     | (go_at_call 121; go_loud ((with_reducible refine (HNx.out wr (Keeps.refl _)).mono ?_); rintro e w2 ⟨A1, c1, A2, c2, rfl, ho1, ho2, hb2⟩; have O2 := Hj ho2; have B2 := Hj (HBel.out.trans (hb2.mono HBel.out.size)); clear ho1 ho2 hb2))
     | (go_at_call 214; go_loud ((with_reducible refine (HWh.out A1 M c1 _).mono ?_); rintro e w3 ⟨rfl, hb3⟩; have B3 : Hid (Below wa.heap.size wa w3) := Hj ((B2.out.alloc B2.out.size _).trans (hb3.mono (Kv B2.out.size (by simp)))); have x3 := HK.out w3 B3.out; have D3 := Hj hb3; clear hb3))
     | fail)
    go_roundg (gk - 1)
    case measure => have := HQ.out.2.2.2; simp at this; omega
    case rel =>
     obtain ⟨Ax, cx, ex, h1, h2, h3⟩ := OB.form O2.out
     rw [← HQ.out.2.2.1] at ex h1 h3
     injection ex with ex1 _ ex2
     subst ex1
     subst ex2
     exact ⟨r, 2, A2, R, c2, by have := HQ.out.2.2.2; simp at this; omega, rfl, .inr rfl, rfl, HRP.out, (h3.keep (Kz ((Below.refl _ w2).alloc Kj _))).keep (Kz D3.out), h1, h2, by have := HQ.out; have := HC.out; omega, B3.out⟩

set_option maxHeartbeats 1000000 in
set_option maxRecDepth 100000 in
theorem depth_list (A : Option Addr) (n c : Nat) (ks : List (Nat × List UInt8)) (w : World) (hp : Plains ks) (hb : RB w A n (elemB 48 (elemsB ks))) (hnc : n ≤ c) (hc : c ≤ maxLen) (hn : (elemsB ks).length ≤ 65530) (hn2 : n ≤ 65536) :
  Calls Tryz.prog 184 #[.slice A n c] w fun e w' => ∃ d : Int, e = .returned (.tuple #[.int .i64 d, .nilIface]) ∧ Below w.heap.size w w' := by
 have q1 : decide ((n : Int) > 65536) = false := decide_eq_false (by omega)
 have q1' : decide (65536 < (n : Int)) = false := decide_eq_false (by omega)
 have q1n : decide (65536 < n) = false := decide_eq_false (by omega)
 have HN : Hid (Calls Tryz.prog 121 #[.slice A n c] w fun e w' => ∃ A1 c1 A2 c2, e = .returned (.tuple #[.agg #[.int .i64 48, .slice A1 (elemsB ks).length c1], .slice A2 0 c2, .nilIface]) ∧ OB w' w.heap.size (.slice A1 (elemsB ks).length c1) (elemsB ks) ∧ OB w' w.heap.size (.slice A2 0 c2) [] ∧ Below w.heap.size w w') :=
  Hj (Next_any 48 A n c (elemsB ks) [] w (by simpa using hb) hnc hc (.inl rfl) (by decide) hn (by simp))
 obtain ⟨M, hM⟩ : ∃ M, M = (elemsB ks).length := ⟨_, rfl⟩
 rw [← hM] at HN hn
 have HW : Hid (∀ W A c, OB W w.heap.size (.slice A M c) (elemsB ks) → Calls Tryz.prog 214 #[.agg #[.int .i64 48, .slice A M c], .int .i64 16] W fun e w' => ∃ d : Int, e = .returned (.tuple #[.int .i64 d, .nilIface]) ∧ Below W.heap.size W w') := Hj fun W A c ho => by
  obtain ⟨Ax, cx, ex, h1, h2, h3⟩ := OB.form ho
  rw [← hM] at ex h1 h3
  injection ex with ex1 _ ex2
  subst ex1
  subst ex2
  exact whole_list A M c ks W hp h3 h1 h2 (by omega)
 clear hb hnc hc hn hn2 hM hp
 go_enter Tryz.func184, Tryz.ntmps184
 go_wp2_with (first
  | (go_at_call 121; go_loud ((with_reducible refine HN.out.mono ?_); rintro e w2 ⟨A1, c1, A2, c2, rfl, ho1, ho2, hb2⟩; have O1 := Hj ho1; have B2 := Hj hb2; clear ho1 ho2 hb2))
  | (go_at_call 214; go_loud ((with_reducible refine (HW.out _ A1 c1 (O1.out.alloc _)).mono ?_); rintro e w3 ⟨d3, rfl, hb3⟩; have B3 : Hid (Below w.heap.size w w3) := Hj ((B2.out.alloc B2.out.size _).trans (hb3.mono (Kv B2.out.size (by simp)))); clear hb3))
  | fail)
 go_ret2
 exact ⟨d3, rfl, B3.out⟩
theorem Check_list (A : Option Addr) (n c : Nat) (ks : List (Nat × List UInt8)) (w : World) (hp : Plains ks) (hb : RB w A n (elemB 48 (elemsB ks))) (hnc : n ≤ c) (hc : c ≤ maxLen) (hn : (elemsB ks).length ≤ 65530) (hn2 : n ≤ 65536) :
  Calls Tryz.prog 127 #[.slice A n c] w fun e w' => e = .returned .nilIface ∧ Below w.heap.size w w' := by
 have HD := Hj (depth_list A n c ks w hp hb hnc hc hn hn2)
 clear hp hb hnc hc hn hn2
 go_enter Tryz.func127, Tryz.ntmps127
 go_wp2_with (first
  | (go_at_call 184; go_loud ((with_reducible refine HD.out.mono ?_); rintro e w2 ⟨d2, rfl, hb2⟩; have B2 := Hj hb2; clear hb2))
  | fail)
 go_ret
 exact ⟨rfl, B2.out⟩
end Go.Proofs.YtfmagnpmjlppiaaGreatDoor
