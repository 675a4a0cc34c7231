/- Layer 18 (wal): numbers, sums. -/
import Derived.Test.YtfmagnpmjlppiaaGreatDoorShaSum
import Derived.Test.YtfmagnpmjlppiaaGreatDoorTabs
import Derived.Test.YtfmagnpmjlppiaaGreatDoorZeros
import Derived.IntWalk
import Derived.Test.YtfmagnpmjlppiaaGreatDoorDiskWr
import Derived.Deep.RegionHeld3
namespace Go.Proofs.YtfmagnpmjlppiaaGreatDoor
open Go.RowKit

/-- A number's four bytes. -/
def num4 (n : Nat) : List UInt8 := [UInt8.ofNat (n / 16777216), UInt8.ofNat (n / 65536), UInt8.ofNat (n / 256), UInt8.ofNat n]
theorem num4_length (n : Nat) : (num4 n).length = 4 := rfl
/-- The number of four bytes. -/
def numAt (l : List UInt8) (i : Nat) : Nat := (l.getD i 0).toNat * 16777216 + (l.getD (i + 1) 0).toNat * 65536 + (l.getD (i + 2) 0).toNat * 256 + (l.getD (i + 3) 0).toNat

set_option maxHeartbeats 1000000 in
set_option maxRecDepth 100000 in
theorem number_any (n : Nat) (w : World) (hn : n < 4294967296) :
  Calls Tryz.prog 148 #[.int .i64 (n : Int)] w fun e w' => e = .returned (.slice (some ⟨w.heap.size, 0, none⟩) 4 4) ∧ OB w' w.heap.size (.slice (some ⟨w.heap.size, 0, none⟩) 4 4) (num4 n) ∧ Below w.heap.size w w' := by
 have H := Hj (OB.lit w w.heap.size Kj (num4 n) 4 rfl (by simp [num4, maxLen]))
 have e : (bcells (num4 n)).toArray = #[.int .u8 ((n : Int) / 16777216), .int .u8 ((n : Int) / 65536 % 256), .int .u8 ((n : Int) / 256 % 256), .int .u8 ((n : Int) % 256)] := by
  simp [bcells, num4]
  omega
 rw [e] at H
 have n0 : (0 : Int) ≤ (n : Int) := by omega
 have n1 : (n : Int) < 4294967296 := by omega
 clear e
 go_enter Tryz.func148, Tryz.ntmps148
 go_wp2
 go_ret
 exact ⟨rfl, H.out, (Below.refl _ w).alloc Kj _⟩

theorem num_or (x0 x1 x2 x3 : UInt8) : bits .or .i64 (bits .or .i64 (bits .or .i64 (wrap64 (wrap64 (x0.toNat : Int) * 16777216)) (wrap64 (wrap64 (x1.toNat : Int) * 65536))) (wrap64 (wrap64 (x2.toNat : Int) * 256))) (wrap64 (x3.toNat : Int)) = ((x0.toNat * 16777216 + x1.toNat * 65536 + x2.toNat * 256 + x3.toNat : Nat) : Int) := by
 have h0 := x0.toNat_lt
 have h1 := x1.toNat_lt
 have h2 := x2.toNat_lt
 have h3 := x3.toNat_lt
 have e0 : wrap64 (wrap64 (x0.toNat : Int) * 16777216) = ((2 ^ 24 * x0.toNat : Nat) : Int) := by unfold wrap64; omega
 have e1 : wrap64 (wrap64 (x1.toNat : Int) * 65536) = ((2 ^ 16 * x1.toNat : Nat) : Int) := by unfold wrap64; omega
 have e2 : wrap64 (wrap64 (x2.toNat : Int) * 256) = ((2 ^ 8 * x2.toNat : Nat) : Int) := by unfold wrap64; omega
 have e3 : wrap64 (x3.toNat : Int) = ((x3.toNat : Nat) : Int) := by unfold wrap64; omega
 have o1 : 2 ^ 24 * x0.toNat ||| 2 ^ 16 * x1.toNat = 2 ^ 16 * (256 * x0.toNat + x1.toNat) := by
  rw [← Nat.two_pow_add_eq_or_of_lt (by omega)]; omega
 have o2 : 2 ^ 16 * (256 * x0.toNat + x1.toNat) ||| 2 ^ 8 * x2.toNat = 2 ^ 8 * (65536 * x0.toNat + 256 * x1.toNat + x2.toNat) := by
  rw [← Nat.two_pow_add_eq_or_of_lt (by omega)]; omega
 have o3 : 2 ^ 8 * (65536 * x0.toNat + 256 * x1.toNat + x2.toNat) ||| x3.toNat = x0.toNat * 16777216 + x1.toNat * 65536 + x2.toNat * 256 + x3.toNat := by
  rw [← Nat.two_pow_add_eq_or_of_lt (by omega)]; omega
 rw [e0, e1, e2, e3, i64_or_nat _ _ (by omega) (by omega), o1, i64_or_nat _ _ (by omega) (by omega), o2, i64_or_nat _ _ (by omega) (by omega), o3]

set_option maxHeartbeats 1000000 in
set_option maxRecDepth 100000 in
theorem numbered_any (A : Option Addr) (n c i : Nat) (l : List UInt8) (w : World) (hb : RB w A n l) (hi : i + 4 ≤ n) (hn : n ≤ 1000000000) :
  Calls Tryz.prog 176 #[.slice A n c, .int .i64 (i : Int)] w fun e w' => e = .returned (.int .i64 (numAt l i : Int)) ∧ ∃ k, w' = w.drewN k := by
 obtain ⟨b, o, rfl, hc⟩ := hb.2 (by omega)
 have c0 := hc i (by omega)
 have c1 := hc (i + 1) (by omega)
 have c2 := hc (i + 2) (by omega)
 have c3 := hc (i + 3) (by omega)
 have i0 : (0 : Int) ≤ (i : Int) := by omega
 have i1 : (i : Int) + 3 < (n : Int) := by omega
 have w1 : IntKind.i64.wrap ((i : Int) + 1) = (i : Int) + 1 := IntWalk.i64_in _ (by omega)
 have w2 : IntKind.i64.wrap ((i : Int) + 2) = (i : Int) + 2 := IntWalk.i64_in _ (by omega)
 have w3 : IntKind.i64.wrap ((i : Int) + 3) = (i : Int) + 3 := IntWalk.i64_in _ (by omega)
 have j0 : (0 : Int) ≤ (i : Int) + 1 ∧ (i : Int) + 1 < (n : Int) ∧ ((i : Int) + 1).toNat = i + 1 := by omega
 have j1 : (0 : Int) ≤ (i : Int) + 2 ∧ (i : Int) + 2 < (n : Int) ∧ ((i : Int) + 2).toNat = i + 2 := by omega
 have j2 : (0 : Int) ≤ (i : Int) + 3 ∧ (i : Int) + 3 < (n : Int) ∧ ((i : Int) + 3).toNat = i + 3 := by omega
 obtain ⟨a1, a2, a3⟩ := j0
 obtain ⟨b1, b2, b3⟩ := j1
 obtain ⟨d1, d2, d3⟩ := j2
 have i4 : (i : Int) < (n : Int) := by omega
 unfold numAt
 clear hb hc hi hn i1
 generalize l.getD i 0 = x0 at *
 generalize l.getD (i + 1) 0 = x1 at *
 generalize l.getD (i + 2) 0 = x2 at *
 generalize l.getD (i + 3) 0 = x3 at *
 go_enter Tryz.func176, Tryz.ntmps176
 go_wp2
 go_quiet (fail)
 go_wp2
 go_ret
 exact ⟨ret_int (num_or x0 x1 x2 x3), _, rfl⟩

/-! ### slices.Equal -/
set_option maxRecDepth 100000 in
theorem Equal_any (A B : Option Addr) (n m c d : Nat) (w : World) (l r : List UInt8) (hl : RB w A n l) (hr : RB w B m r) (hn : n ≤ maxLen) :
  Calls Tryz.prog 177 #[.slice A n c, .slice B m d] w fun e w' => e = .returned (.bool (decide (l = r))) ∧ ∃ k, w' = w.drewN k := by
 unfold maxLen at hn
 by_cases hnm : n = m
 ·subst hnm
  have q : ((n : Int) != (n : Int)) = false := by simp
  go_enter Tryz.func177, Tryz.ntmps177
  go_wp2
  go_loopw [13] (fun i wr => ∃ k : Nat, k ≤ n ∧ i = .int .i64 (k : Int) ∧ l.take k = r.take k ∧ ∃ q, wr = w.drewN q) (fun i _ => n - (intOf i).toNat)
  case atStart => exact ⟨0, Nat.zero_le _, rfl, rfl, 0, rfl⟩
  case round =>
   obtain ⟨k, hk, rfl, htk, q, rfl⟩ := hrel
   have HT := Hj htk
   have HL := Hj (And.intro hl.1 hr.1)
   clear htk
   by_cases hlt : k < n
   ·obtain ⟨b, o, rfl, hb⟩ := hl.2 (by omega)
    obtain ⟨b', o', rfl, hb'⟩ := hr.2 (by omega)
    have c1 := hb k hlt
    have c2 := hb' k hlt
    have HS1 := Hj (List.take_succ_eq_append_getElem (l := l) (i := k) (by rw [HL.out.1]; exact hlt))
    have HS2 := Hj (List.take_succ_eq_append_getElem (l := r) (i := k) (by rw [HL.out.2]; exact hlt))
    have g1 : l.getD k 0 = l[k]'(by rw [HL.out.1]; exact hlt) := by simp [HL.out.1, hlt]
    have g2 : r.getD k 0 = r[k]'(by rw [HL.out.2]; exact hlt) := by simp [HL.out.2, hlt]
    have k0 : (0 : Int) ≤ (k : Int) := by omega
    have k1 : (k : Int) < (n : Int) := by omega
    rw [← g1] at HS1
    rw [← g2] at HS2
    have HNE : Hid (l.getD k 0 ≠ r.getD k 0 → l ≠ r) := Hj fun h e => h (by rw [e])
    clear hb hb' hl hr g1 g2
    generalize l.getD k 0 = x at *
    generalize r.getD k 0 = y at *
    by_cases hxy : x = y
    ·subst hxy
     have qx : ((x.toNat : Int) != (x.toNat : Int)) = false := by simp
     go_wp2
     go_quiet (fail)
     go_wp2
     go_roundw
     case rel => exact ⟨k + 1, by omega, by go_num, by rw [HS1.out, HS2.out, HT.out], _, rfl⟩
     case measure => simp [intOf]; omega
    ·have qx : ((x.toNat : Int) != (y.toNat : Int)) = true := by
      rw [bne_iff_ne]
      intro e
      exact hxy (UInt8.toNat_inj.1 (by omega))
     have HF : Hid (decide (l = r) = false) := Hj (decide_eq_false (HNE.out hxy))
     clear hxy
     go_wp2
     go_quiet (fail)
     go_wp2
     go_ret
     exact ⟨ret_bool HF.out.symm, _, World.drewN_drewN _ _ _⟩
   ·obtain rfl : k = n := by omega
    have HF : Hid (decide (l = r) = true) := Hj (decide_eq_true (by
     have := HT.out
     rwa [List.take_of_length_le (by rw [HL.out.1]; exact Nat.le_refl _), List.take_of_length_le (by rw [HL.out.2]; exact Nat.le_refl _)] at this))
    go_wp2
    go_ret
    exact ⟨ret_bool HF.out.symm, _, rfl⟩
 ·have q : ((n : Int) != (m : Int)) = true := by rw [bne_iff_ne]; omega
  have HF : Hid (decide (l = r) = false) := Hj (decide_eq_false fun e => hnm (by rw [← hl.1, ← hr.1, e]))
  rw [HF.out]
  clear hl hr hnm
  go_enter Tryz.func177, Tryz.ntmps177
  go_wp2
  go_ret
  exact ⟨rfl, 0, rfl⟩

/-! ### sum -/
theorem rb_row32 {w : World} {g n : Nat} {l : List UInt8} {T : TypeId} {fr : Nat × Nat} (h : w.heap[g]? = some (.cells (bcells l).toArray T fr)) (hn : l.length = n) : RB w (some ⟨g, 0, none⟩) n l :=
 ⟨hn, fun _ => ⟨g, 0, rfl, fun k hk => by rw [cell_of_row _ _ _ _ _ _ h, Nat.zero_add, List.getElem?_toArray]; exact bcells_get (by omega)⟩⟩
def zer32w : Array Value := Array.replicate 32 (.int .u8 0)
theorem RB.frontW {w : World} {A : Option Addr} {n m : Nat} {l r : List UInt8} (h : RB w A m (l ++ r)) (hl : l.length = n) : RB w A n l := by
 have h1 := h.1
 rw [List.length_append] at h1
 refine ⟨hl, fun hn => ?_⟩
 obtain ⟨b, o, e, hc⟩ := h.2 (by omega)
 refine ⟨b, o, e, fun k hk => ?_⟩
 rw [hc k (by omega)]
 simp [List.getD_eq_getElem?_getD, List.getElem?_append_left (show k < l.length by omega)]
def sumB (gen n : Nat) (text : List UInt8) : List UInt8 := (shaB kfun htab (num4 gen ++ num4 n ++ text)).take 8
theorem sumB_length (gen n : Nat) (text : List UInt8) : (sumB gen n text).length = 8 := by unfold sumB; rw [List.length_take, shaB_length]; rfl

set_option maxHeartbeats 2000000 in
set_option maxRecDepth 100000 in
theorem wsum_any (gen n : Nat) (A : Option Addr) (m c : Nat) (text : List UInt8) (w : World) (hb : RB w A m text) (hmc : m ≤ c) (hc : c ≤ maxLen) (hg : gen < 4294967296) (hn : n < 4294967296) (hm : m ≤ 1000000000) (ht : ShaTabs w) :
  Calls Tryz.prog 149 #[.int .i64 (gen : Int), .int .i64 (n : Int), .slice A m c] w fun e w' => ∃ q, e = .returned (.slice (some ⟨q, 0, none⟩) 8 32) ∧ RB w' (some ⟨q, 0, none⟩) 8 (sumB gen n text) ∧ w.heap.size ≤ q ∧ Below w.heap.size w w' := by
 have HB := Hj hb
 have HL := Hj hb.1
 have HC := Hj (And.intro hmc hc)
 have HT := Hj ht
 have HM := Hj hm
 have H1 := Hj (fun (W : World) => number_any gen W hg)
 have H2 := Hj (fun (W : World) => number_any n W hn)
 have Hs : Hid ((shaB kfun htab (num4 gen ++ num4 n ++ text)).length = 32) := Hj (shaB_length _ _ _)
 have HS : Hid (sumB gen n text = (shaB kfun htab (num4 gen ++ num4 n ++ text)).take 8) := Hj rfl
 have HF : Hid (([num4 gen, num4 n, text] : List (List UInt8)).flatten = num4 gen ++ num4 n ++ text) := Hj (by simp)
 clear hb hmc hc hg hn hm ht
 go_enter Tryz.func149, Tryz.ntmps149
 go_wp2_with (first
  | (go_at_call 148; (with_reducible refine (H1.out w).mono ?_); rintro e w1 ⟨rfl, ho1, hb1⟩; have O1 := Hj ho1; have B1 := Hj hb1; clear ho1 hb1)
  | (go_at_call 148; (with_reducible refine (H2.out w1).mono ?_); rintro e w2 ⟨rfl, ho2, hb2⟩; have O2 := Hj ho2; have O12 := Hj (O1.out.below hb2); have B2 := Hj (B1.out.trans (hb2.mono B1.out.size)); clear ho2 hb2))
 have D3 := Hj ((Below.refl w2.heap.size w2).alloc Kj (.cells #[.slice (some ⟨w.heap.size, 0, none⟩) 4 4, .slice (some ⟨w1.heap.size, 0, none⟩) 4 4, .slice A m c] 24))
 have B3 := Hj (B2.out.trans (D3.out.mono B2.out.size))
 have hrbl : RBL (w2.alloc (.cells #[.slice (some ⟨w.heap.size, 0, none⟩) 4 4, .slice (some ⟨w1.heap.size, 0, none⟩) 4 4, .slice A m c] 24)) (some ⟨w2.heap.size, 0, none⟩) 3 [num4 gen, num4 n, text] := RBL.lits (vs := [.slice (some ⟨w.heap.size, 0, none⟩) 4 4, .slice (some ⟨w1.heap.size, 0, none⟩) 4 4, .slice A m c]) (heap_alloc_new w2 _) rfl (fun k hk => by
  have : k = 0 ∨ k = 1 ∨ k = 2 := by omega
  rcases this with rfl | rfl | rfl
  ·exact ⟨_, rfl, (O12.out.below D3.out).sb⟩
  ·exact ⟨_, rfl, (O2.out.below D3.out).sb⟩
  ·exact ⟨_, rfl, SB.of_rb (HB.out.keep (Kz B3.out)) HC.out.1 HC.out.2⟩)
 refine (Sum_any _ 3 3 _ kfun htab _ hrbl (HT.out.k.keep (Kz B3.out)) (HT.out.f.keep (Kz B3.out)) (Nat.lt_of_lt_of_le HT.out.lt B3.out.size) (by unfold maxLen; omega) (by rw [HF.out]; have := HL.out; have := HM.out; simp [num4]; omega)).mono ?_
 rw [HF.out]
 rintro e w4 ⟨rfl, hb4⟩
 have B4 := Hj (B3.out.trans (hb4.mono B3.out.size))
 clear hb4 hrbl
 generalize shaB kfun htab (num4 gen ++ num4 n ++ text) = mac at *
 obtain ⟨cur, hcur⟩ : ∃ cur, cur = (bcells mac).toArray := ⟨_, rfl⟩
 rw [← hcur]
 have HCur := Hj hcur
 have HC2 : Hid (cur.size = 32) := Hj (by rw [hcur]; simp [bcells, Hs.out])
 have HB2 : Hid (cur.all (·.oneCell') = true) := Hj (by
  rw [hcur, Array.all_eq_true_iff_forall_mem]
  intro y hy
  exact bcells_one _ y (by simpa using hy))
 clear hcur
 go_wp2_with (refine wpList_store_row rfl 259 (.tmp 7) (.tmp 14) rfl w4.heap.size cur rfl rfl 259 _ (heap_alloc_new w4 _) (by rw [HC2.out]; exact info_32) (by rw [HC2.out]; rfl) HB2.out ?_)
 go_ret
 refine ⟨w4.heap.size, rfl, ?_, B4.out.size, below_setRow (B4.out.alloc B4.out.size _) B4.out.size cur⟩
 have h : RB ((w4.alloc (.cells zer32w 259)).setRow w4.heap.size cur) (some ⟨w4.heap.size, 0, none⟩) 32 mac := rb_row32 (T := 259) (fr := (0, 0)) (by rw [← HCur.out]; exact setRow_heap _ _ _ _ _ _ (heap_alloc_new w4 _)) Hs.out
 rw [← List.take_append_drop 8 mac] at h
 rw [HS.out]
 exact h.frontW (by rw [List.length_take, Hs.out]; rfl)
end Go.Proofs.YtfmagnpmjlppiaaGreatDoor

/- Layer 18 (wal): slices.Grow of nothing, slices.Concat. -/
namespace Go.Proofs.YtfmagnpmjlppiaaGreatDoor
open Go.RowKit

set_option maxHeartbeats 1000000 in
set_option maxRecDepth 100000 in
theorem Grow_nil (m : Nat) (w : World) (hm : m ≤ 140737488355328) : Calls Tryz.prog 181 #[.slice none 0 0, .int .i64 (m : Int)] w fun e w' => ∃ v, e = .returned v ∧ OB w' w.heap.size v [] ∧ Below w.heap.size w w' := by
 by_cases h0 : m = 0
 ·subst h0
  go_enter Tryz.func181, Tryz.ntmps181
  go_wp2
  go_ret
  exact ⟨_, rfl, OB.nil _ _, Below.refl _ _⟩
 ·have H1 := Hj (OB.nil w w.heap.size)
  go_enter Tryz.func181, Tryz.ntmps181
  go_wp2_with (first
   | (at_builtin; refine wpList_append_zeros (m := m) rfl (.tmp 20) (.tmp 21) rfl H1.out rfl ?_ ?_ ?_ Kj ?_; rotate_right; intro v1 w1 hown1 hgr1 hat1; have HB1 := Hj (below_append (Below.refl _ w) hgr1 H1.out Kj Kj); have HO1 := Hj hown1; obtain ⟨A1, c1, e1, _, _, _⟩ := hown1.form; subst e1; clear hown1 hgr1 hat1)
   | fail)
  all_goals skip
  ·go_ret
   refine ⟨_, rfl, ?_, HB1.out⟩
   have := HO1.out.cutTo 0 (Nat.zero_le _)
   simpa using this
  ·go_num
  ·omega
  ·simpa using hm

set_option maxHeartbeats 4000000 in
set_option maxRecDepth 100000 in
theorem Concat_any (A : Option Addr) (n c : Nat) (ls : List (List UInt8)) (w : World) (hl : RBL w A n ls) (hn : n ≤ maxLen) (hlen : ls.flatten.length ≤ 1000000000) :
  Calls Tryz.prog 124 #[.slice A n c] w fun e w' => ∃ v, e = .returned v ∧ OB w' w.heap.size v ls.flatten ∧ Below w.heap.size w w' := by
 have Hl := Hj hl
 have HLs := Hj hl.1
 clear hl
 unfold maxLen at hn
 have Hlen : Hid (∀ k, (ls.take k).flatten.length ≤ 1000000000) := fun k => Kv (flat_take_le ls k) hlen
 have Htot := Hj hlen
 clear hlen
 go_enter Tryz.func124, Tryz.ntmps124
 go_wp2
 go_loopg [11, 3] n (fun k s11 s3 wr => ∃ (i : Nat), s11 = .int .i64 (i : Int) ∧ i + k = n ∧ s3 = .int .i64 ((ls.take i).flatten.length : Int) ∧ wr = w)
 case atStart => exact ⟨0, rfl, by omega, rfl, rfl⟩
 case round =>
  obtain ⟨i, rfl, hik, rfl, rfl⟩ := hrel
  by_cases hi : i < n
  ·obtain ⟨b, o, hA, hb⟩ := Hl.out.2 (by omega)
   obtain ⟨v, c1, A', c', hv, hc1, hc2, hrb⟩ := hb i hi
   subst hv
   subst hA
   have hft := flat_take ls i (by rw [HLs.out]; exact hi)
   have hf1 := Hlen.out (i + 1)
   rw [hft, List.length_append] at hf1
   have HFT := Hj hft
   clear hb hrb hft
   have i0 : (0 : Int) ≤ (i : Int) := by omega
   have i1 : (i : Int) < (n : Int) := by omega
   generalize hx : ls.getD i [] = x at *
   clear hx
   generalize hy : (ls.take i).flatten = y at *
   go_wp2
   go_roundg (gk - 1)
   case measure => omega
   case rel => refine ⟨i + 1, by go_num, by omega, ?_, rfl⟩; rw [HFT.out, List.length_append]; go_num
  ·obtain rfl : i = n := by omega
   have hall : (ls.take i).flatten = ls.flatten := by rw [List.take_of_length_le (by rw [HLs.out]; exact Nat.le_refl _)]
   rw [hall]
   have HG0 : ∀ W : World, _ := fun (W : World) => Grow_nil ls.flatten.length W (by have := Htot.out; omega)
   have HAll := Hj hall
   clear hall
   generalize ls.flatten.length = F at HG0 ⊢
   have HG := Hj HG0
   clear HG0
   go_wp2_with (first
    | (go_at_call 181; go_loud ((with_reducible refine (HG.out wr).mono ?_); rintro e w1 ⟨v1, rfl, hown1, hbel1⟩; have HO1 := Hj hown1; have HB1 := Hj hbel1; clear hown1 hbel1))
    | fail)
   have HRl := Hj (Hl.out.keep (Kz HB1.out))
   go_loopg [27, 6] i (fun k s27 s6 w2 => ∃ (j : Nat), s27 = .int .i64 (j : Int) ∧ j + k = i ∧ OB w2 wr.heap.size s6 (ls.take j).flatten ∧ Below wr.heap.size wr w2)
   case atStart => exact ⟨0, rfl, by omega, HO1.out, HB1.out⟩
   case round =>
    obtain ⟨j, rfl, hjk, hown, hbel⟩ := hrel
    have Hown := Hj hown
    have Hbel := Hj hbel
    clear hown hbel
    by_cases hj : j < i
    ·obtain ⟨b, o, hA, hb⟩ := Hl.out.2 (by omega)
     obtain ⟨v, c1, A', c', hv, hc1, hc2, hrb⟩ := hb j hj
     subst hv
     subst hA
     have c2 := (Kz Hbel.out) _ _ c1
     have Hrb := Hj (hrb.keep (Kz Hbel.out))
     have hft := flat_take ls j (by rw [HLs.out]; exact hj)
     have hf1 := Hlen.out (j + 1)
     rw [hft, List.length_append] at hf1
     have HFT := Hj hft
     have HF1 := Hj hf1
     clear hb hrb hft c1 hf1
     have j0 : (0 : Int) ≤ (j : Int) := by omega
     have j1 : (j : Int) < (i : Int) := by omega
     generalize hx : ls.getD j [] = x at *
     clear hx
     generalize hy : (ls.take j).flatten = y at *
     go_wp2_with (first
      | (at_builtin; refine wpList_append_b rfl (.tmp 31) (.tmp 32) 24 rfl Hown.out rfl (RB.src Tryz.underlying24 (l := x) Hrb.out) rfl ?_ ?_ ?_; rotate_right; intro v2 w2 hown2 hgr2 hat2; have HO2 := Hj hown2; have HB2 := Hj (below_append Hbel.out hgr2 Hown.out Kj Hbel.out.size); clear hown2 hgr2 hat2)
      | fail)
     case refine_1 => have := HF1.out; omega
     case refine_2 => exact Hbel.out.size
     go_roundg (gk - 1)
     case measure => omega
     case rel => exact ⟨j + 1, by go_num, by omega, by rw [HFT.out]; exact HO2.out, HB2.out⟩
    ·obtain rfl : j = i := by omega
     rw [HAll.out] at Hown
     go_wp2
     go_ret
     exact ⟨_, rfl, Hown.out, Hbel.out⟩
end Go.Proofs.YtfmagnpmjlppiaaGreatDoor

/- Layer 18 (wal): snapshot.bytes, record. -/
namespace Go.Proofs.YtfmagnpmjlppiaaGreatDoor
open Go.RowKit

/-- A snapshot's bytes. -/
def snapB (gen : Nat) (text : List UInt8) : List UInt8 := num4 gen ++ num4 text.length ++ sumB gen text.length text ++ text
theorem snap_flat (gen : Nat) (text : List UInt8) : ([num4 gen, num4 text.length, sumB gen text.length text, text] : List (List UInt8)).flatten = snapB gen text := by simp [snapB]
theorem snapB_length (gen : Nat) (text : List UInt8) : (snapB gen text).length = 16 + text.length := by
 unfold snapB; rw [List.length_append, List.length_append, List.length_append, sumB_length]; simp [num4_length]
/-- A record's bytes. -/
def recB (gen n : Nat) (text : List UInt8) : List UInt8 := num4 gen ++ num4 n ++ num4 text.length ++ sumB gen n text ++ text
theorem rec_flat (gen n : Nat) (text : List UInt8) : ([num4 gen, num4 n, num4 text.length, sumB gen n text, text] : List (List UInt8)).flatten = recB gen n text := by simp [recB]
theorem recB_length (gen n : Nat) (text : List UInt8) : (recB gen n text).length = 20 + text.length := by
 unfold recB; rw [List.length_append, List.length_append, List.length_append, List.length_append, sumB_length]; simp [num4_length]

set_option maxHeartbeats 2000000 in
set_option maxRecDepth 100000 in
theorem record_any (gen n : Nat) (A : Option Addr) (m c : Nat) (text : List UInt8) (w : World) (hb : RB w A m text) (hmc : m ≤ c) (hc : c ≤ maxLen) (hg : gen < 4294967296) (hn : n < 4294967296) (hm : m ≤ 100000000) (ht : ShaTabs w) :
  Calls Tryz.prog 143 #[.int .i64 (gen : Int), .int .i64 (n : Int), .slice A m c] w fun e w' => ∃ v, e = .returned v ∧ OB w' w.heap.size v (recB gen n text) ∧ Below w.heap.size w w' := by
 have HB := Hj hb
 have HL := Hj hb.1
 have HC := Hj (And.intro hmc hc)
 have HT := Hj ht
 have HM := Hj hm
 have H1 := Hj (fun (W : World) => number_any gen W hg)
 have H2 := Hj (fun (W : World) => number_any n W hn)
 have H3 := Hj (fun (W : World) => number_any m W (by omega))
 have H4 := Hj (fun (W : World) (hb : RB W A m text) (ht : ShaTabs W) => wsum_any gen n A m c text W hb hmc hc hg hn (by omega) ht)
 have HF := Hj (rec_flat gen n text)
 clear hb hmc hc hg hn ht hm
 go_enter Tryz.func143, Tryz.ntmps143
 go_wp2_with (first
  | (go_at_call 148; (with_reducible refine (H1.out w).mono ?_); rintro e w1 ⟨rfl, ho1, hb1⟩; have O1 := Hj ho1; have B1 := Hj hb1; clear ho1 hb1)
  | (go_at_call 148; (with_reducible refine (H2.out w1).mono ?_); rintro e w2 ⟨rfl, ho2, hb2⟩; have O2 := Hj ho2; have B2 := Hj (B1.out.trans (hb2.mono B1.out.size)); have O12 := Hj (O1.out.below hb2); clear ho2 hb2)
  | (go_at_call 148; (with_reducible refine (H3.out w2).mono ?_); rintro e w3 ⟨rfl, ho3, hb3⟩; have O3 := Hj ho3; have B3 := Hj (B2.out.trans (hb3.mono B2.out.size)); have O13 := Hj (O12.out.below hb3); have O23 := Hj (O2.out.below hb3); clear ho3 hb3)
  | (go_at_call 149; (with_reducible refine (H4.out w3 (HB.out.keep (Kz B3.out)) (HT.out.keep (Kz B3.out))).mono ?_); rintro e w4 ⟨q4, rfl, hr4, hq4, hb4⟩; have R4 := Hj hr4; have B4 := Hj (B3.out.trans (hb4.mono B3.out.size)); have O14 := Hj (O13.out.below hb4); have O24 := Hj (O23.out.below hb4); have O34 := Hj (O3.out.below hb4); clear hr4 hb4)
  | fail)
 have D5 := Hj ((Below.refl w4.heap.size w4).alloc Kj (.cells #[.slice (some ⟨w.heap.size, 0, none⟩) 4 4, .slice (some ⟨w1.heap.size, 0, none⟩) 4 4, .slice (some ⟨w2.heap.size, 0, none⟩) 4 4, .slice (some ⟨q4, 0, none⟩) 8 32, .slice A m c] 24))
 have B5 := Hj (B4.out.trans (D5.out.mono B4.out.size))
 have hrbl : RBL (w4.alloc (.cells #[.slice (some ⟨w.heap.size, 0, none⟩) 4 4, .slice (some ⟨w1.heap.size, 0, none⟩) 4 4, .slice (some ⟨w2.heap.size, 0, none⟩) 4 4, .slice (some ⟨q4, 0, none⟩) 8 32, .slice A m c] 24)) (some ⟨w4.heap.size, 0, none⟩) 5 [num4 gen, num4 n, num4 text.length, sumB gen n text, text] := RBL.lits (vs := [.slice (some ⟨w.heap.size, 0, none⟩) 4 4, .slice (some ⟨w1.heap.size, 0, none⟩) 4 4, .slice (some ⟨w2.heap.size, 0, none⟩) 4 4, .slice (some ⟨q4, 0, none⟩) 8 32, .slice A m c]) (heap_alloc_new w4 _) rfl (fun k hk => by
  have : k = 0 ∨ k = 1 ∨ k = 2 ∨ k = 3 ∨ k = 4 := by omega
  rcases this with rfl | rfl | rfl | rfl | rfl
  ·exact ⟨_, rfl, (O14.out.below D5.out).sb⟩
  ·exact ⟨_, rfl, (O24.out.below D5.out).sb⟩
  ·exact ⟨_, rfl, by show SB _ _ (num4 text.length); rw [HL.out]; exact (O34.out.below D5.out).sb⟩
  ·exact ⟨_, rfl, SB.of_rb (R4.out.keep (Kz D5.out)) (by decide) (by decide)⟩
  ·exact ⟨_, rfl, SB.of_rb (HB.out.keep (Kz B5.out)) HC.out.1 HC.out.2⟩)
 have HCt := Hj (Concat_any _ 5 5 _ _ hrbl (by decide) (by rw [HF.out, recB_length]; have := HL.out; have := HM.out; omega))
 rw [HF.out] at HCt
 go_wp2_with (first
  | (go_at_call 124; (with_reducible refine (HCt.out).mono ?_); rintro e w6 ⟨v6, rfl, ho6, hb6⟩; have O6 := Hj ho6; have B6 := Hj (B5.out.trans (hb6.mono B5.out.size)); clear ho6 hb6)
  | fail)
 go_ret
 exact ⟨_, rfl, O6.out.mono B5.out.size, B6.out⟩
end Go.Proofs.YtfmagnpmjlppiaaGreatDoor

/- Layer 18 (wal): snapshot.bytes. -/
namespace Go.Proofs.YtfmagnpmjlppiaaGreatDoor
open Go.RowKit

theorem Below.undrewW {B : Nat} {a w : World} (h : Below B a.drew w) : Below B a w := ⟨h.os, h.tape, h.output, h.size, h.block⟩

/-- Concat over the four parts of a snapshot. -/
theorem cat4 (gen m : Nat) (A : Option Addr) (c : Nat) (text : List UInt8) (w : World) (V1 V2 : Value) (q4 : Nat) (hL : text.length = m) (hmc : m ≤ c) (hc : c ≤ maxLen) (hm : m ≤ 100000000) (h1 : SB w V1 (num4 gen)) (h2 : SB w V2 (num4 m)) (h3 : RB w (some ⟨q4, 0, none⟩) 8 (sumB gen m text)) (h4 : RB w A m text) :
  Calls Tryz.prog 124 #[.slice (some ⟨w.heap.size, 0, none⟩) 4 4] (w.alloc (.cells #[V1, V2, .slice (some ⟨q4, 0, none⟩) 8 32, .slice A m c] 24)) fun e w' => ∃ v, e = .returned v ∧ OB w' w.heap.size v (snapB gen text) ∧ Below w.heap.size w w' := by
 have D5 := ((Below.refl w.heap.size w).alloc Kj (.cells #[V1, V2, .slice (some ⟨q4, 0, none⟩) 8 32, .slice A m c] 24))
 have k5 := Kz D5
 have hrbl : RBL (w.alloc (.cells #[V1, V2, .slice (some ⟨q4, 0, none⟩) 8 32, .slice A m c] 24)) (some ⟨w.heap.size, 0, none⟩) 4 [num4 gen, num4 text.length, sumB gen text.length text, text] := RBL.lits (vs := [V1, V2, .slice (some ⟨q4, 0, none⟩) 8 32, .slice A m c]) (heap_alloc_new w _) rfl (fun k hk => by
  have : k = 0 ∨ k = 1 ∨ k = 2 ∨ k = 3 := by omega
  rcases this with rfl | rfl | rfl | rfl
  ·exact ⟨_, rfl, h1.keep k5⟩
  ·exact ⟨_, rfl, by show SB _ _ (num4 text.length); rw [hL]; exact h2.keep k5⟩
  ·exact ⟨_, rfl, by show SB _ _ (sumB gen text.length text); rw [hL]; exact SB.of_rb (h3.keep k5) (by decide) (by decide)⟩
  ·exact ⟨_, rfl, SB.of_rb (h4.keep k5) hmc hc⟩)
 have hf := snap_flat gen text
 refine (Concat_any _ 4 4 _ _ hrbl (by decide) (by rw [hf, snapB_length]; omega)).mono ?_
 rw [hf]
 rintro e w6 ⟨v6, rfl, ho6, hb6⟩
 exact ⟨_, rfl, ho6.mono D5.size, D5.trans (hb6.mono D5.size)⟩

set_option maxHeartbeats 2000000 in
set_option maxRecDepth 100000 in
theorem sbytes_any (gen slot : Nat) (A : Option Addr) (m c : Nat) (text : List UInt8) (w : World) (hb : RB w A m text) (hmc : m ≤ c) (hc : c ≤ maxLen) (hg : gen < 4294967296) (hm : m ≤ 100000000) (ht : ShaTabs w) :
  Calls Tryz.prog 95 #[.agg #[.int .i64 (gen : Int), .int .i64 (slot : Int), .slice A m c]] w fun e w' => ∃ v, e = .returned v ∧ OB w' w.heap.size v (snapB gen text) ∧ Below w.heap.size w w' := by
 have HB := Hj hb
 have HL := Hj hb.1
 have HC := Hj (And.intro hmc hc)
 have HT := Hj ht
 have HM := Hj hm
 have H1 := Hj (fun (W : World) => number_any gen W hg)
 have H3 := Hj (fun (W : World) => number_any m W (by omega))
 have H4 := Hj (fun (W : World) (hb : RB W A m text) (ht : ShaTabs W) => wsum_any gen m A m c text W hb hmc hc hg (by omega) (by omega) ht)
 have HCC := Hj (fun (W : World) (V1 V2 : Value) (q4 : Nat) (h1 : SB W V1 (num4 gen)) (h2 : SB W V2 (num4 m)) (h3 : RB W (some ⟨q4, 0, none⟩) 8 (sumB gen m text)) (h4 : RB W A m text) => cat4 gen m A c text W V1 V2 q4 HL.out hmc hc hm h1 h2 h3 h4)
 have E0 := Hj (heap_alloc_new w (.cells #[.int .i64 (gen : Int), .int .i64 (slot : Int), .slice A m c] 130))
 have B0 := Hj ((Below.refl w.heap.size w).alloc Kj (.cells #[.int .i64 (gen : Int), .int .i64 (slot : Int), .slice A m c] 130))
 clear hb hmc hc hg ht hm
 go_enter Tryz.func95, Tryz.ntmps95
 go_wp2_with fail
 obtain ⟨wB, hwB⟩ : ∃ W, W = w.alloc (.cells #[.int .i64 (gen : Int), .int .i64 (slot : Int), .slice A m c] 130) := ⟨_, rfl⟩
 rw [← hwB] at E0 B0 ⊢
 have K0 : Hid (∀ W, Below wB.heap.size wB W → W.cell? ⟨w.heap.size, 0, none⟩ = some (.int .i64 (gen : Int)) ∧ W.cell? ⟨w.heap.size, 2, none⟩ = some (.slice A m c)) := Hj fun W h => by
  have k := Kz h
  exact ⟨k _ _ (Kq 0 E0.out), k _ _ (Kq 2 E0.out)⟩
 obtain ⟨c0, c2⟩ := K0.out wB (Below.refl _ _)
 clear hwB
 go_region_held3 (fun w' => w'.cell? ⟨w.heap.size, 0, none⟩ = some (.int .i64 (gen : Int)) ∧ w'.cell? ⟨w.heap.size, 2, none⟩ = some (.slice A m c)) (first | exact ⟨by assumption, by assumption⟩ | go_keep)
  (first
   | (go_at_call 148; (with_reducible refine (H1.out wB.drew).mono ?_); rintro e w1 ⟨rfl, ho1, hb1⟩; have B1 : Hid (Below wB.heap.size wB w1) := Hj (Below.undrewW hb1); have O1 : Hid (OB w1 wB.heap.size (.slice (some ⟨wB.heap.size, 0, none⟩) 4 4) (num4 gen)) := Hj ho1; obtain ⟨x0, x2⟩ := K0.out w1 B1.out; clear ho1 hb1)
   | (go_at_call 148; (with_reducible refine (H3.out w1).mono ?_); rintro e w2 ⟨rfl, ho2, hb2⟩; have O2 := Hj ho2; have B2 := Hj (B1.out.trans (hb2.mono B1.out.size)); have O12 := Hj (O1.out.below hb2); obtain ⟨y0, y2⟩ := K0.out w2 B2.out; clear ho2 hb2)
   | (go_at_call 149; (with_reducible refine (H4.out w2 (HB.out.keep (Kz (B0.out.trans (B2.out.mono B0.out.size)))) (HT.out.keep (Kz (B0.out.trans (B2.out.mono B0.out.size))))).mono ?_); rintro e w4 ⟨q4, rfl, hr4, hq4, hb4⟩; have R4 := Hj hr4; have B4 := Hj (B2.out.trans (hb4.mono B2.out.size)); have O14 := Hj (O12.out.below hb4); have O24 := Hj (O2.out.below hb4); obtain ⟨z0, z2⟩ := K0.out w4 B4.out; have HCt := Hj (HCC.out w4 _ _ _ O14.out.sb O24.out.sb R4.out (HB.out.keep (Kz (B0.out.trans (B4.out.mono B0.out.size))))); clear hr4 hb4)
   | (go_at_call 124; (with_reducible refine HCt.out.mono ?_); rintro e w6 ⟨v6, rfl, ho6, hb6⟩; obtain ⟨u0, u2⟩ := K0.out w6 (B4.out.trans (hb6.mono B4.out.size)); have B6 := Hj (B0.out.trans ((B4.out.trans (hb6.mono B4.out.size)).mono B0.out.size)); have O6 := Hj (ho6.mono (B0.out.trans (B4.out.mono B0.out.size)).size); clear ho6 hb6))
 all_goals
  go_wp2
  go_ret
  exact ⟨_, rfl, O6.out, B6.out⟩
end Go.Proofs.YtfmagnpmjlppiaaGreatDoor

/- Layer 18 (wal): next. -/
namespace Go.Proofs.YtfmagnpmjlppiaaGreatDoor
open Go.RowKit

theorem RB.subW {w : World} {b o n : Nat} {l : List UInt8} (h : RB w (some ⟨b, o, none⟩) n l) (i k : Nat) (hk : i + k ≤ n) : RB w (some ⟨b, o + i, none⟩) k ((l.drop i).take k) := by
 have h1 := h.1
 refine ⟨by rw [List.length_take, List.length_drop]; omega, fun hp => ⟨b, o + i, rfl, fun j hj => ?_⟩⟩
 obtain ⟨b', o', e, hc⟩ := h.2 (by omega)
 injection e with e
 injection e with e1 e2
 subst e1; subst e2
 rw [Nat.add_assoc, hc (i + j) (by omega)]
 simp [List.getD_eq_getElem?_getD, hj, List.getElem?_drop]

/-- The text of the record at the front of b, where it stands there. -/
def nextB (b : List UInt8) (gen n : Nat) : Option (List UInt8) :=
 if b.length < 20 ∨ numAt b 0 ≠ gen ∨ numAt b 4 ≠ n then none
 else if 16384 < numAt b 8 ∨ b.length - 20 < numAt b 8 then none
 else if sumB gen n ((b.drop 20).take (numAt b 8)) = (b.drop 12).take 8 then some ((b.drop 20).take (numAt b 8)) else none

set_option maxHeartbeats 2000000 in
set_option maxRecDepth 100000 in
theorem next_any (gen n : Nat) (A : Option Addr) (m c : Nat) (l : List UInt8) (w : World) (hb : RB w A m l) (hmc : m ≤ c) (hc : c ≤ maxLen) (hg : gen < 4294967296) (hn : n < 4294967296) (hm : m ≤ 100000000) (ht : ShaTabs w) :
  Calls Tryz.prog 117 #[.slice A m c, .int .i64 (gen : Int), .int .i64 (n : Int)] w fun e w' => ∃ v ok, e = .returned (.tuple #[v, .bool ok]) ∧ Below w.heap.size w w' ∧ (∀ t, nextB l gen n = some t → ok = true ∧ ∃ A' c', v = .slice A' t.length c' ∧ t.length ≤ c' ∧ c' ≤ maxLen ∧ RB w A' t.length t) ∧ (nextB l gen n = none → ok = false) := by
 have HL := Hj hb.1
 by_cases h20 : m < 20
 ·have hN : nextB l gen n = none := by unfold nextB; rw [if_pos (.inl (by rw [hb.1]; exact h20))]
  rw [hN]
  have q : decide ((m : Int) < 20) = true := decide_eq_true (by omega)
  clear hb
  go_enter Tryz.func117, Tryz.ntmps117
  go_wp2
  go_ret2
  exact ⟨_, _, rfl, Below.refl _ _, (fun t e => by cases e), fun _ => rfl⟩
 obtain ⟨b, o, rfl, -⟩ := hb.2 (by omega)
 have q20 : decide ((m : Int) < 20) = false := decide_eq_false (by omega)
 have HB := Hj hb
 have N0 : Hid (∀ W : World, RB W (some ⟨b, o, none⟩) m l → Calls Tryz.prog 176 #[.slice (some ⟨b, o, none⟩) m c, .int .i64 0] W fun e w' => e = .returned (.int .i64 (numAt l 0 : Int)) ∧ ∃ k, w' = W.drewN k) := Hj fun W h => numbered_any _ m c 0 l W h (by omega) (by omega)
 have N4 : Hid (∀ W : World, RB W (some ⟨b, o, none⟩) m l → Calls Tryz.prog 176 #[.slice (some ⟨b, o, none⟩) m c, .int .i64 4] W fun e w' => e = .returned (.int .i64 (numAt l 4 : Int)) ∧ ∃ k, w' = W.drewN k) := Hj fun W h => numbered_any _ m c 4 l W h (by omega) (by omega)
 have N8 : Hid (∀ W : World, RB W (some ⟨b, o, none⟩) m l → Calls Tryz.prog 176 #[.slice (some ⟨b, o, none⟩) m c, .int .i64 8] W fun e w' => e = .returned (.int .i64 (numAt l 8 : Int)) ∧ ∃ k, w' = W.drewN k) := Hj fun W h => numbered_any _ m c 8 l W h (by omega) (by omega)
 have KD : Hid (∀ k, RB (w.drewN k) (some ⟨b, o, none⟩) m l) := Hj fun k => hb.keep (Keeps.drewN w k)
 obtain ⟨G, hG⟩ : ∃ G, G = numAt l 0 := ⟨_, rfl⟩
 obtain ⟨M, hM⟩ : ∃ M, M = numAt l 4 := ⟨_, rfl⟩
 obtain ⟨L, hL⟩ : ∃ L, L = numAt l 8 := ⟨_, rfl⟩
 have HN : Hid (nextB l gen n = if l.length < 20 ∨ G ≠ gen ∨ M ≠ n then none else if 16384 < L ∨ l.length - 20 < L then none else if sumB gen n ((l.drop 20).take L) = (l.drop 12).take 8 then some ((l.drop 20).take L) else none) := Hj (by rw [hG, hM, hL]; rfl)
 rw [← hG] at N0
 rw [← hM] at N4
 rw [← hL] at N8
 clear hG hM hL
 by_cases h0 : G ≠ gen
 ·have hN : nextB l gen n = none := by rw [HN.out, if_pos (.inr (.inl h0))]
  rw [hN]
  have q : ((G : Int) != (gen : Int)) = true := by rw [bne_iff_ne]; omega
  clear hb
  go_enter Tryz.func117, Tryz.ntmps117
  go_wp2_with (first
   | (go_at_call 176; (with_reducible refine (N0.out w HB.out).mono ?_); rintro e w1 ⟨rfl, k1, rfl⟩)
   | fail)
  go_ret2
  exact ⟨_, _, rfl, below_drewN (Below.refl _ _) _, (fun t e => by cases e), fun _ => rfl⟩
 replace h0 := Decidable.not_not.1 h0
 have q0 : ((G : Int) != (gen : Int)) = false := by rw [bne_eq_false_iff_eq]; omega
 by_cases h4 : M ≠ n
 ·have hN : nextB l gen n = none := by rw [HN.out, if_pos (.inr (.inr h4))]
  rw [hN]
  have q : ((M : Int) != (n : Int)) = true := by rw [bne_iff_ne]; omega
  clear hb
  go_enter Tryz.func117, Tryz.ntmps117
  go_wp2_with (first
   | (go_at_call 176; (with_reducible refine (N0.out w HB.out).mono ?_); rintro e w1 ⟨rfl, k1, rfl⟩)
   | (go_at_call 176; (with_reducible refine (N4.out _ (KD.out _)).mono ?_); rintro e w2 ⟨rfl, k2, rfl⟩)
   | fail)
  go_ret2
  exact ⟨_, _, rfl, below_drewN (Below.refl _ _) _, (fun t e => by cases e), fun _ => rfl⟩
 replace h4 := Decidable.not_not.1 h4
 have q4 : ((M : Int) != (n : Int)) = false := by rw [bne_eq_false_iff_eq]; omega
 have hf : ¬ (l.length < 20 ∨ G ≠ gen ∨ M ≠ n) := by rw [HL.out]; exact fun h => h.elim h20 fun h => h.elim (fun h => h h0) (fun h => h h4)
 have qn : ((m : Int) - 20) = ((m - 20 : Nat) : Int) := by omega
 by_cases h8 : 16384 < L
 ·have hN : nextB l gen n = none := by rw [HN.out, if_neg hf, if_pos (.inl h8)]
  rw [hN]
  have q : decide ((L : Int) > 16384) = true := decide_eq_true (by omega)
  have q' : decide (16384 < (L : Int)) = true := decide_eq_true (by omega)
  clear hb
  go_enter Tryz.func117, Tryz.ntmps117
  go_wp2_with (first
   | (go_at_call 176; (with_reducible refine (N0.out w HB.out).mono ?_); rintro e w1 ⟨rfl, k1, rfl⟩)
   | (go_at_call 176; (with_reducible refine (N4.out _ (KD.out _)).mono ?_); rintro e w2 ⟨rfl, k2, rfl⟩)
   | (go_at_call 176; (with_reducible refine (N8.out _ (KD.out _)).mono ?_); rintro e w3 ⟨rfl, k3, rfl⟩)
   | fail)
  go_ret2
  exact ⟨_, _, rfl, below_drewN (Below.refl _ _) _, (fun t e => by cases e), fun _ => rfl⟩
 have q8 : decide ((L : Int) > 16384) = false := decide_eq_false (by omega)
 have q8' : decide (16384 < (L : Int)) = false := decide_eq_false (by omega)
 by_cases h9 : m - 20 < L
 ·have hN : nextB l gen n = none := by rw [HN.out, if_neg hf, if_pos (.inr (by rw [HL.out]; exact h9))]
  rw [hN]
  have q : decide ((L : Int) > (m : Int) - 20) = true := decide_eq_true (by omega)
  have q' : decide ((m : Int) - 20 < (L : Int)) = true := decide_eq_true (by omega)
  clear hb
  go_enter Tryz.func117, Tryz.ntmps117
  go_wp2_with (first
   | (go_at_call 176; (with_reducible refine (N0.out w HB.out).mono ?_); rintro e w1 ⟨rfl, k1, rfl⟩)
   | (go_at_call 176; (with_reducible refine (N4.out _ (KD.out _)).mono ?_); rintro e w2 ⟨rfl, k2, rfl⟩)
   | (go_at_call 176; (with_reducible refine (N8.out _ (KD.out _)).mono ?_); rintro e w3 ⟨rfl, k3, rfl⟩)
   | fail)
  go_ret2
  exact ⟨_, _, rfl, below_drewN (Below.refl _ _) _, (fun t e => by cases e), fun _ => rfl⟩
 have q9 : decide ((L : Int) > (m : Int) - 20) = false := decide_eq_false (by omega)
 have q9' : decide ((m : Int) - 20 < (L : Int)) = false := decide_eq_false (by omega)
 have HS : Hid (∀ W : World, Below w.heap.size w W → Calls Tryz.prog 149 #[.int .i64 (gen : Int), .int .i64 (n : Int), .slice (some ⟨b, o + 20, none⟩) (L) (c - 20)] W fun e w' => ∃ q, e = .returned (.slice (some ⟨q, 0, none⟩) 8 32) ∧ RB w' (some ⟨q, 0, none⟩) 8 (sumB gen n ((l.drop 20).take (L))) ∧ W.heap.size ≤ q ∧ Below W.heap.size W w') := Hj fun W hW =>
  wsum_any gen n _ _ _ _ W ((HB.out.subW 20 _ (by omega)).keep (Kz hW)) (by omega) (by omega) hg hn (by omega) (ht.keep (Kz hW))
 have HE : Hid (∀ (W : World) (q d : Nat), Below w.heap.size w W → RB W (some ⟨q, 0, none⟩) 8 (sumB gen n ((l.drop 20).take (L))) → Calls Tryz.prog 177 #[.slice (some ⟨q, 0, none⟩) 8 32, .slice (some ⟨b, o + 12, none⟩) 8 d] W fun e w' => e = .returned (.bool (decide (sumB gen n ((l.drop 20).take (L)) = (l.drop 12).take 8))) ∧ ∃ k, w' = W.drewN k) := Hj fun W q d hW hq =>
  Equal_any _ _ 8 8 32 d W _ _ hq ((HB.out.subW 12 8 (by omega)).keep (Kz hW)) (by decide)
 have HX : Hid (nextB l gen n = if sumB gen n ((l.drop 20).take (L)) = (l.drop 12).take 8 then some ((l.drop 20).take (L)) else none) := Hj (by rw [HN.out, if_neg hf, if_neg (by rw [HL.out]; exact fun h => h.elim h8 h9)])
 have z1 : (20 : Int) ≤ (m : Int) := by omega
 have z2 : (m : Int) ≤ (c : Int) := by omega
 have z3 : (20 : Int) ≤ (c : Int) := by omega
 have z4 : (20 : Int) + (L : Int) ≤ (c : Int) := by omega
 have z5 : (20 : Int) ≤ 20 + (L : Int) := by omega
 have HR0 : Hid (L = 0 → RB w (some ⟨b, o, none⟩) L ((l.drop 20).take L)) := Hj fun e => by subst e; rw [List.take_zero]; exact RB.nil _ _
 have HS0 : Hid (L = 0 → ∀ W : World, Below w.heap.size w W → Calls Tryz.prog 149 #[.int .i64 (gen : Int), .int .i64 (n : Int), .slice (some ⟨b, o, none⟩) L 0] W fun e w' => ∃ q, e = .returned (.slice (some ⟨q, 0, none⟩) 8 32) ∧ RB w' (some ⟨q, 0, none⟩) 8 (sumB gen n ((l.drop 20).take L)) ∧ W.heap.size ≤ q ∧ Below W.heap.size W w') := Hj fun e W hW =>
  wsum_any gen n _ _ _ _ W ((HR0.out e).keep (Kz hW)) (by omega) (by omega) hg hn (by omega) (ht.keep (Kz hW))
 have HT := Hj (HB.out.subW 20 (L) (by omega))
 have HTl := Hj HT.out.1
 clear hf hb
 go_enter Tryz.func117, Tryz.ntmps117
 go_wp2_with (first
  | (go_at_call 176; (with_reducible refine (N0.out w HB.out).mono ?_); rintro e w1 ⟨rfl, k1, rfl⟩)
  | (go_at_call 176; (with_reducible refine (N4.out _ (KD.out _)).mono ?_); rintro e w2 ⟨rfl, k2, rfl⟩)
  | (go_at_call 176; (with_reducible refine (N8.out _ (KD.out _)).mono ?_); rintro e w3 ⟨rfl, k3, rfl⟩)
  | fail)
 all_goals
  obtain ⟨wB, hwB⟩ : ∃ W, W = w.drewN (k1 + k2 + k3) := ⟨_, rfl⟩
  rw [← hwB]
  have BB : Hid (Below w.heap.size w wB) := Hj (by rw [hwB]; exact below_drewN (Below.refl _ _) _)
  have BB1 : Hid (Below w.heap.size w wB.drew) := Hj ⟨BB.out.os, BB.out.tape, BB.out.output, BB.out.size, BB.out.block⟩
  clear hwB
  go_region_held3 (fun w' => True) (exact trivial)
   (first
    | (go_at_call 149; (first | (with_reducible refine (HS.out wB.drew BB1.out).mono ?_) | (with_reducible refine (HS0.out (by omega) wB.drew BB1.out).mono ?_)); rintro e w4 ⟨q4, rfl, hr4, hq4, hb4⟩; have B4 : Hid (Below w.heap.size w w4) := Hj (BB1.out.trans (hb4.mono BB1.out.size)); have R4 := Hj hr4; clear hr4 hb4 hq4)
    | (go_at_call 177; (with_reducible refine (HE.out w4 q4 _ B4.out R4.out).mono ?_); rintro e w5 ⟨rfl, k5, rfl⟩; have BX := below_drewN B4.out k5))
 all_goals
  go_wp2
  go_ret2
  refine ⟨_, _, rfl, BX, ?_⟩
  rw [HX.out]
  by_cases hq : sumB gen n ((l.drop 20).take L) = (l.drop 12).take 8
  ·rw [if_pos hq]
   refine ⟨fun t e => ?_, fun e => by cases e⟩
   injection e with e
   subst e
   first
    | exact ⟨decide_eq_true hq, _, _, by rw [HTl.out]; rfl, by rw [HTl.out]; omega, by omega, by rw [HTl.out]; exact HT.out⟩
    | exact ⟨decide_eq_true hq, _, _, by rw [HTl.out]; rfl, by rw [HTl.out]; omega, by omega, by rw [HTl.out]; exact HR0.out (by omega)⟩
  ·rw [if_neg hq]
   exact ⟨fun t e => (by cases e), fun _ => decide_eq_false hq⟩
end Go.Proofs.YtfmagnpmjlppiaaGreatDoor
