/- ShaConstants: the reference's cube roots, walked. -/
import Derived.Test.YtbpmigcbfbdnjaaDoorTabs
import Derived.Deep.LoopGhost
namespace Go.Proofs.YtbpmigcbfbdnjaaDoor
open Go.RowKit

/-- The cells of words of 64 bits. -/
def ucells (l : List Nat) : List Value := l.map fun (x : Nat) => Value.int .u64 (x : Int)
theorem ucells_length (l : List Nat) : (ucells l).length = l.length := by simp [ucells]
theorem ucells_get {l : List Nat} {k : Nat} (h : k < l.length) : (ucells l)[k]? = some (.int .u64 ((l.getD k 0 : Nat) : Int)) := by
  simp [ucells, h]
def B64 : Nat := 18446744073709551616
theorem wrap_u64_nat (a : Nat) : IntKind.u64.wrap (a : Int) = ((a % B64 : Nat) : Int) := by
  unfold B64
  simp [IntKind.wrap, IntKind.signed, IntKind.bits]

theorem mulw (a b : Int) (a' b' : Nat) (ha : a = (a' : Int)) (hb : b = (b' : Int)) : IntKind.u64.wrap (a * b) = ((a' * b' % B64 : Nat) : Int) := by
  rw [ha, hb, ← Int.natCast_mul, wrap_u64_nat]
theorem addw (a b : Int) (a' b' : Nat) (ha : a = (a' : Int)) (hb : b = (b' : Int)) : IntKind.u64.wrap (a + b) = (((a' + b') % B64 : Nat) : Int) := by
  rw [ha, hb, ← Int.natCast_add, wrap_u64_nat]
theorem tmod32 (a : Nat) : ((a : Int)).tmod 4294967296 = ((a % 4294967296 : Nat) : Int) := by
  rw [Int.tmod_eq_emod_of_nonneg (by omega)]; omega

/-- The reference's add: a number comes to a part, what is above 32 bits to the next ones. -/
def addG : Nat → List Nat → Nat → Nat → List Nat
  | 0, b, _, _ => b
  | k + 1, b, i, n => if n = 0 then b else addG k (b.set i ((b.getD i 0 + n % 4294967296) % B64 % 4294967296)) (i + 1) ((n / 4294967296 + (b.getD i 0 + n % 4294967296) % B64 / 4294967296) % B64)
def addF (b : List Nat) (i n : Nat) : List Nat := addG (5 - i) b i n
theorem addG_length : ∀ (k : Nat) (b : List Nat) (i n : Nat), (addG k b i n).length = b.length
  | 0, _, _, _ => rfl
  | k + 1, b, i, n => by
    rw [addG]
    split
    · rfl
    · rw [addG_length k, List.length_set]
theorem addF_length (b : List Nat) (i n : Nat) : (addF b i n).length = b.length := addG_length _ _ _ _

set_option maxRecDepth 100000 in
set_option maxHeartbeats 1000000 in
theorem add_any (g i n : Nat) (b : List Nat) (T : TypeId) (w : World) (hi : i ≤ 5) (hb : b.length = 5) (hrow : w.heap[g]? = some (.cells (ucells b).toArray T (0, 0))) :
    Calls Tryd.prog 79 #[.slice (some ⟨g, 0, none⟩) 5 5, .int .i64 (i : Int), .int .u64 (n : Int)] w fun e w' => e = .returned (.tuple #[]) ∧ Fr (· = g) w w' ∧ w'.heap[g]? = some (.cells (ucells (addF b i n)).toArray T (0, 0)) := by
  have HR := Lib.hid hrow
  have HB := Lib.hid hb
  clear hrow hb
  go_enter Tryd.func79, Tryd.ntmps79
  go_wp2_with fail
  go_loopg [1, 2] (5 - i) (fun k s1 s2 wr => ∃ (j m : Nat) (c : List Nat), s1 = .int .i64 (j : Int) ∧ s2 = .int .u64 (m : Int) ∧ j + k = 5 ∧ c.length = 5 ∧ addG k c j m = addF b i n ∧ Fr (· = g) w wr ∧ wr.heap[g]? = some (.cells (ucells c).toArray T (0, 0)))
  case atStart => exact ⟨i, n, b, rfl, rfl, by omega, HB.out, rfl, Fr.refl _ _, HR.out⟩
  case round =>
    obtain ⟨j, m, c, rfl, rfl, hjk, hc, hadd, hfr, hrow⟩ := hrel
    have Hadd := Lib.hid hadd
    have Hfr := Lib.hid hfr
    have Hrow := Lib.hid hrow
    have Hc := Lib.hid hc
    clear hadd hfr hrow hc
    by_cases hj : j < 5
    · by_cases hm : 0 < m
      · have hm' : decide (0 < (m : Int)) = true := decide_eq_true (by omega)
        have c0 : wr.cell? ⟨g, j, none⟩ = some (.int .u64 ((c.getD j 0 : Nat) : Int)) := by
          rw [cell_of_row _ _ _ _ _ _ Hrow.out, List.getElem?_toArray]; exact ucells_get (by rw [Hc.out]; exact hj)
        have f0 : wr.frozen? ⟨g, j, none⟩ = false := frozen_of_row _ _ _ _ _ Hrow.out
        have j0 : (0 : Int) ≤ (j : Int) := by omega
        have j1 : (j : Int) < 5 := by omega
        generalize hx : c.getD j 0 = x at *
        have Hx := Lib.hid hx
        clear hx
        go_wp2
        rw [addw (x : Int) ((m : Int) % 4294967296) x (m % 4294967296) rfl (by omega)]
        have Hlow : Hid (addG (gk - 1) (c.set j ((x + m % 4294967296) % B64 % 4294967296)) (j + 1) ((m / 4294967296 + (x + m % 4294967296) % B64 / 4294967296) % B64) = addF b i n) := by
          show _ = _
          rw [← Hadd.out]
          obtain ⟨k', hk'⟩ : ∃ k', gk = k' + 1 := ⟨gk - 1, by omega⟩
          rw [hk', Nat.add_sub_cancel, addG, if_neg (by omega), Hx.out]
        generalize (x + m % 4294967296) % B64 = low at *
        rw [tmod32, addw ((m : Int) / 4294967296) ((low : Int) / 4294967296) (m / 4294967296) (low / 4294967296) (by omega) (by omega)]
        go_roundg (gk - 1)
        case measure => omega
        case rel =>
          refine ⟨j + 1, _, c.set j (low % 4294967296), by go_num, rfl, by omega, by rw [List.length_set]; exact Hc.out, Hlow.out, Hfr.out.setCell (p := ⟨g, j, none⟩) (fun _ => rfl) _, ?_⟩
          refine (heap_setCell_same _ _ _ _ _ _ Hrow.out).trans ?_
          rw [List.setIfInBounds_toArray]
          simp [ucells, List.map_set]
      · have hm0 : m = 0 := by omega
        have Hm0 := Lib.hid hm0
        have hm' : decide (0 < (m : Int)) = false := decide_eq_false (by omega)
        clear hm0
        go_wp2
        go_end0
        refine ⟨rfl, Hfr.out, ?_⟩
        rw [← Hadd.out]
        obtain ⟨k', hk'⟩ : ∃ k', gk = k' + 1 := ⟨gk - 1, by omega⟩
        rw [hk', addG, if_pos Hm0.out]
        exact Hrow.out
    · obtain rfl : j = 5 := by omega
      have hg0 : gk = 0 := by omega
      have Hg0 := Lib.hid hg0
      clear hg0
      go_wp2
      go_end0
      refine ⟨rfl, Hfr.out, ?_⟩
      rw [← Hadd.out, Hg0.out, addG]
      exact Hrow.out

def partsF (x y : Nat) : List Nat :=
  addF (addF (addF (addF [0, 0, 0, 0, 0] 0 ((x % 4294967296) * (y % 4294967296) % B64)) 1 ((x % 4294967296) * (y / 4294967296) % B64)) 1 ((x / 4294967296) * (y % 4294967296) % B64)) 2 ((x / 4294967296) * (y / 4294967296) % B64)
theorem partsF_length (x y : Nat) : (partsF x y).length = 5 := by simp [partsF, addF_length]

set_option maxRecDepth 100000 in
set_option maxHeartbeats 1000000 in
theorem parts_any (x y : Nat) (w : World) :
    Calls Tryd.prog 78 #[.int .u64 (x : Int), .int .u64 (y : Int)] w fun e w' => e = .returned (.slice (some ⟨w.heap.size, 0, none⟩) 5 5) ∧ Below w.heap.size w w' ∧ w'.heap[w.heap.size]? = some (.cells (ucells (partsF x y)).toArray 62 (0, 0)) := by
  have H0 := Lib.hid (heap_alloc_new w (.cells (ucells [0, 0, 0, 0, 0]).toArray 62))
  go_enter Tryd.func78, Tryd.ntmps78
  go_wp2_with fail
  rw [mulw _ _ (x % 4294967296) (y % 4294967296) (by omega) (by omega)]
  refine (add_any w.heap.size 0 _ [0, 0, 0, 0, 0] _ _ (by omega) rfl H0.out).mono ?_
  rintro e w1 ⟨rfl, hf1, hr1⟩
  go_wp2_with fail
  rw [mulw _ _ (x % 4294967296) (y / 4294967296) (by omega) (by omega)]
  refine (add_any w.heap.size 1 _ _ _ _ (by omega) (by simp [addF_length]) hr1).mono ?_
  rintro e w2 ⟨rfl, hf2, hr2⟩
  go_wp2_with fail
  rw [mulw _ _ (x / 4294967296) (y % 4294967296) (by omega) (by omega)]
  refine (add_any w.heap.size 1 _ _ _ _ (by omega) (by simp [addF_length]) hr2).mono ?_
  rintro e w3 ⟨rfl, hf3, hr3⟩
  go_wp2_with fail
  rw [mulw _ _ (x / 4294967296) (y / 4294967296) (by omega) (by omega)]
  refine (add_any w.heap.size 2 _ _ _ _ (by omega) (by simp [addF_length]) hr3).mono ?_
  rintro e w4 ⟨rfl, hf4, hr4⟩
  go_wp2_with fail
  go_ret
  have hf := ((hf1.trans hf2 (fun _ _ h => h)).trans hf3 (fun _ _ h => h)).trans hf4 (fun _ _ h => h)
  have hb : Below w.heap.size w (w.alloc (.cells (ucells [0, 0, 0, 0, 0]).toArray 62)) := (Below.refl _ w).alloc (Nat.le_refl _) _
  exact ⟨rfl, hb.trans (hf.below hb.size (fun i _ e => by omega)), hr4⟩

/-- The cube, k parts of it added up. -/
def cubeK (y : Nat) : Nat → List Nat
  | 0 => [0, 0, 0, 0, 0]
  | k + 1 => addF (addF (cubeK y k) k ((partsF y y).getD k 0 * (y % 4294967296) % B64)) (k + 1) ((partsF y y).getD k 0 * (y / 4294967296) % B64)
theorem cubeK_length (y : Nat) : ∀ k, (cubeK y k).length = 5
  | 0 => rfl
  | k + 1 => by rw [cubeK, addF_length, addF_length, cubeK_length y k]
def aboveC (l : List Nat) (p : Nat) : Bool :=
  decide (0 < l.getD 4 0) || decide (p < l.getD 3 0) || (decide (l.getD 3 0 = p) && (decide (0 < l.getD 0 0) || decide (0 < l.getD 1 0) || decide (0 < l.getD 2 0)))
def aboveF (y p : Nat) : Bool := aboveC (cubeK y 3) p

set_option maxRecDepth 100000 in
set_option maxHeartbeats 2000000 in
theorem above_any (y p : Nat) (w : World) :
    Calls Tryd.prog 72 #[.int .u64 (y : Int), .int .u64 (p : Int)] w fun e w' => e = .returned (.bool (aboveF y p)) ∧ Below w.heap.size w w' := by
  go_enter Tryd.func72, Tryd.ntmps72
  go_wp2_with fail
  refine (parts_any y y w).mono ?_
  rintro e w1 ⟨rfl, hb1, hr1⟩
  have Hb1 := Lib.hid hb1
  have Hr1 := Lib.hid hr1
  have Hlt := Lib.hid (Array.getElem?_eq_some_iff.1 hr1).1
  have H0 := Lib.hid (heap_alloc_new w1 (.cells (ucells [0, 0, 0, 0, 0]).toArray 62))
  clear hb1 hr1
  go_wp2_with fail
  go_loopg [9] 3 (fun k s9 wr => ∃ (i : Nat), s9 = .int .i64 (i : Int) ∧ i + k = 3 ∧ Fr (· = w1.heap.size) (w1.alloc (.cells (ucells [0, 0, 0, 0, 0]).toArray 62)) wr ∧ wr.heap[w1.heap.size]? = some (.cells (ucells (cubeK y i)).toArray 62 (0, 0)))
  case atStart => exact ⟨0, rfl, rfl, Fr.refl _ _, H0.out⟩
  case round =>
    obtain ⟨i, rfl, hik, hfr, hrow⟩ := hrel
    have Hfr := Lib.hid hfr
    have Hrow := Lib.hid hrow
    have Hrp := Lib.hid ((hfr.block w.heap.size (by have := Hlt.out; simp; omega) (by have := Hlt.out; omega)).trans ((Below.heap_alloc w1 _ _ Hlt.out).trans Hr1.out))
    clear hfr hrow
    by_cases hi : i < 3
    · have ca : ∀ W : World, W.heap[w.heap.size]? = some (.cells (ucells (partsF y y)).toArray 62 (0, 0)) → W.cell? ⟨w.heap.size, i, none⟩ = some (.int .u64 (((partsF y y).getD i 0 : Nat) : Int)) := fun W hW => by
        rw [cell_of_row _ _ _ _ _ _ hW, List.getElem?_toArray]; exact ucells_get (by rw [partsF_length]; omega)
      have c0 := ca wr Hrp.out
      have Hca := Lib.hid ca
      clear ca
      have HC := Lib.hid (show cubeK y (i + 1) = addF (addF (cubeK y i) i ((partsF y y).getD i 0 * (y % 4294967296) % B64)) (i + 1) ((partsF y y).getD i 0 * (y / 4294967296) % B64) from rfl)
      generalize (partsF y y).getD i 0 = a at *
      have i0 : (0 : Int) ≤ (i : Int) := by omega
      have i1 : (i : Int) < 5 := by omega
      go_wp2_with fail
      rw [mulw _ _ a (y % 4294967296) rfl (by omega)]
      refine (add_any w1.heap.size i _ _ _ _ (by omega) (cubeK_length y i) Hrow.out).mono ?_
      rintro e w2 ⟨rfl, hf2, hr2⟩
      have c1 := Hca.out w2 ((hf2.block w.heap.size (Array.getElem?_eq_some_iff.1 Hrp.out).1 (by have := Hlt.out; omega)).trans Hrp.out)
      have Hf2 := Lib.hid hf2
      have Hr2 := Lib.hid hr2
      clear hf2 hr2 c0
      go_wp2_with fail
      rw [mulw _ _ a (y / 4294967296) rfl (by omega)]
      refine (add_any w1.heap.size (i + 1) _ _ _ _ (by omega) (by rw [addF_length]; exact cubeK_length y i) Hr2.out).mono ?_
      rintro e w3 ⟨rfl, hf3, hr3⟩
      have Hf3 := Lib.hid hf3
      have Hr3 := Lib.hid hr3
      clear hf3 hr3 c1
      go_wp2
      go_roundg (gk - 1)
      case measure => omega
      case rel => exact ⟨i + 1, by go_num, by omega, (Hfr.out.trans Hf2.out (fun _ _ h => h)).trans Hf3.out (fun _ _ h => h), by rw [HC.out]; exact Hr3.out⟩
    · obtain rfl : i = 3 := by omega
      have hc : ∀ k, k < 5 → wr.cell? ⟨w1.heap.size, k, none⟩ = some (.int .u64 (((cubeK y 3).getD k 0 : Nat) : Int)) := fun k hk => by
        rw [cell_of_row _ _ _ _ _ _ Hrow.out, List.getElem?_toArray]; exact ucells_get (by rw [cubeK_length]; omega)
      have c0 := hc 0 (by omega)
      have c1 := hc 1 (by omega)
      have c2 := hc 2 (by omega)
      have c3 := hc 3 (by omega)
      have c4 := hc 4 (by omega)
      have hF : aboveF y p = (decide (0 < (cubeK y 3).getD 4 0) || decide (p < (cubeK y 3).getD 3 0) || (decide ((cubeK y 3).getD 3 0 = p) && (decide (0 < (cubeK y 3).getD 0 0) || decide (0 < (cubeK y 3).getD 1 0) || decide (0 < (cubeK y 3).getD 2 0)))) := rfl
      have Hbel : Hid (Below w.heap.size w wr) := by
        have h1 := Hb1.out.alloc Hb1.out.size (.cells (ucells [0, 0, 0, 0, 0]).toArray 62)
        exact h1.trans (Hfr.out.below h1.size (fun i _ e => by have := Hlt.out; omega))
      clear hc
      generalize (cubeK y 3).getD 0 0 = x0 at *
      generalize (cubeK y 3).getD 1 0 = x1 at *
      generalize (cubeK y 3).getD 2 0 = x2 at *
      generalize (cubeK y 3).getD 3 0 = x3 at *
      generalize (cubeK y 3).getD 4 0 = x4 at *
      have HF := Lib.hid hF
      clear hF
      by_cases h4 : 0 < x4
      · have k4 : decide (0 < (x4 : Int)) = true := decide_eq_true (by omega)
        go_wp2
        go_ret
        exact ⟨ret_bool (by rw [HF.out]; simp [h4]), Hbel.out⟩
      have k4 : decide (0 < (x4 : Int)) = false := decide_eq_false (by omega)
      by_cases h3 : p < x3
      · have k3 : decide ((p : Int) < (x3 : Int)) = true := decide_eq_true (by omega)
        go_wp2
        go_ret
        exact ⟨ret_bool (by rw [HF.out]; simp [h3]), Hbel.out⟩
      have k3 : decide ((p : Int) < (x3 : Int)) = false := decide_eq_false (by omega)
      by_cases h5 : x3 = p
      · have k5 : ((x3 : Int) == (p : Int)) = true := by simp; omega
        have H5 := Lib.hid h5
        clear h5
        by_cases h0 : 0 < x0
        · have k0 : decide (0 < (x0 : Int)) = true := decide_eq_true (by omega)
          go_wp2
          go_ret
          exact ⟨ret_bool (by rw [HF.out]; simp [h0, H5.out]), Hbel.out⟩
        have k0 : decide (0 < (x0 : Int)) = false := decide_eq_false (by omega)
        by_cases h1 : 0 < x1
        · have k1 : decide (0 < (x1 : Int)) = true := decide_eq_true (by omega)
          go_wp2
          go_ret
          exact ⟨ret_bool (by rw [HF.out]; simp [h1, H5.out]), Hbel.out⟩
        have k1 : decide (0 < (x1 : Int)) = false := decide_eq_false (by omega)
        by_cases h2 : 0 < x2
        · have k2 : decide (0 < (x2 : Int)) = true := decide_eq_true (by omega)
          go_wp2
          go_ret
          exact ⟨ret_bool (by rw [HF.out]; simp [h2, H5.out]), Hbel.out⟩
        have k2 : decide (0 < (x2 : Int)) = false := decide_eq_false (by omega)
        go_wp2
        go_ret
        exact ⟨ret_bool (by rw [HF.out]; simp [h0, h1, h2, h3, h4]), Hbel.out⟩
      · have k5 : ((x3 : Int) == (p : Int)) = false := by simp; omega
        go_wp2
        go_ret
        exact ⟨ret_bool (by rw [HF.out]; simp [h3, h4, h5]), Hbel.out⟩

def rootK (p : Nat) : Nat → Nat
  | 0 => 0
  | k + 1 => if aboveF ((rootK p k + 2 ^ (34 - k)) % B64) p then rootK p k else (rootK p k + 2 ^ (34 - k)) % B64
def rootF (p : Nat) : Nat := rootK p 35 % 4294967296

set_option maxRecDepth 100000 in
set_option maxHeartbeats 2000000 in
theorem root_any (p : Nat) (w : World) (hp : p ≤ 1000) :
    Calls Tryd.prog 56 #[.int .i64 (p : Int)] w fun e w' => e = .returned (.int .i64 (rootF p : Int)) ∧ Below w.heap.size w w' := by
  go_enter Tryd.func56, Tryd.ntmps56
  go_wp2_with fail
  go_loopg [3, 4] 35 (fun k s3 s4 wr => ∃ (i : Nat), s3 = .int .u64 (rootK p i : Int) ∧ s4 = .int .i64 (34 - (i : Int)) ∧ i + k = 35 ∧ Below w.heap.size w wr)
  case atStart => exact ⟨0, rfl, rfl, rfl, Below.refl _ _⟩
  case round =>
    obtain ⟨i, rfl, rfl, hik, hbel⟩ := hrel
    have Hbel := Lib.hid hbel
    clear hbel
    by_cases hi : i < 35
    · have n0 : (0 : Int) ≤ 34 - (i : Int) := by omega
      have n1 : 34 - (i : Int) < 64 := by omega
      have HK := Lib.hid (show rootK p (i + 1) = if aboveF ((rootK p i + 2 ^ (34 - i)) % B64) p then rootK p i else (rootK p i + 2 ^ (34 - i)) % B64 from rfl)
      generalize rootK p i = x at *
      go_wp2_with fail
      rw [show IntKind.u64.wrap ((2 : Int) ^ (34 - i)) = ((2 ^ (34 - i) : Nat) : Int) by
        rw [show ((2 : Int) ^ (34 - i)) = ((2 ^ (34 - i) : Nat) : Int) by rw [Int.natCast_pow]; rfl, wrap_u64_nat]
        have : 2 ^ (34 - i) ≤ 2 ^ 34 := Nat.pow_le_pow_right (by omega) (by omega)
        rw [Nat.mod_eq_of_lt (by unfold B64; omega)], addw _ _ x (2 ^ (34 - i)) rfl rfl]
      generalize (x + 2 ^ (34 - i)) % B64 = z at *
      refine (above_any z p wr).mono ?_
      rintro e w2 ⟨rfl, hb2⟩
      have Hb2 := Lib.hid (Hbel.out.trans (hb2.mono Hbel.out.size))
      clear hb2
      cases hab : aboveF z p with
      | true =>
        rw [hab, if_pos rfl] at HK
        go_wp2
        go_roundg (gk - 1)
        case measure => omega
        case rel => exact ⟨i + 1, by rw [HK.out], by go_num, by omega, Hb2.out⟩
      | false =>
        rw [hab, if_neg (by decide)] at HK
        go_wp2
        go_roundg (gk - 1)
        case measure => omega
        case rel => exact ⟨i + 1, by rw [HK.out], by go_num, by omega, Hb2.out⟩
    · obtain rfl : i = 35 := by omega
      have HF := Lib.hid (show rootF p = rootK p 35 % 4294967296 from rfl)
      generalize rootK p 35 = x at *
      go_wp2
      go_ret
      exact ⟨by rw [HF.out]; rfl, Hbel.out⟩
end Go.Proofs.YtbpmigcbfbdnjaaDoor
