/- sha.Hash.Sum -/
import Derived.Test.YtfmagnpmjlppiaaGreatDoorSha
namespace Go.Proofs.YtfmagnpmjlppiaaGreatDoor
open Go.RowKit

def padZ (r : Nat) : Nat := (64 - (r + 9) % 64) % 64
def lenBytes (n : Nat) : List UInt8 := (List.range 8).map fun i => UInt8.ofNat (n / 2 ^ (8 * (7 - i)))
def padOf (r cnt : Nat) : List UInt8 := (128 :: List.replicate (padZ r) 0) ++ lenBytes (cnt * 8)
def b4 (x : UInt32) : List UInt8 := [(x >>> 24).toUInt8, (x >>> 16).toUInt8, (x >>> 8).toUInt8, x.toUInt8]
def digest (s : W8) : List UInt8 := s.list.flatMap b4
theorem digest_length (s : W8) : (digest s).length = 32 := by simp [digest, W8.list, b4]

theorem HashAt.below {w w' : World} {B g : Nat} {ro : Option Nat} {s : W8} {rest : List UInt8} {n : Nat} (h : HashAt w B g ro s rest n) (hf : Below w.heap.size w w') : HashAt w' B g ro s rest n :=
 h.kept (Fr.of_below (S := fun _ => False) hf) (fun x => x) fun _ _ x => x

/-- The bytes of the first k words, and noughts. -/
def outC (x : Nat → UInt32) (k : Nat) : List UInt8 := (List.range 8).flatMap fun i => if i < k then b4 (x i) else [0, 0, 0, 0]
theorem run_index_words {w : World} (cs : Array Value) (i : Int) (v : Value) (h0 : 0 ≤ i) (hn : i < 8) (hv : cs[i.toNat]? = some v) :
  (Instr.index 298 (.agg cs) (.int .i64 i)).run Tryz.prog w = .ok v w := by
 have h1 : ∀ W, (sizeOf 296).run Tryz.prog W = .ok 1 W := fun W => by kernel_rfl
 have h2 : ∀ W, (isAgg 296).run Tryz.prog W = .ok false W := fun W => by kernel_rfl
 simp [Instr.index, run_underlying (Tryz.underlying298), asIntOf, h0, hn, hv, h1, h2, go_sem]
theorem outC_length (x : Nat → UInt32) (k : Nat) : (outC x k).length = 32 := by
 simp only [outC, List.length_flatMap]
 have : ∀ i, (if i < k then b4 (x i) else [0, 0, 0, 0]).length = 4 := fun i => by split <;> rfl
 simp only [this]
 rfl
theorem outC_cell {w : World} {g : Nat} {x : Nat → UInt32} {k : Nat} {T : TypeId} (h : w.heap[g]? = some (.cells (bcells (outC x k)).toArray T (0, 0))) (j : Nat) (hj : j < 32) : w.cell? ⟨g, j, none⟩ = some (.int .u8 (((outC x k).getD j 0).toNat : Int)) := by
 rw [cell_of_row _ _ _ _ _ _ h]
 have := outC_length x k
 simp [bcells, this, hj]
theorem b4_cells (x : UInt32) : bcells (b4 x) = [Value.int .u8 ((x.toNat : Int) / 16777216 % 256), Value.int .u8 ((x.toNat : Int) / 65536 % 256), Value.int .u8 ((x.toNat : Int) / 256 % 256), Value.int .u8 ((x.toNat : Int) % 256)] := by
 simp [bcells, b4, Nat.shiftRight_eq_div_pow]
theorem outC_list (x : Nat → UInt32) (i : Nat) (hi : i < 8) (v0 v1 v2 v3 : Value) (hb : bcells (b4 (x i)) = [v0, v1, v2, v3]) :
  ((((bcells (outC x i)).set (4 * i) v0).set (4 * i + 1) v1).set (4 * i + 2) v2).set (4 * i + 3) v3 = bcells (outC x (i + 1)) := by
 simp only [b4, bcells, List.map_cons, List.map_nil] at hb
 injection hb with e0 hb
 injection hb with e1 hb
 injection hb with e2 hb
 injection hb with e3 hb
 subst e0; subst e1; subst e2; subst e3
 have hcases : i = 0 ∨ i = 1 ∨ i = 2 ∨ i = 3 ∨ i = 4 ∨ i = 5 ∨ i = 6 ∨ i = 7 := by omega
 rcases hcases with rfl | rfl | rfl | rfl | rfl | rfl | rfl | rfl <;> rfl
theorem outC_step {w : World} {g : Nat} {x : Nat → UInt32} {i : Nat} {T : TypeId} (h : w.heap[g]? = some (.cells (bcells (outC x i)).toArray T (0, 0))) (hi : i < 8) :
  ((((w.setCell ⟨g, 4 * i, none⟩ (.int .u8 (((x i).toNat : Int) / 16777216 % 256))).setCell ⟨g, 4 * i + 1, none⟩ (.int .u8 (((x i).toNat : Int) / 65536 % 256))).setCell ⟨g, 4 * i + 2, none⟩ (.int .u8 (((x i).toNat : Int) / 256 % 256))).setCell ⟨g, 4 * i + 3, none⟩ (.int .u8 (((x i).toNat : Int) % 256))).heap[g]? =
   some (.cells (bcells (outC x (i + 1))).toArray T (0, 0)) := by
 have hb := b4_cells (x i)
 generalize Value.int .u8 (((x i).toNat : Int) / 16777216 % 256) = v0 at *
 generalize Value.int .u8 (((x i).toNat : Int) / 65536 % 256) = v1 at *
 generalize Value.int .u8 (((x i).toNat : Int) / 256 % 256) = v2 at *
 generalize Value.int .u8 (((x i).toNat : Int) % 256) = v3 at *
 rw [heap_setCell_same _ _ _ _ _ _ (heap_setCell_same _ _ _ _ _ _ (heap_setCell_same _ _ _ _ _ _ (heap_setCell_same _ _ _ _ _ _ h)))]
 refine congrArg (fun a => some (Obj.cells a T (0, 0))) ?_
 simp only [List.setIfInBounds_toArray]
 exact congrArg List.toArray (outC_list x i hi v0 v1 v2 v3 hb)
theorem outC_all (S : W8) : outC (fun i => S.list[i]?.getD 0) 8 = digest S := by rfl
theorem info_32 : (Tryz.prog.info? 259).map (·.size) = some 32 := by kernel_rfl
theorem lenBytes_at (n i : Nat) (h : i < 8) : (lenBytes n).getD i 0 = UInt8.ofNat (n / 2 ^ (8 * (7 - i))) := by simp [lenBytes, h]
theorem lenBytes_take (n i : Nat) (h : i < 8) : (lenBytes n).take (i + 1) = (lenBytes n).take i ++ [UInt8.ofNat (n / 2 ^ (8 * (7 - i)))] := by
 have hl : (lenBytes n).length = 8 := by simp [lenBytes]
 rw [← lenBytes_at n i h, List.take_succ_eq_append_getElem (by omega), List.getD_eq_getElem?_getD, List.getElem?_eq_getElem (by omega)]
 rfl
theorem lenByte_cell (n i : Nat) : bcells [UInt8.ofNat (n / 2 ^ (8 * (7 - i)))] = [Value.int .u8 ((n : Int) / 2 ^ (8 * (7 - i)) % 256)] := by
 simp [bcells]

theorem pad_test (r j : Nat) (hr : r ≤ 549755813888) (hj : j ≤ padZ r) : ((wrap64 (wrap64 ((r : Int) + ((j : Int) + 1)) + 8)).tmod 64 != 0) = decide (j < padZ r) := by
 unfold padZ at *
 have e1 : wrap64 ((r : Int) + ((j : Int) + 1)) = (r : Int) + ((j : Int) + 1) := IntWalk.wrap64_in _ (by omega)
 have e2 : wrap64 ((r : Int) + ((j : Int) + 1) + 8) = (r : Int) + ((j : Int) + 1) + 8 := IntWalk.wrap64_in _ (by omega)
 rw [e1, e2, Int.tmod_eq_emod_of_nonneg (by omega)]
 by_cases h : j < (64 - (r + 9) % 64) % 64
 ·rw [decide_eq_true h]
  simp
  omega
 ·rw [decide_eq_false h]
  simp
  omega

set_option maxHeartbeats 1000000 in
set_option maxRecDepth 100000 in
theorem HashSum_any (g B cnt : Nat) (ro : Option Nat) (K : Nat → UInt32) (s : W8) (rest : List UInt8) (w : World) (hh : HashAt w B g ro s rest cnt) (hK : KCells w K) (hKB : 30 < w.heap.size)
  (hlen : rest.length ≤ 549755813888) (hcnt : cnt ≤ 549755813888) :
  Calls Tryz.prog 220 #[.pointer (some ⟨g, 0, none⟩)] w fun e w' => e = .returned (.agg (bcells (digest (blocks K s (rest ++ padOf rest.length cnt)).1)).toArray) ∧ Below w.heap.size w w' := by
 have Hh := Hj hh
 have HK := Hj hK
 clear hh hK
 obtain ⟨r, hr⟩ : ∃ r, rest.length = r := ⟨_, rfl⟩
 have Hr := Hj hr
 rw [hr] at hlen
 clear hr
 go_enter Tryz.func220, Tryz.ntmps220
 go_wp2_with (first
  | (go_at_call 238; refine (Copy_any g B cnt ro s rest _ (Hh.out.below ((Below.refl _ w).alloc Kj _)) (by rw [Hr.out]; omega)).mono ?_; rintro e w1 ⟨g1, ro1, rfl, hh1, hbel1⟩)
  | fail)
 obtain ⟨hlow1, rv1, hc1, hown1, hro1⟩ := hh1
 obtain ⟨A1, cap1, hv1, _, _, hrb1⟩ := hown1.form
 subst hv1
 rw [Hr.out] at hc1
 have hg1 := (Cz hc1)
 have Hh1 := Hj (show HashAt w1 (w.alloc (.cells (Array.replicate 32 (.int .u8 0)) 259)).heap.size g1 ro1 s rest cnt from ⟨hlow1, _, by rw [Hr.out]; exact hc1, hown1, hro1⟩)
 have Hc1 := Hj hc1
 have Hbel1 := Hj hbel1
 clear hc1 hown1 hrb1 hbel1
 have HK1 : Hid (KCells w1 K) := HK.out.keep (Keeps.trans (Kz ((Below.refl _ w).alloc Kj _)) (Kz Hbel1.out))
 go_loopg [4] (padZ r) (fun k s4 wr => ∃ A cap j, s4 = .slice A (j + 1) cap ∧ OB wr w1.heap.size (.slice A (j + 1) cap) (128 :: List.replicate j 0) ∧ j + k = padZ r ∧ Below w1.heap.size w1 wr)
 case atStart =>
  refine ⟨_, _, 0, rfl, ?_, by omega, (Below.refl _ w1).alloc Kj _⟩
  exact OB.lit w1 w1.heap.size Kj [128] 1 rfl (by decide)
 case round =>
  obtain ⟨A, cap, j, rfl, hown, hjk, hbel⟩ := hrel
  have c8 := (cells8 ((hbel.block g1 hg1).trans Hc1.out)).1
  have c9 := (cells8 ((hbel.block g1 hg1).trans Hc1.out)).2.1
  have Hown := Hj hown
  have Hbel := Hj hbel
  clear hown hbel
  by_cases hj : j < padZ r
  ·have ht : ((wrap64 (wrap64 ((r : Int) + ((j : Int) + 1)) + 8)).tmod 64 != 0) = true := by rw [pad_test r j hlen (Nat.le_of_lt hj)]; exact decide_eq_true hj
   go_wp2_with (first
    | (at_builtin; refine wpList_append_b rfl (.tmp 24) (.tmp 25) 24 rfl (OB.alloc Hown.out _) rfl (Src.lit wr _ [0] rfl 1 1 rfl) rfl ?_ ?_ ?_; rotate_right; intro v2 w2 hown2 hgr2 hat2; obtain ⟨A2, cap2, hv2, hc2, hm2, hr2⟩ := hown2.form; subst hv2)
    | fail)
   case refine_1 => unfold padZ at hj; simp; omega
   case refine_2 => have := Hbel.out.size; simp; omega
   go_roundg (gk - 1)
   case measure => omega
   case rel =>
    have hl : (128 :: List.replicate j (0 : UInt8)) ++ [0] = 128 :: List.replicate (j + 1) 0 := by rw [List.replicate_succ', List.cons_append]
    rw [hl] at hown2
    rw [show (128 :: List.replicate (j + 1) (0 : UInt8)).length = j + 1 + 1 by simp] at hown2
    exact ⟨A2, cap2, j + 1, rfl, hown2, by omega, below_append (Hbel.out.alloc Hbel.out.size _) hgr2 (Hown.out.alloc _) Kj (by have := Hbel.out.size; simp; omega)⟩
  ·have ht : ((wrap64 (wrap64 ((r : Int) + ((j : Int) + 1)) + 8)).tmod 64 != 0) = false := by rw [pad_test r j hlen (by omega)]; exact decide_eq_false hj
   obtain rfl : j = padZ r := by omega
   have h8 : IntKind.u64.wrap ((cnt : Int) * 8) = (cnt : Int) * 8 := by rw [IntWalk.u64_in _ (by omega)]
   go_wp2
   clear ht
   obtain ⟨L, hL⟩ : ∃ L : Nat → List UInt8, L = fun i => (128 :: List.replicate (padZ r) 0) ++ (lenBytes (cnt * 8)).take i := ⟨_, rfl⟩
   have HL := Hj hL
   have HLen : Hid (∀ i, i ≤ 8 → (L i).length = padZ r + 1 + i) := by intro i hi; rw [HL.out]; simp [lenBytes]; omega
   clear hL
   go_loopg [4, 33] 8 (fun k s4 s33 wr => ∃ A cap i, s4 = .slice A (padZ r + 1 + i) cap ∧ s33 = .int .i64 (i : Int) ∧ OB wr w1.heap.size (.slice A (padZ r + 1 + i) cap) (L i) ∧ i + k = 8 ∧ Below w1.heap.size w1 wr)
   case atStart => exact ⟨A, cap, 0, rfl, rfl, by rw [HL.out]; simpa using Hown.out, by omega, Hbel.out⟩
   case round =>
    obtain ⟨A', cap', i, rfl, rfl, hown, hik, hbel⟩ := hrel
    have Hown3 := Hj hown
    have Hbel3 := Hj hbel
    clear hown hbel c8 c9
    by_cases hi : i < 8
    ·have m1 : IntKind.i64.wrap (7 - (i : Int)) = 7 - (i : Int) := IntWalk.i64_in _ (by omega)
     have m2 : IntKind.i64.wrap (8 * (7 - (i : Int))) = 8 * (7 - (i : Int)) := IntWalk.i64_in _ (by omega)
     have n0 : (0 : Int) ≤ 8 * (7 - (i : Int)) := by omega
     have n1 : 8 * (7 - (i : Int)) < 64 := by omega
     have hlb := Hj (lenByte_cell (cnt * 8) i)
     go_wp2_with (first
      | (at_builtin; refine wpList_append_b rfl (.tmp 36) (.tmp 43) 24 rfl (OB.alloc Hown3.out _) rfl (Src.lit wr _ [UInt8.ofNat (cnt * 8 / 2 ^ (8 * (7 - i)))] ?_ 1 1 rfl) rfl ?_ ?_ ?_; rotate_right; intro v2 w2 hown2 hgr2 hat2; rw [show L i ++ [UInt8.ofNat (cnt * 8 / 2 ^ (8 * (7 - i)))] = L (i + 1) by rw [HL.out]; simp only []; rw [lenBytes_take _ _ hi, List.append_assoc]] at hown2; obtain ⟨A2, cap2, hv2, hc2, hm2, hr2⟩ := hown2.form; rw [HLen.out _ (by omega)] at hv2; subst hv2)
      | fail)
     case refine_1 => rw [lenByte_cell]; simp
     case refine_2 => rw [HLen.out i (by omega)]; unfold padZ; simp; omega
     case refine_3 => have := Hbel3.out.size; simp; omega
     go_roundg (gk - 1)
     case measure => omega
     case rel => exact ⟨A2, cap2, i + 1, rfl, by go_num, hown2, by omega, below_append (Hbel3.out.alloc Hbel3.out.size _) hgr2 (Hown3.out.alloc _) Kj (by have := Hbel3.out.size; simp; omega)⟩
    ·obtain rfl : i = 8 := by omega
     have hrb : RB wr A' (padZ r + 1 + 8) (L 8) := by
      obtain ⟨A3, cap3, hv3, _, _, hrb3⟩ := Hown3.out.form
      injection hv3 with e1 e2 e3
      subst e1
      rw [HLen.out 8 (by omega)] at hrb3
      exact hrb3
     have Hrb := Hj hrb
     have Hh3 := Hj (Hh1.out.below Hbel3.out)
     have HK3 : Hid (KCells wr K) := HK1.out.keep (Kz Hbel3.out)
     have hLl := HLen.out 8 (by omega)
     have hz9 : padZ r ≤ 64 := by unfold padZ; omega
     clear hrb
     go_wp2_with (first
      | (go_at_call 219; refine (Write_any g1 _ cap' _ A' ro1 K s rest (L 8) cnt wr Hh3.out Hrb.out HK3.out (by simp; omega) (by rw [Hr.out, hLl]; omega) (by rw [hLl]; omega)).mono ?_; rintro e w2 ⟨rfl, hfr2, ro2, hh2, hro2⟩; generalize hS : (blocks K s (rest ++ L 8)).1 = S at *; have HS := Hj hS; clear hS; have Hfr2 := Hj hfr2; have Hh2 := Hj hh2; have Hro2 := Hj hro2; obtain ⟨hlow2, rv2, hc2, hown2, hrv2⟩ := hh2; clear hfr2 hro2 hown2 hrv2 hlow2; have hc3 : ∀ o, (w2.alloc o).heap[g1]? = _ := fun o => (Below.heap_alloc w2 o g1 (Cz hc2)).trans hc2; have c0 := fun o => w32_at (hc3 o) 0 (by omega); have c1 := fun o => w32_at (hc3 o) 1 (by omega); have c2 := fun o => w32_at (hc3 o) 2 (by omega); have c3 := fun o => w32_at (hc3 o) 3 (by omega); have c4 := fun o => w32_at (hc3 o) 4 (by omega); have c5 := fun o => w32_at (hc3 o) 5 (by omega); have c6 := fun o => w32_at (hc3 o) 6 (by omega); have c7 := fun o => w32_at (hc3 o) 7 (by omega); clear hc2 hc3)
      | fail)
     obtain ⟨x, hx⟩ : ∃ x : Nat → UInt32, x = fun i => S.list[i]?.getD 0 := ⟨_, rfl⟩
     have Hx := Hj hx
     rw [show S.list[0]?.getD 0 = x 0 by rw [hx], show S.list[1]?.getD 0 = x 1 by rw [hx], show S.list[2]?.getD 0 = x 2 by rw [hx], show S.list[3]?.getD 0 = x 3 by rw [hx], show S.list[4]?.getD 0 = x 4 by rw [hx], show S.list[5]?.getD 0 = x 5 by rw [hx], show S.list[6]?.getD 0 = x 6 by rw [hx], show S.list[7]?.getD 0 = x 7 by rw [hx]]
     obtain ⟨arr, harr⟩ : ∃ arr : Array Value, arr = #[Value.int .u32 ((x 0).toNat : Int), Value.int .u32 ((x 1).toNat : Int), Value.int .u32 ((x 2).toNat : Int), Value.int .u32 ((x 3).toNat : Int), Value.int .u32 ((x 4).toNat : Int), Value.int .u32 ((x 5).toNat : Int), Value.int .u32 ((x 6).toNat : Int), Value.int .u32 ((x 7).toNat : Int)] := ⟨_, rfl⟩
     rw [← harr]
     have Harr : Hid (∀ i : Nat, i < 8 → arr[i]? = some (Value.int .u32 ((x i).toNat : Int))) := by
      intro i hi
      have hcases : i = 0 ∨ i = 1 ∨ i = 2 ∨ i = 3 ∨ i = 4 ∨ i = 5 ∨ i = 6 ∨ i = 7 := by omega
      rcases hcases with rfl | rfl | rfl | rfl | rfl | rfl | rfl | rfl <;> rw [harr] <;> rfl
     clear harr hx c0 c1 c2 c3 c4 c5 c6 c7
     go_loopg [53] 8 (fun k s53 wr => ∃ i : Nat, s53 = .int .i64 (i : Int) ∧ i + k = 8 ∧ Below w2.heap.size w2 wr ∧ wr.heap[w2.heap.size]? = some (.cells (bcells (outC x i)).toArray 259 (0, 0)))
     case atStart => exact ⟨0, rfl, by omega, (Below.refl _ w2).alloc Kj _, heap_alloc_new w2 _⟩
     case round =>
      obtain ⟨i, rfl, hik, hbel, hcur⟩ := hrel
      have Hbel4 := Hj hbel
      have Hcur := Hj hcur
      clear hbel hcur
      by_cases hi : i < 8
      ·have hcell : ∀ j, (hj : j < 32) → wr.cell? ⟨w2.heap.size, j, none⟩ = some (.int .u8 (((outC x i).getD j 0).toNat : Int)) := fun j hj => outC_cell Hcur.out j hj
       have k0 := hcell (4 * i) (by omega)
       have k1 := hcell (4 * i + 1) (by omega)
       have k2 := hcell (4 * i + 2) (by omega)
       have k3 := hcell (4 * i + 3) (by omega)
       have hfz : ∀ j, wr.frozen? ⟨w2.heap.size, j, none⟩ = false := fun j => Kx Hcur.out
       clear hcell
       have hix : ∀ W, (Instr.index 298 (.agg arr) (.int .i64 (i : Int))).run Tryz.prog W = .ok (.int .u32 ((x i).toNat : Int)) W := fun W => run_index_words arr _ _ (by omega) (by omega) (Harr.out i hi)
       go_wp2_with fail
       go_roundg (gk - 1)
       case measure => omega
       case rel =>
        refine ⟨i + 1, by go_num, by omega, (((Hbel4.out.setCell (by simp) _).setCell (by simp) _).setCell (by simp) _).setCell (by simp) _, ?_⟩
        exact outC_step Hcur.out hi
      ·obtain rfl : i = 8 := by omega
       have hcs : (bcells (outC x 8)).toArray.size = 32 := by simp [bcells, outC_length]
       have hz1 : w1.heap[w.heap.size]? = some (.cells (Array.replicate 32 (.int .u8 0)) 259 (0, 0)) := (Hbel1.out.block _ (by simp)).trans (heap_alloc_new w _)
       have hw1 := (Cz hz1)
       have hz2 := (Hbel3.out.block _ hw1).trans hz1
       have hw2 := (Cz hz2)
       have hgB : w.heap.size < g1 := by have := Hh1.out.low; simp at this; omega
       have hrB : ∀ k, ro1 = some k → w.heap.size < k := fun k hk => by have := (Hh1.out.rlt k hk).1; simp at this; omega
       have hz3 := (Hfr2.out.block _ hw2 (by rintro (h | h); omega; have := hrB _ h.symm; omega)).trans hz2
       have hw3 := (Cz hz3)
       have Hz := Hj ((Hbel4.out.block _ hw3).trans hz3)
       have Hcs := Hj hcs
       have HB := Hj (And.intro hgB hrB)
       have HW := Hj (And.intro hw1 (And.intro hw2 hw3))
       clear hcs hz1 hw1 hz2 hw2 hgB hrB hz3 hw3 
       have HB1 : Hid ((bcells (outC x 8)).toArray.all (·.oneCell') = true) := by
        show _ = true
        rw [Array.all_eq_true_iff_forall_mem]
        intro y hy
        exact bcells_one _ y (by simpa using hy)
       have HX : Hid (outC x 8 = digest S) := by rw [Hx.out]; exact outC_all S
       obtain ⟨cur, hcur⟩ : ∃ cur, cur = (bcells (outC x 8)).toArray := ⟨_, rfl⟩
       rw [← hcur] at Hcur Hcs HB1
       have HCur := Hj hcur
       clear hcur
       go_wp2_with (first
        | (refine wpList_load_row rfl 259 (.tmp 7) rfl w2.heap.size rfl 259 cur (0, 0) _ Hcur.out Tryz.underlying259 rfl (by rw [Hcs.out]; exact info_32) ?_)
        | (refine wpList_store_row rfl 259 (.tmp 2) (.tmp 84) rfl w.heap.size cur rfl rfl 259 _ Hz.out (by rw [Hcs.out]; exact info_32) (by rw [Hcs.out]; simp) HB1.out ?_)
        | fail)
       have hSum : S = (blocks K s (rest ++ padOf rest.length cnt)).1 := by
        rw [← HS.out, HL.out, Hr.out]
        simp only [padOf]
        rw [List.take_of_length_le (by simp [lenBytes])]
       have hsz : w.heap.size ≤ wr.heap.size := by have := HW.out.2.2; have := Hbel4.out.size; omega
       refine bodyPost_ret (results_cell_row rfl _ _ w.heap.size 259 cur (0, 0) _ rfl (setRow_heap _ _ _ _ _ _ Hz.out) Tryz.underlying259 rfl (by rw [Hcs.out]; exact info_32)) rfl ⟨by rw [HCur.out, HX.out, hSum], ?_⟩
       have hb1 : Below w.heap.size w w1 := ((Below.refl _ w).alloc Kj _).trans (Hbel1.out.mono (by simp))
       have hb2 : Below w.heap.size w wr := ((hb1.trans (Hbel3.out.mono hb1.size)).trans (Hfr2.out.below (Kv hb1.size Hbel3.out.size) fun i hi hs => by
        rcases hs with h | h
        ·have := HB.out.1; omega
        ·have := HB.out.2 _ h.symm; omega)).trans (Hbel4.out.mono (by have := HW.out.2.2; omega))
       exact ⟨hb2.os, hb2.tape, hb2.output, by simpa [World.setRow] using hb2.size, fun i hi => (setRow_other _ _ _ _ (by omega)).trans (hb2.block i hi)⟩

end Go.Proofs.YtfmagnpmjlppiaaGreatDoor

/- sha.Sum, sha.Text -/
namespace Go.Proofs.YtfmagnpmjlppiaaGreatDoor
open Go.RowKit

/-- The hash of these bytes. -/
def shaB (K : Nat → UInt32) (s0 : W8) (l : List UInt8) : List UInt8 := digest (blocks K s0 (l ++ padOf l.length l.length)).1
theorem shaB_length (K : Nat → UInt32) (s0 : W8) (l : List UInt8) : (shaB K s0 l).length = 32 := digest_length _

theorem padOf_rest (K : Nat → UInt32) (s0 : W8) (l : List UInt8) (n : Nat) : padOf (blocks K s0 l).2.length n = padOf l.length n := by
 have h := (blocks_rest K l.length s0 l Kj).2
 unfold padOf padZ
 rw [h]
 have e : (l.length % 64 + 9) % 64 = (l.length + 9) % 64 := by omega
 rw [e]

theorem HashIs_sum {K : Nat → UInt32} {s0 : W8} (l : List UInt8) : digest (blocks K (blocks K s0 l).1 ((blocks K s0 l).2 ++ padOf (blocks K s0 l).2.length l.length)).1 = shaB K s0 l := by
 rw [blocks_append K l.length s0 l _ Kj, padOf_rest]
 rfl

/-- A sum of a hash of all these bytes. -/
theorem HashSum_is (g B : Nat) (ro : Option Nat) (K : Nat → UInt32) (s0 : W8) (all : List UInt8) (w : World) (hh : HashIs w B g ro K s0 all) (hK : KCells w K) (hKB : 30 < w.heap.size) (hlen : all.length ≤ 549755813888) :
  Calls Tryz.prog 220 #[.pointer (some ⟨g, 0, none⟩)] w fun e w' => e = .returned (.agg (bcells (shaB K s0 all)).toArray) ∧ Below w.heap.size w w' := by
 have hr := blocks_rest K all.length s0 all Kj
 refine (HashSum_any g B all.length ro K _ _ w hh hK hKB (by omega) hlen).mono ?_
 rintro e w' ⟨rfl, h⟩
 exact ⟨by rw [HashIs_sum], h⟩

/-- A write into it. -/
theorem Write_is (g n c B : Nat) (A : Option Addr) (ro : Option Nat) (K : Nat → UInt32) (s0 : W8) (all b : List UInt8) (w : World) (hh : HashIs w B g ro K s0 all) (hb : RB w A n b) (hK : KCells w K)
  (hKB : 30 < B) (hlen : all.length + b.length ≤ 1099511627776) :
  Calls Tryz.prog 219 #[.pointer (some ⟨g, 0, none⟩), .slice A n c] w fun e w' => e = .returned (.tuple #[]) ∧ Fr (fun k => k = g ∨ some k = ro) w w' ∧
   ∃ ro', HashIs w' B g ro' K s0 (all ++ b) ∧ (ro' = ro ∨ ∃ k, ro' = some k ∧ w.heap.size ≤ k) := by
 have hr := blocks_rest K all.length s0 all Kj
 refine (Write_any g n c B A ro K _ _ b all.length w hh hb hK hKB (by omega) hlen).mono ?_
 rintro e w' ⟨rfl, h, ro', h2, h3⟩
 refine ⟨rfl, h, ro', ?_, h3⟩
 unfold HashIs
 rw [← blocks_append K all.length s0 all b Kj, List.length_append]
 exact h2

theorem flat_take (ls : List (List UInt8)) (k : Nat) (h : k < ls.length) : (ls.take (k + 1)).flatten = (ls.take k).flatten ++ ls.getD k [] := by
 rw [List.take_succ_eq_append_getElem h, List.flatten_append, List.getD_eq_getElem?_getD, List.getElem?_eq_getElem h]
 simp

theorem flat_take_le (ls : List (List UInt8)) (k : Nat) : (ls.take k).flatten.length ≤ ls.flatten.length := by
 have h := congrArg List.length (congrArg List.flatten (List.take_append_drop k ls))
 rw [List.flatten_append, List.length_append] at h
 omega

set_option maxHeartbeats 1000000 in
set_option maxRecDepth 100000 in
theorem Sum_any (A : Option Addr) (n c : Nat) (ls : List (List UInt8)) (K : Nat → UInt32) (s0 : W8) (w : World) (hl : RBL w A n ls) (hK : KCells w K) (hF : FirstCells w s0) (hKB : 30 < w.heap.size)
  (hn : n ≤ maxLen) (hlen : ls.flatten.length ≤ 549755813888) :
  Calls Tryz.prog 191 #[.slice A n c] w fun e w' => e = .returned (.agg (bcells (shaB K s0 ls.flatten)).toArray) ∧ Below w.heap.size w w' := by
 have Hl := Hj hl
 have HK := Hj hK
 have HF := Hj hF
 clear hl hK hF
 unfold maxLen at hn
 have Hlen : Hid (∀ k, (ls.take k).flatten.length ≤ 549755813888) := fun k => Kv (flat_take_le ls k) hlen
 go_enter Tryz.func191, Tryz.ntmps191
 have ka : ∀ o, Keeps w (w.alloc o) := fun o => Kz ((Below.refl _ w).alloc Kj o)
 go_wp2_with (first
  | (go_at_call 218; refine (New_any _ s0 K (HF.out.keep (ka _))).mono ?_; rintro e w1 ⟨rfl, hh1, hbel1⟩; rw [show ∀ o, (w.alloc o).heap.size = w.heap.size + 1 from fun o => by simp] at hh1; have Hh1 := Hj hh1; have Hbel1 := Hj hbel1; clear hh1 hbel1)
  | fail)
 have hbw1 : Below w.heap.size w w1 := ((Below.refl _ w).alloc Kj _).trans (Hbel1.out.mono (by simp))
 have Hbw1 := Hj hbw1
 have Hz1 := Hj ((Hbel1.out.block w.heap.size (by simp)).trans (heap_alloc_new w _))
 have hs1 : w.heap.size + 1 ≤ w1.heap.size := by have := Hbel1.out.size; simpa using this
 have Hs1 := Hj hs1
 clear hbw1 hs1
 have HLs := Hj Hl.out.1
 go_loopg [9] n (fun k s9 wr => ∃ (i : Nat) (ro : Option Nat), s9 = .int .i64 (i : Int) ∧ i + k = n ∧ HashIs wr (w.heap.size + 1) (w.heap.size + 1) ro K s0 (ls.take i).flatten ∧ Below (w.heap.size + 1) w1 wr)
 case atStart =>
  refine ⟨0, none, rfl, by omega, ?_, Below.refl _ _⟩
  exact Hh1.out
 case round =>
  obtain ⟨i, ro, rfl, hik, hh, hbel⟩ := hrel
  have Hh := Hj hh
  have Hbel := Hj hbel
  have Hbw := Hj (Hbw1.out.trans (hbel.mono (Nat.le_succ _)))
  clear hh hbel
  have Hkw := Hj (Kz Hbw.out)
  by_cases hi : i < n
  ·obtain ⟨b, o, hA, hb⟩ := Hl.out.2 (by omega)
   obtain ⟨v, c1, A', c', hv, hc1, hc2, hrb⟩ := hb i hi
   subst hv
   have c2 := Hkw.out _ _ c1
   have Hrb := Hj (hrb.keep Hkw.out)
   subst hA
   clear hb c1 hrb
   have i0 : (0 : Int) ≤ (i : Int) := by omega
   have i1 : (i : Int) < (n : Int) := by omega
   generalize hx : ls.getD i [] = x at *
   have Hx := Hj hx
   clear hx
   go_wp2_with (first
    | (go_at_call 219; refine (Write_is (w.heap.size + 1) _ c' (w.heap.size + 1) A' ro K s0 _ x wr Hh.out Hrb.out (HK.out.keep Hkw.out) (Nat.lt_succ_of_lt hKB) ?_).mono ?_; rotate_left; rintro e w2 ⟨rfl, hfr2, ro2, hh2, hro2⟩; have Hfr2 := Hj hfr2; have Hh2 := Hj hh2; have Hro2 := Hj hro2; clear hfr2 hh2 hro2)
    | fail)
   case refine_1 =>
    have := Hlen.out (i + 1)
    rw [flat_take ls i (by rw [HLs.out]; exact hi), Hx.out, List.length_append] at this
    omega
   go_roundg (gk - 1)
   case measure => omega
   case rel =>
    refine ⟨i + 1, ro2, by go_num, by omega, ?_, Hbel.out.trans (Hfr2.out.below (Kv Hs1.out Hbel.out.size) fun j _ hs => ?_)⟩
    ·rw [flat_take ls i (by rw [HLs.out]; exact hi), Hx.out]
     exact Hh2.out
    ·rcases hs with h | h
     ·omega
     ·exact (Hh.out.rlt _ h.symm).1
  ·obtain rfl : i = n := by omega
   have hall : (ls.take i).flatten = ls.flatten := by rw [List.take_of_length_le (by rw [HLs.out]; exact Nat.le_refl _)]
   rw [hall] at Hh
   have Hz := Hj ((Hbel.out.block w.heap.size (Nat.lt_succ_self _)).trans Hz1.out)
   have HB1 : Hid ((bcells (shaB K s0 ls.flatten)).toArray.all (·.oneCell') = true) := by
    show _ = true
    rw [Array.all_eq_true_iff_forall_mem]
    intro y hy
    exact bcells_one _ y (by simpa using hy)
   have hcs : (bcells (shaB K s0 ls.flatten)).toArray.size = 32 := by simp [bcells, shaB_length]
   obtain ⟨cur, hcur⟩ : ∃ cur, cur = (bcells (shaB K s0 ls.flatten)).toArray := ⟨_, rfl⟩
   rw [← hcur] at hcs HB1
   have HCur := Hj hcur
   have Hcs := Hj hcs
   clear hcur hcs hall
   go_wp2_with (first
    | (go_at_call 220; refine (HashSum_is (w.heap.size + 1) (w.heap.size + 1) ro K s0 ls.flatten wr Hh.out (HK.out.keep Hkw.out) (by have := Hbw.out.size; omega) hlen).mono ?_; rintro e w3 ⟨rfl, hbel3⟩; rw [← HCur.out]; have Hbel3 := Hj hbel3; have Hz3 := Hj ((hbel3.block w.heap.size (Cz Hz.out)).trans Hz.out); clear hbel3)
    | (refine wpList_store_row rfl 259 (.tmp 2) (.tmp 18) rfl w.heap.size cur rfl rfl 259 _ Hz3.out (by rw [Hcs.out]; exact info_32) (by rw [Hcs.out]; simp) HB1.out ?_)
    | fail)
   refine bodyPost_ret (results_cell_row rfl _ _ w.heap.size 259 cur (0, 0) _ rfl (setRow_heap _ _ _ _ _ _ Hz3.out) Tryz.underlying259 rfl (by rw [Hcs.out]; exact info_32)) rfl ⟨by rw [HCur.out], ?_⟩
   have hb2 : Below w.heap.size w w3 := Hbw.out.trans (Hbel3.out.mono Hbw.out.size)
   exact ⟨hb2.os, hb2.tape, hb2.output, by simpa [World.setRow] using hb2.size, fun i hi => (setRow_other _ _ _ _ (by omega)).trans (hb2.block i hi)⟩
end Go.Proofs.YtfmagnpmjlppiaaGreatDoor
