/- sha.spread: a block's words, round by round. -/
import Derived.Test.YtjodehdmafagoaaDoorU32
import Derived.StillTailTactics
namespace Go.Proofs.YtjodehdmafagoaaDoor
open Go.RowKit

def be4 (a b c d : UInt8) : UInt32 := (a.toUInt32 <<< 24 ||| b.toUInt32 <<< 16 ||| c.toUInt32 <<< 8) ||| d.toUInt32
def sig0 (x : UInt32) : UInt32 := rotr x 7 ^^^ rotr x 18 ^^^ x >>> 3
def sig1 (x : UInt32) : UInt32 := rotr x 17 ^^^ rotr x 19 ^^^ x >>> 10
def wNext (b : List UInt8) (l : List UInt32) (k : Nat) : UInt32 :=
  if k < 16 then be4 (b.getD (4 * k) 0) (b.getD (4 * k + 1) 0) (b.getD (4 * k + 2) 0) (b.getD (4 * k + 3) 0)
  else l.getD (k - 16) 0 + sig0 (l.getD (k - 15) 0) + l.getD (k - 7) 0 + sig1 (l.getD (k - 2) 0)
/-- The first k words. -/
def sched (b : List UInt8) : Nat → List UInt32
  | 0 => []
  | k + 1 => sched b k ++ [wNext b (sched b k) k]
theorem sched_length (b : List UInt8) : ∀ k, (sched b k).length = k
  | 0 => rfl
  | k + 1 => by simp [sched, sched_length b k]
theorem sched_get (b : List UInt8) (j : Nat) : ∀ k, j < k → (sched b k).getD j 0 = wNext b (sched b j) j
  | 0, h => by omega
  | k + 1, h => by
    simp only [sched, List.getD_eq_getElem?_getD]
    rcases Nat.lt_or_ge j k with h' | h'
    · rw [List.getElem?_append_left (by rw [sched_length]; exact h'), ← List.getD_eq_getElem?_getD, sched_get b j k h']
    · obtain rfl : j = k := by omega
      rw [List.getElem?_append_right (by rw [sched_length]; omega), sched_length]
      simp

theorem sched_rec (b : List UInt8) (k : Nat) (h : k < 64) : (sched b 64).getD k 0 =
    if k < 16 then be4 (b.getD (4 * k) 0) (b.getD (4 * k + 1) 0) (b.getD (4 * k + 2) 0) (b.getD (4 * k + 3) 0)
    else (sched b 64).getD (k - 16) 0 + sig0 ((sched b 64).getD (k - 15) 0) + (sched b 64).getD (k - 7) 0 + sig1 ((sched b 64).getD (k - 2) 0) := by
  rw [sched_get b k 64 h]
  unfold wNext
  split
  · rfl
  · have e : ∀ d, 0 < d → d ≤ k → (sched b k).getD (k - d) 0 = (sched b 64).getD (k - d) 0 := fun d h1 h2 => by
      rw [sched_get b (k - d) k (by omega), sched_get b (k - d) 64 (by omega)]
    rw [e 16 (by omega) (by omega), e 15 (by omega) (by omega), e 7 (by omega) (by omega), e 2 (by omega) (by omega)]

theorem be4_val (a b c d : UInt8) : bits .or .u32 (bits .or .u32 (bits .or .u32 ((a.toNat : Int) % 4294967296 * 16777216 % 4294967296) ((b.toNat : Int) % 4294967296 * 65536 % 4294967296)) ((c.toNat : Int) % 4294967296 * 256 % 4294967296))
    ((d.toNat : Int) % 4294967296) = ((be4 a b c d).toNat : Int) := by
  have h : ∀ x : UInt8, (x.toNat : Int) % 4294967296 = ((x.toUInt32).toNat : Int) := fun x => by
    have := x.toNat_lt
    rw [UInt8.toNat_toUInt32]; omega
  have h24 := shl32 a.toUInt32 24 (by decide)
  have h16 := shl32 b.toUInt32 16 (by decide)
  have h8 := shl32 c.toUInt32 8 (by decide)
  rw [show (2 : Int) ^ 24 = 16777216 by decide] at h24
  rw [show (2 : Int) ^ 16 = 65536 by decide] at h16
  rw [show (2 : Int) ^ 8 = 256 by decide] at h8
  rw [h, h, h, h, h24, h16, h8, b32_or, b32_or, b32_or]
  rfl

theorem wnext_val (x16 x15 x7 x2 : UInt32) : ((x16.toNat : Int) + bits .xor .u32 (bits .xor .u32 ((rotr x15 7).toNat : Int) ((rotr x15 18).toNat : Int)) ((x15.toNat : Int) / 8) + (x7.toNat : Int) +
    bits .xor .u32 (bits .xor .u32 ((rotr x2 17).toNat : Int) ((rotr x2 19).toNat : Int)) ((x2.toNat : Int) / 1024)) % 4294967296 = ((x16 + sig0 x15 + x7 + sig1 x2).toNat : Int) := by
  have h8 := shr32 x15 3 (by decide)
  have h10 := shr32 x2 10 (by decide)
  rw [show (2 : Int) ^ 3 = 8 by decide] at h8
  rw [show (2 : Int) ^ 10 = 1024 by decide] at h10
  rw [h8, h10, b32_xor, b32_xor, b32_xor, b32_xor, UInt32.toNat_add, UInt32.toNat_add, UInt32.toNat_add]
  show ((x16.toNat : Int) + ((sig0 x15).toNat : Int) + (x7.toNat : Int) + ((sig1 x2).toNat : Int)) % 4294967296 = _
  omega

theorem cells_set {cur : Array Value} {S : Nat → UInt32} {k : Nat} (hk : k < cur.size) (h : ∀ j, j < k → cur[j]? = some (.int .u32 ((S j).toNat : Int))) (v : Value) (hv : v = .int .u32 ((S k).toNat : Int)) :
    ∀ j, j < k + 1 → (cur.setIfInBounds k v)[j]? = some (.int .u32 ((S j).toNat : Int)) := by
  intro j hj
  rw [Array.getElem?_setIfInBounds]
  by_cases e : k = j
  · subst e
    simp [hk, hv]
  · rw [if_neg e]
    exact h j (by omega)

def w32 (l : List UInt32) : List Value := l.map fun x => .int .u32 (x.toNat : Int)

theorem info_64 : (Tryd.prog.info? 140).map (·.size) = some 64 := by kernel_rfl

theorem right_still (x : UInt32) (n : Nat) (w : World) (h0 : 0 < n) (h : n < 32) :
    Calls Tryd.prog 88 #[.int .u32 (x.toNat : Int), .int .i64 (n : Int)] w fun e w' => e = .returned (.int .u32 ((rotr x n).toNat : Int)) ∧ w' = w :=
  (right_any x n w h0 h).mono fun _ _ ⟨h1, h2⟩ => ⟨h1, h2.symm⟩

theorem right_i (x : UInt32) (i : Int) (w : World) (h0 : 0 < i) (h : i < 32) :
    Calls Tryd.prog 88 #[.int .u32 (x.toNat : Int), .int .i64 i] w fun e w' => e = .returned (.int .u32 ((rotr x i.toNat).toNat : Int)) ∧ w' = w := by
  obtain ⟨n, rfl⟩ := Int.eq_ofNat_of_zero_le (Int.le_of_lt h0)
  exact right_still x n w (by omega) (by omega)

set_option maxHeartbeats 2000000 in
set_option maxRecDepth 100000 in
theorem spread_any (b o c : Nat) (l : List UInt8) (w : World) (hc : ∀ k, k < 64 → w.cell? ⟨b, o + k, none⟩ = some (.int .u8 (l.getD k 0).toNat)) :
    Calls Tryd.prog 87 #[.slice (some ⟨b, o, none⟩) 64 c] w fun e w' => e = .returned (.agg (w32 (sched l 64)).toArray) ∧ Below w.heap.size w w' := by
  obtain ⟨S, hS⟩ : ∃ S : Nat → UInt32, S = fun j => (sched l 64).getD j 0 := ⟨_, rfl⟩
  have HS := Lib.hid hS
  clear hS
  have HC := Lib.hid hc
  clear hc
  go_enter Tryd.func87, Tryd.ntmps87
  go_wp2
  go_loopw [7] (fun i wr => ∃ k : Nat, k ≤ 64 ∧ i = .int .i64 k ∧ Below w.heap.size w wr ∧ (∃ z : Array Value, wr.heap[w.heap.size]? = some (.cells z 140 (0, 0)) ∧ z.size = 64) ∧
    ∃ cur : Array Value, wr.heap[w.heap.size + 1]? = some (.cells cur 140 (0, 0)) ∧ cur.size = 64 ∧ ∀ j, j < k → cur[j]? = some (.int .u32 ((S j).toNat : Int))) (fun i _ => 64 - (intOf i).toNat)
  case atStart =>
    exact ⟨0, Nat.zero_le _, rfl, ((Below.refl _ w).alloc (Nat.le_refl _) _).alloc (Below.refl _ w |>.alloc (Nat.le_refl _) _).size _, ⟨_, heap_alloc2_old _ _ _, rfl⟩, _, heap_alloc2_new _ _ _, rfl, fun j hj => absurd hj (Nat.not_lt_zero j)⟩
  case round =>
    obtain ⟨k, hk, rfl, hbel, ⟨z, hz, hzs⟩, cur, hcur, hcs, hall⟩ := hrel
    have Hall := Lib.hid hall
    have Hcur := Lib.hid hcur
    have Hz := Lib.hid hz
    have Hzs := Lib.hid hzs
    have Hcs := Lib.hid hcs
    clear hall hz hzs
    by_cases hlt : k < 64
    · have ck : wr.cell? ⟨w.heap.size + 1, k, none⟩ = some cur[k] := by rw [cell_of_row _ _ _ _ _ _ hcur]; simp
      have fk : wr.frozen? ⟨w.heap.size + 1, k, none⟩ = false := frozen_of_row _ _ _ _ _ hcur
      generalize cur[k] = old at *
      clear hcur hcs
      have k0 : (0 : Int) ≤ (k : Int) := by omega
      have k1 : (k : Int) < 64 := by omega
      by_cases h16 : k < 16
      · /-S-/
        have b0 := Keeps.of_below hbel _ _ (HC.out (4 * k) (by omega))
        have b1 := Keeps.of_below hbel _ _ (HC.out (4 * k + 1) (by omega))
        have b2 := Keeps.of_below hbel _ _ (HC.out (4 * k + 2) (by omega))
        have b3 := Keeps.of_below hbel _ _ (HC.out (4 * k + 3) (by omega))
        generalize hg0 : l.getD (4 * k) 0 = x0 at *
        generalize hg1 : l.getD (4 * k + 1) 0 = x1 at *
        generalize hg2 : l.getD (4 * k + 2) 0 = x2 at *
        generalize hg3 : l.getD (4 * k + 3) 0 = x3 at *
        have Hg := Lib.hid (And.intro hg0 (And.intro hg1 (And.intro hg2 hg3)))
        clear hg0 hg1 hg2 hg3
        go_wp2
        have m0 : IntKind.i64.wrap (4 * (k : Int)) = 4 * (k : Int) := IntWalk.i64_in _ (by omega)
        have m1 : IntKind.i64.wrap (4 * (k : Int) + 1) = 4 * (k : Int) + 1 := IntWalk.i64_in _ (by omega)
        have m2 : IntKind.i64.wrap (4 * (k : Int) + 2) = 4 * (k : Int) + 2 := IntWalk.i64_in _ (by omega)
        have m3 : IntKind.i64.wrap (4 * (k : Int) + 3) = 4 * (k : Int) + 3 := IntWalk.i64_in _ (by omega)
        have p0 : (0 : Int) ≤ 4 * (k : Int) := by omega
        have p1 : (0 : Int) ≤ 4 * (k : Int) + 1 := by omega
        have p2 : (0 : Int) ≤ 4 * (k : Int) + 2 := by omega
        have p3 : (0 : Int) ≤ 4 * (k : Int) + 3 := by omega
        have q0 : 4 * (k : Int) < 64 := by omega
        have q1 : 4 * (k : Int) + 1 < 64 := by omega
        have q2 : 4 * (k : Int) + 2 < 64 := by omega
        have q3 : 4 * (k : Int) + 3 < 64 := by omega
        have t0 : (4 * (k : Int)).toNat = 4 * k := by omega
        have t1 : (4 * (k : Int) + 1).toNat = 4 * k + 1 := by omega
        have t2 : (4 * (k : Int) + 2).toNat = 4 * k + 2 := by omega
        have t3 : (4 * (k : Int) + 3).toNat = 4 * k + 3 := by omega
        go_still_tail 34, (by kernel_rfl)
        change wpList _ _ _ _ _ wr.drew
        clear m0 m1 m2 m3 p0 p1 p2 p3 q0 q1 q2 q3 t0 t1 t2 t3 b0 b1 b2 b3
        go_wp2
        rw [be4_val]
        have hSk : (be4 x0 x1 x2 x3) = S k := by
          obtain ⟨rfl, rfl, rfl, rfl⟩ := Hg.out
          rw [HS.out]
          simp only
          rw [sched_rec l k hlt, if_pos h16]
        rw [hSk]
        exact ⟨⟨k + 1, by omega, by go_num, (hbel.setCell (by simp) _).drew, ⟨z, (heap_setCell_other _ _ _ _ (by simp)).trans Hz.out, Hzs.out⟩, _, heap_setCell_same _ _ _ _ _ _ Hcur.out, by simpa using Hcs.out, cells_set (by rw [Hcs.out]; exact hlt) Hall.out _ rfl⟩, by simp [intOf]; omega⟩
      /-E-/
      · /-S-/
        have ex : ∀ d, 0 < d → d ≤ 16 → wr.cell? ⟨w.heap.size + 1, k - d, none⟩ = some (.int .u32 ((S (k - d)).toNat : Int)) := fun d h1 h2 => by
          rw [cell_of_row _ _ _ _ _ _ Hcur.out]
          exact Hall.out (k - d) (by omega)
        have e16 := ex 16 (by omega) (by omega)
        have e15 := ex 15 (by omega) (by omega)
        have e7 := ex 7 (by omega) (by omega)
        have e2 := ex 2 (by omega) (by omega)
        clear ex
        have hSk := Lib.hid (show S k = S (k - 16) + sig0 (S (k - 15)) + S (k - 7) + sig1 (S (k - 2)) by
          rw [HS.out]
          simp only
          rw [sched_rec l k hlt, if_neg h16])
        generalize S (k - 16) = x16 at *
        generalize S (k - 15) = x15 at *
        generalize S (k - 7) = x7 at *
        generalize S (k - 2) = x2 at *
        have m16 : IntKind.i64.wrap ((k : Int) - 16) = (k : Int) - 16 := IntWalk.i64_in _ (by omega)
        have m15 : IntKind.i64.wrap ((k : Int) - 15) = (k : Int) - 15 := IntWalk.i64_in _ (by omega)
        have m7 : IntKind.i64.wrap ((k : Int) - 7) = (k : Int) - 7 := IntWalk.i64_in _ (by omega)
        have m2 : IntKind.i64.wrap ((k : Int) - 2) = (k : Int) - 2 := IntWalk.i64_in _ (by omega)
        have p16 : (16 : Int) ≤ (k : Int) := by omega
        have p15 : (15 : Int) ≤ (k : Int) := by omega
        have p7 : (7 : Int) ≤ (k : Int) := by omega
        have p2 : (2 : Int) ≤ (k : Int) := by omega
        have q16 : (k : Int) - 16 < 64 := by omega
        have q15 : (k : Int) - 15 < 64 := by omega
        have q7 : (k : Int) - 7 < 64 := by omega
        have q2 : (k : Int) - 2 < 64 := by omega
        have t16 : ((k : Int) - 16).toNat = k - 16 := by omega
        have t15 : ((k : Int) - 15).toNat = k - 15 := by omega
        have t7 : ((k : Int) - 7).toNat = k - 7 := by omega
        have t2 : ((k : Int) - 2).toNat = k - 2 := by omega
        have h16' : decide ((k : Int) < 16) = false := decide_eq_false (by omega)
        go_wp2
        go_quiet (fail)
        go_wp2
        replace hbel := below_drewN hbel nq
        replace ck : (wr.drewN nq).cell? ⟨w.heap.size + 1, k, none⟩ = some old := ck
        replace fk : (wr.drewN nq).frozen? ⟨w.heap.size + 1, k, none⟩ = false := fk
        replace e16 : (wr.drewN nq).cell? ⟨w.heap.size + 1, k - 16, none⟩ = some (.int .u32 (x16.toNat : Int)) := e16
        replace e7 : (wr.drewN nq).cell? ⟨w.heap.size + 1, k - 7, none⟩ = some (.int .u32 (x7.toNat : Int)) := e7
        replace Hcur : Hid ((wr.drewN nq).heap[w.heap.size + 1]? = some (.cells cur 140 (0, 0))) := Hcur
        replace Hz : Hid ((wr.drewN nq).heap[w.heap.size]? = some (.cells z 140 (0, 0))) := Hz
        clear e15 e2
        generalize wr.drewN nq = wd at *
        refine wp_region_still_tail 28 (by kernel_rfl) (by kernel_rfl) ?_
        simp only [List.take_succ_cons, List.take_zero, List.drop_succ_cons, List.drop_zero]
        repeat (first | still_step | still_call (right_i _ _ _ (by decide) (by decide)))
        refine wpStill_nil ?_
        change wpList _ _ _ _ _ wd.drew
        clear m16 m15 m7 m2 p16 p15 p7 p2 q16 q15 q7 q2 t16 t15 t7 t2 e16 e7
        go_wp2
        rw [wnext_val, ← hSk.out]
        exact ⟨⟨k + 1, by omega, by go_num, (hbel.setCell (by simp) _).drew, ⟨z, (heap_setCell_other _ _ _ _ (by simp)).trans Hz.out, Hzs.out⟩, _, heap_setCell_same _ _ _ _ _ _ Hcur.out, by simpa using Hcs.out, cells_set (by rw [Hcs.out]; exact hlt) Hall.out _ rfl⟩, by simp [intOf]; omega⟩
    /-E-/
    · have hk64 : k = 64 := by omega
      have hcells : cur = (w32 (sched l 64)).toArray := by
        apply Array.ext_getElem?
        intro j
        rcases Nat.lt_or_ge j 64 with h | h
        · rw [Hall.out j (by omega), HS.out]
          simp [w32, sched_length, h]
        · rw [Array.getElem?_eq_none (by rw [Hcs.out]; exact h)]
          simp [w32, sched_length, h]
      have hi := info_64
      subst hk64
      have HR := Lib.hid hcells
      have HB1 := Lib.hid (show cur.all (·.oneCell') = true by
        rw [hcells, Array.all_eq_true_iff_forall_mem]
        intro x hx
        simp only [w32, List.mem_toArray, List.mem_map] at hx
        obtain ⟨y, _, rfl⟩ := hx
        rfl)
      clear hcells hi
      have hcur' := Hcur.out
      have hz := Hz.out
      go_wp2_with (first
        | (refine wpList_load_row rfl 140 (.tmp 3) rfl (w.heap.size + 1) rfl 140 cur (0, 0) _ hcur' Tryd.underlying140 rfl (by rw [Hcs.out]; exact info_64) ?_)
        | (refine wpList_store_row rfl 140 (.tmp 2) (.tmp 85) rfl w.heap.size cur rfl rfl 140 z hz (by rw [Hcs.out]; exact info_64) (by rw [Hcs.out, Hzs.out]) HB1.out ?_))
      refine bodyPost_ret (results_cell_row rfl _ _ w.heap.size 140 cur (0, 0) _ rfl (setRow_heap _ _ z _ _ _ hz) Tryd.underlying140 rfl (by rw [Hcs.out]; exact info_64)) rfl ⟨by rw [← HR.out], ?_⟩
      exact ⟨hbel.os, hbel.tape, hbel.output, by simpa [World.setRow] using hbel.size, fun i hi => (setRow_other _ _ _ _ (by omega)).trans (hbel.block i hi)⟩
end Go.Proofs.YtjodehdmafagoaaDoor
