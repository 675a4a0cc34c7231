/- (*sha.words).take: a block is taken. -/
import Derived.Test.YtjodehdmafagoaaDoorSpread
namespace Go.Proofs.YtjodehdmafagoaaDoor
open Go.RowKit

structure W8 where
  a : UInt32
  b : UInt32
  c : UInt32
  d : UInt32
  e : UInt32
  f : UInt32
  g : UInt32
  h : UInt32

def W8.list (s : W8) : List UInt32 := [s.a, s.b, s.c, s.d, s.e, s.f, s.g, s.h]
def bsig1 (e : UInt32) : UInt32 := rotr e 6 ^^^ rotr e 11 ^^^ rotr e 25
def bsig0 (a : UInt32) : UInt32 := rotr a 2 ^^^ rotr a 13 ^^^ rotr a 22
def choice (e f g : UInt32) : UInt32 := e &&& f ^^^ ~~~e &&& g
def most (a b c : UInt32) : UInt32 := a &&& b ^^^ a &&& c ^^^ b &&& c
def rT (s : W8) (K W : UInt32) : UInt32 := s.h + bsig1 s.e + choice s.e s.f s.g + K + W
def rU (s : W8) : UInt32 := bsig0 s.a + most s.a s.b s.c
def round (s : W8) (K W : UInt32) : W8 := ⟨rT s K W + rU s, s.a, s.b, s.c, s.d + rT s K W, s.e, s.f, s.g⟩
def rounds (K W : Nat → UInt32) (s : W8) : Nat → W8
  | 0 => s
  | k + 1 => round (rounds K W s k) (K k) (W k)
def W8.add (s v : W8) : W8 := ⟨s.a + v.a, s.b + v.b, s.c + v.c, s.d + v.d, s.e + v.e, s.f + v.f, s.g + v.g, s.h + v.h⟩
def schedF (l : List UInt8) (k : Nat) : UInt32 := (sched l 64).getD k 0
def compress (K : Nat → UInt32) (s : W8) (l : List UInt8) : W8 := s.add (rounds K (schedF l) s 64)

/-- The constants' cells. -/
def KCells (w : World) (K : Nat → UInt32) : Prop := ∀ k, k < 64 → w.cell? ⟨29, k, none⟩ = some (.int .u32 ((K k).toNat : Int))
theorem KCells.keep {w w' : World} {K : Nat → UInt32} (h : KCells w K) (k : Keeps w w') : KCells w' K := fun i hi => k _ _ (h i hi)

/-- The words while they are added up. -/
def mix (s v : W8) (k : Nat) : List UInt32 := (s.add v).list.take k ++ s.list.drop k
theorem mix_zero (s v : W8) : mix s v 0 = s.list := rfl
theorem mix_eight (s v : W8) : mix s v 8 = (s.add v).list := rfl
theorem mix_size (s v : W8) (k : Nat) (h : k < 8) : (mix s v k).length = 8 := by
  match k, h with
  | 0, _ => rfl
  | 1, _ => rfl
  | 2, _ => rfl
  | 3, _ => rfl
  | 4, _ => rfl
  | 5, _ => rfl
  | 6, _ => rfl
  | 7, _ => rfl
theorem mix_get (s v : W8) (k : Nat) (h : k < 8) : (mix s v k)[k]? = some (s.list.getD k 0) := by
  match k, h with
  | 0, _ => rfl
  | 1, _ => rfl
  | 2, _ => rfl
  | 3, _ => rfl
  | 4, _ => rfl
  | 5, _ => rfl
  | 6, _ => rfl
  | 7, _ => rfl
theorem W8.get (s : W8) (k : Nat) (h : k < 8) : s.list[k]? = some (s.list.getD k 0) := by
  match k, h with
  | 0, _ => rfl
  | 1, _ => rfl
  | 2, _ => rfl
  | 3, _ => rfl
  | 4, _ => rfl
  | 5, _ => rfl
  | 6, _ => rfl
  | 7, _ => rfl
theorem mix_succ (s v : W8) (k : Nat) (h : k < 8) : mix s v (k + 1) = (mix s v k).set k (s.list.getD k 0 + v.list.getD k 0) := by
  match k, h with
  | 0, _ => rfl
  | 1, _ => rfl
  | 2, _ => rfl
  | 3, _ => rfl
  | 4, _ => rfl
  | 5, _ => rfl
  | 6, _ => rfl
  | 7, _ => rfl

theorem set_w32 (l : List UInt32) (k : Nat) (x : UInt32) (r c : Value) (h : k < l.length) : (w32 l ++ [r, c]).toArray.setIfInBounds k (.int .u32 (x.toNat : Int)) = (w32 (l.set k x) ++ [r, c]).toArray := by
  rw [List.setIfInBounds_toArray, List.set_append_left _ _ (by simpa [w32] using h)]
  simp [w32, List.map_set]

theorem spread_fn (b o c : Nat) (l : List UInt8) (w : World) (hc : ∀ k, k < 64 → w.cell? ⟨b, o + k, none⟩ = some (.int .u8 (l.getD k 0).toNat)) :
    Calls Tryd.prog 87 #[.slice (some ⟨b, o, none⟩) 64 c] w fun e w' => (∃ arr : Array Value, e = .returned (.agg arr) ∧ arr.size = 64 ∧ ∀ k, k < 64 → arr[k]? = some (.int .u32 ((schedF l k).toNat : Int))) ∧ Below w.heap.size w w' :=
  (spread_any b o c l w hc).mono fun _ _ ⟨h1, h2⟩ => ⟨⟨_, h1, by simp [w32, sched_length], fun k hk => by simp [w32, sched_length, schedF, hk]⟩, h2⟩

theorem info_w8 : (Tryd.prog.info? 134).map (·.size) = some 8 := by kernel_rfl

theorem not32 (x : UInt32) : bits .xor .u32 IntKind.u32.max (x.toNat : Int) = ((~~~x).toNat : Int) := by
  have h : (IntKind.u32.max : Int) = (((4294967295 : UInt32)).toNat : Int) := by decide
  rw [h, b32_xor]
  congr 2

theorem rT_val (v : W8) (kk sk : UInt32) : ((v.h.toNat : Int) + bits .xor .u32 (bits .xor .u32 ((rotr v.e 6).toNat : Int) ((rotr v.e 11).toNat : Int)) ((rotr v.e 25).toNat : Int) +
    bits .xor .u32 (bits .and .u32 (v.e.toNat : Int) (v.f.toNat : Int)) (bits .and .u32 (bits .xor .u32 IntKind.u32.max (v.e.toNat : Int)) (v.g.toNat : Int)) + (kk.toNat : Int) + (sk.toNat : Int)) % 4294967296 = ((rT v kk sk).toNat : Int) := by
  rw [not32, b32_xor, b32_xor, b32_and, b32_and, b32_xor]
  unfold rT
  rw [UInt32.toNat_add, UInt32.toNat_add, UInt32.toNat_add, UInt32.toNat_add]
  show ((v.h.toNat : Int) + ((bsig1 v.e).toNat : Int) + ((choice v.e v.f v.g).toNat : Int) + (kk.toNat : Int) + (sk.toNat : Int)) % 4294967296 = _
  omega

theorem round_a (v : W8) (kk sk : UInt32) : ((v.h.toNat : Int) + bits .xor .u32 (bits .xor .u32 ((rotr v.e 6).toNat : Int) ((rotr v.e 11).toNat : Int)) ((rotr v.e 25).toNat : Int) +
    bits .xor .u32 (bits .and .u32 (v.e.toNat : Int) (v.f.toNat : Int)) (bits .and .u32 (bits .xor .u32 IntKind.u32.max (v.e.toNat : Int)) (v.g.toNat : Int)) + (kk.toNat : Int) + (sk.toNat : Int) +
    (bits .xor .u32 (bits .xor .u32 ((rotr v.a 2).toNat : Int) ((rotr v.a 13).toNat : Int)) ((rotr v.a 22).toNat : Int) +
      bits .xor .u32 (bits .xor .u32 (bits .and .u32 (v.a.toNat : Int) (v.b.toNat : Int)) (bits .and .u32 (v.a.toNat : Int) (v.c.toNat : Int))) (bits .and .u32 (v.b.toNat : Int) (v.c.toNat : Int)))) % 4294967296
    = ((rT v kk sk + rU v).toNat : Int) := by
  have h := rT_val v kk sk
  have hu : (bits .xor .u32 (bits .xor .u32 ((rotr v.a 2).toNat : Int) ((rotr v.a 13).toNat : Int)) ((rotr v.a 22).toNat : Int) +
      bits .xor .u32 (bits .xor .u32 (bits .and .u32 (v.a.toNat : Int) (v.b.toNat : Int)) (bits .and .u32 (v.a.toNat : Int) (v.c.toNat : Int))) (bits .and .u32 (v.b.toNat : Int) (v.c.toNat : Int))) % 4294967296 = ((rU v).toNat : Int) := by
    rw [b32_xor, b32_xor, b32_and, b32_and, b32_and, b32_xor, b32_xor]
    unfold rU
    rw [UInt32.toNat_add]
    show (((bsig0 v.a).toNat : Int) + ((most v.a v.b v.c).toNat : Int)) % 4294967296 = _
    omega
  rw [UInt32.toNat_add]
  omega

theorem round_e (v : W8) (kk sk : UInt32) : ((v.d.toNat : Int) + ((v.h.toNat : Int) + bits .xor .u32 (bits .xor .u32 ((rotr v.e 6).toNat : Int) ((rotr v.e 11).toNat : Int)) ((rotr v.e 25).toNat : Int) +
    bits .xor .u32 (bits .and .u32 (v.e.toNat : Int) (v.f.toNat : Int)) (bits .and .u32 (bits .xor .u32 IntKind.u32.max (v.e.toNat : Int)) (v.g.toNat : Int)) + (kk.toNat : Int) + (sk.toNat : Int))) % 4294967296 = ((v.d + rT v kk sk).toNat : Int) := by
  have h := rT_val v kk sk
  rw [UInt32.toNat_add]
  omega

theorem run_index64 (arr : Array Value) (k : Nat) (x : UInt32) (hk : k < 64) (hs : arr.size = 64) (h : arr[k]? = some (.int .u32 (x.toNat : Int))) (W : World) :
    (Instr.index 140 (.agg arr) (.int .i64 (k : Int))).run Tryd.prog W = .ok (.int .u32 (x.toNat : Int)) W := by
  have _hs := hs
  have h1 : (isAgg 132).run Tryd.prog W = .ok false W := by kernel_rfl
  have h2 : (sizeOf 132).run Tryd.prog W = .ok 1 W := by kernel_rfl
  have hk' : (k : Int) < 64 := by omega
  unfold Instr.index
  simp only [asIntOf, Sem.run_bind, Sem.run_pure, Result.andThen_ok, run_underlying Tryd.underlying140, part]
  simp [Sem.run_bind, Sem.run_pure, h2, hk', h]

set_option maxHeartbeats 2000000 in
set_option maxRecDepth 100000 in
theorem take_any (g b o c : Nat) (s : W8) (rv cv : Value) (T : TypeId) (K : Nat → UInt32) (l : List UInt8) (w : World) (hc : ∀ k, k < 64 → w.cell? ⟨b, o + k, none⟩ = some (.int .u8 (l.getD k 0).toNat))
    (hK : KCells w K) (hg : w.heap[g]? = some (.cells (w32 s.list ++ [rv, cv]).toArray T (0, 0))) :
    Calls Tryd.prog 82 #[.pointer (some ⟨g, 0, none⟩), .slice (some ⟨b, o, none⟩) 64 c] w fun e w' => e = .returned (.tuple #[]) ∧ Fr (· = g) w w' ∧
      w'.heap[g]? = some (.cells (w32 (compress K s l).list ++ [rv, cv]).toArray T (0, 0)) := by
  have hgc : ∀ j v, (w32 s.list ++ [rv, cv])[j]? = some v → w.cell? ⟨g, j, none⟩ = some v := fun j v h => by rw [cell_of_row _ _ _ _ _ _ hg]; simpa using h
  have c0 := hgc 0 _ rfl
  have c1 := hgc 1 _ rfl
  have c2 := hgc 2 _ rfl
  have c3 := hgc 3 _ rfl
  have c4 := hgc 4 _ rfl
  have c5 := hgc 5 _ rfl
  have c6 := hgc 6 _ rfl
  have c7 := hgc 7 _ rfl
  have HG := Lib.hid hg
  have HC := Lib.hid hc
  have HK := Lib.hid hK
  clear hg hgc hc hK
  go_enter Tryd.func82, Tryd.ntmps82
  go_wp2_with fail
  have hb0 : Below w.heap.size w (w.alloc (.cells #[Value.int IntKind.u32 ↑s.a.toNat, Value.int IntKind.u32 ↑s.b.toNat, Value.int IntKind.u32 ↑s.c.toNat, Value.int IntKind.u32 ↑s.d.toNat, Value.int IntKind.u32 ↑s.e.toNat, Value.int IntKind.u32 ↑s.f.toNat, Value.int IntKind.u32 ↑s.g.toNat, Value.int IntKind.u32 ↑s.h.toNat] 134)) := (Below.refl _ w).alloc (Nat.le_refl _) _
  refine (spread_fn b o c l _ (fun k hk => Keeps.of_below hb0 _ _ (HC.out k hk))).mono ?_
  rintro e w1 ⟨⟨arr, rfl, hsz, harr⟩, hb1⟩
  have hv1 : w1.heap[w.heap.size]? = some (.cells (w32 s.list).toArray 134 (0, 0)) := (hb1.block _ (by simp)).trans (heap_alloc_new w _)
  have hbw1 : Below w.heap.size w w1 := hb0.trans (hb1.mono (by simp))
  clear hb0 hb1 c0 c1 c2 c3 c4 c5 c6 c7
  have Hsz := Lib.hid hsz
  have Harr := Lib.hid harr
  clear hsz harr
  generalize hS : schedF l = S at *
  have HS := Lib.hid hS
  clear hS
  go_wp2_with fail
  go_loopw [17] (fun i wr => ∃ k : Nat, k ≤ 64 ∧ i = .int .i64 k ∧ Below w.heap.size w wr ∧ wr.heap[w.heap.size]? = some (.cells (w32 (rounds K S s k).list).toArray 134 (0, 0))) (fun i _ => 64 - (intOf i).toNat)
  case atStart => exact ⟨0, Nat.zero_le _, rfl, hbw1, hv1⟩
  case round =>
    obtain ⟨k, hk, rfl, hbel, hv⟩ := hrel
    have Hv := Lib.hid hv
    by_cases hlt : k < 64
    · have hcell : ∀ j u, (w32 (rounds K S s k).list)[j]? = some u → wr.cell? ⟨w.heap.size, j, none⟩ = some u := fun j u h => by rw [cell_of_row _ _ _ _ _ _ hv]; simpa using h
      have d0 := hcell 0 _ rfl
      have d1 := hcell 1 _ rfl
      have d2 := hcell 2 _ rfl
      have d3 := hcell 3 _ rfl
      have d4 := hcell 4 _ rfl
      have d5 := hcell 5 _ rfl
      have d6 := hcell 6 _ rfl
      have d7 := hcell 7 _ rfl
      have f0 : ∀ j, wr.frozen? ⟨w.heap.size, j, none⟩ = false := fun j => frozen_of_row _ _ _ _ _ hv
      have hKk := Keeps.of_below hbel _ _ (HK.out k hlt)
      have hR := Lib.hid (show rounds K S s (k + 1) = round (rounds K S s k) (K k) (S k) from rfl)
      generalize rounds K S s k = v at *
      have hidx : ∀ W : World, (Instr.index 140 (.agg arr) (.int .i64 (k : Int))).run Tryd.prog W = .ok (.int .u32 ((S k).toNat : Int)) W := fun W => run_index64 arr k (S k) hlt Hsz.out (Harr.out k hlt) W
      clear hcell hv hbw1 hv1
      generalize S k = sk at *
      generalize K k = kk at *
      have k0 : (0 : Int) ≤ (k : Int) := by omega
      have k1 : (k : Int) < 64 := by omega
      go_wp2_with fail
      go_quiet (fail)
      go_wp2_with fail
      go_quiet ((go_at_call 88; exact quiet_add_same (right_i _ _ _ (by decide) (by decide))))
      go_wp2_with fail
      go_quiet ((go_at_call 88; exact quiet_add_same (right_i _ _ _ (by decide) (by decide))))
      have hvq : ∀ q, (wr.drewN q).heap[w.heap.size]? = some (.cells (w32 v.list).toArray 134 (0, 0)) := fun q => Hv.out
      have Hvq := Lib.hid hvq
      clear hvq
      go_wp2_with (refine wpList_store_row rfl 134 (.tmp 4) (.tmp 94) rfl w.heap.size _ rfl rfl 134 (w32 v.list).toArray (Hvq.out _) info_w8 ?_ ?_ ?_; rotate_right)
      case refine_1 => simp [w32, W8.list]
      case refine_2 => simp [Value.oneCell']
      rw [round_a, round_e]
      refine ⟨⟨k + 1, by omega, by go_num, ?_, ?_⟩, by simp [intOf]; omega⟩
      · exact ⟨hbel.os, hbel.tape, hbel.output, by simpa [World.setRow] using hbel.size, fun i hi => (setRow_other _ _ _ _ (by omega)).trans (hbel.block i hi)⟩
      · rw [hR.out]
        exact setRow_heap _ _ _ _ _ _ Hv.out
    · have hk64 : k = 64 := by omega
      rw [hk64] at Hv
      clear hk64
      generalize hvv : rounds K S s 64 = v at *
      have HV := Lib.hid hvv
      clear hvv hv hbw1 hv1
      go_wp2
      go_loopw [96] (fun i wq => ∃ k : Nat, k ≤ 8 ∧ i = .int .i64 k ∧ Fr (· = g) w wq ∧ wq.heap[w.heap.size]? = some (.cells (w32 v.list).toArray 134 (0, 0)) ∧
        wq.heap[g]? = some (.cells (w32 (mix s v k) ++ [rv, cv]).toArray T (0, 0))) (fun i _ => 8 - (intOf i).toNat)
      case atStart => exact ⟨0, Nat.zero_le _, rfl, Fr.of_below hbel, Hv.out, (hbel.block g (Array.getElem?_eq_some_iff.1 HG.out).1).trans (by rw [HG.out, mix_zero])⟩
      case round =>
        obtain ⟨k, hk, rfl, hfr, hv, hg⟩ := hrel
        have Hv := Lib.hid hv
        have Hg := Lib.hid hg
        by_cases hlt : k < 8
        · have d1 : wr.cell? ⟨w.heap.size, k, none⟩ = some (.int .u32 ((v.list.getD k 0).toNat : Int)) := by
            rw [cell_of_row _ _ _ _ _ _ hv]
            simp only [List.getElem?_toArray, w32, List.getElem?_map, W8.get v k hlt]
            rfl
          have d0 : wr.cell? ⟨g, k, none⟩ = some (.int .u32 ((s.list.getD k 0).toNat : Int)) := by
            rw [cell_of_row _ _ _ _ _ _ hg]
            have := mix_get s v k hlt
            simp only [List.getElem?_toArray, w32]
            rw [List.getElem?_append_left (by rw [List.length_map, mix_size s v k hlt]; exact hlt), List.getElem?_map, this]
            rfl
          have f0 : wr.frozen? ⟨g, k, none⟩ = false := frozen_of_row _ _ _ _ _ hg
          clear hv hg
          have k0 : (0 : Int) ≤ (k : Int) := by omega
          have k1 : (k : Int) < 8 := by omega
          have HX := Lib.hid (mix_succ s v k hlt)
          generalize v.list.getD k 0 = vk at *
          generalize s.list.getD k 0 = sk at *
          go_wp2_with fail
          go_still_tail 10, (by kernel_rfl)
          change wpList _ _ _ _ _ wr.drew
          go_wp2
          refine ⟨⟨k + 1, by omega, by go_num, ?_, ?_, ?_⟩, by simp [intOf]; omega⟩
          · exact (hfr.setCell (fun _ => rfl) _).drew
          · refine (heap_setCell_other _ _ _ _ ?_).trans Hv.out
            have := (Array.getElem?_eq_some_iff.1 HG.out).1
            simp; omega
          · rw [HX.out]
            refine (heap_setCell_same _ _ _ _ _ _ Hg.out).trans ?_
            rw [show ((sk.toNat : Int) + (vk.toNat : Int)) % 4294967296 = ((sk + vk).toNat : Int) by rw [UInt32.toNat_add]; omega,
              set_w32 _ _ _ _ _ (by rw [mix_size s v k hlt]; exact hlt)]
        · have hk8 : k = 8 := by omega
          rw [hk8, mix_eight] at hg
          have HE := Lib.hid (show (s.add v) = compress K s l by rw [← HV.out, ← HS.out]; rfl)
          rw [HE.out] at hg
          have Hg' := Lib.hid hg
          clear hg hv hk8
          go_wp2
          go_end0
          exact ⟨rfl, hfr, Hg'.out⟩
end Go.Proofs.YtjodehdmafagoaaDoor
