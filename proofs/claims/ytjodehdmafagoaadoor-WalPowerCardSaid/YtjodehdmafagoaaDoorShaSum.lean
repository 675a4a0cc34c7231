/- sha.Sum, sha.Text -/
import Derived.Test.YtjodehdmafagoaaDoorHashSum
namespace Go.Proofs.YtjodehdmafagoaaDoor
open Go.RowKit

/-- The hash of these bytes. -/
def shaB (K : Nat → UInt32) (s0 : W8) (l : List UInt8) : List UInt8 := digest (blocks K s0 (l ++ padOf l.length l.length)).1
theorem shaB_length (K : Nat → UInt32) (s0 : W8) (l : List UInt8) : (shaB K s0 l).length = 32 := digest_length _

theorem padOf_rest (K : Nat → UInt32) (s0 : W8) (l : List UInt8) (n : Nat) : padOf (blocks K s0 l).2.length n = padOf l.length n := by
  have h := (blocks_rest K l.length s0 l (Nat.le_refl _)).2
  unfold padOf padZ
  rw [h]
  have e : (l.length % 64 + 9) % 64 = (l.length + 9) % 64 := by omega
  rw [e]

theorem HashIs_sum {K : Nat → UInt32} {s0 : W8} (l : List UInt8) : digest (blocks K (blocks K s0 l).1 ((blocks K s0 l).2 ++ padOf (blocks K s0 l).2.length l.length)).1 = shaB K s0 l := by
  rw [blocks_append K l.length s0 l _ (Nat.le_refl _), padOf_rest]
  rfl

/-- A sum of a hash of all these bytes. -/
theorem HashSum_is (g B : Nat) (ro : Option Nat) (K : Nat → UInt32) (s0 : W8) (all : List UInt8) (w : World) (hh : HashIs w B g ro K s0 all) (hK : KCells w K) (hKB : 29 < w.heap.size) (hlen : all.length ≤ 549755813888) :
    Calls Tryd.prog 80 #[.pointer (some ⟨g, 0, none⟩)] w fun e w' => e = .returned (.agg (bcells (shaB K s0 all)).toArray) ∧ Below w.heap.size w w' := by
  have hr := blocks_rest K all.length s0 all (Nat.le_refl _)
  refine (HashSum_any g B all.length ro K _ _ w hh hK hKB (by omega) hlen).mono ?_
  rintro e w' ⟨rfl, h⟩
  exact ⟨by rw [HashIs_sum], h⟩

/-- A write into it. -/
theorem Write_is (g n c B : Nat) (A : Option Addr) (ro : Option Nat) (K : Nat → UInt32) (s0 : W8) (all b : List UInt8) (w : World) (hh : HashIs w B g ro K s0 all) (hb : RB w A n b) (hK : KCells w K)
    (hKB : 29 < B) (hlen : all.length + b.length ≤ 1099511627776) :
    Calls Tryd.prog 79 #[.pointer (some ⟨g, 0, none⟩), .slice A n c] w fun e w' => e = .returned (.tuple #[]) ∧ Fr (fun k => k = g ∨ some k = ro) w w' ∧
      ∃ ro', HashIs w' B g ro' K s0 (all ++ b) ∧ (ro' = ro ∨ ∃ k, ro' = some k ∧ w.heap.size ≤ k) := by
  have hr := blocks_rest K all.length s0 all (Nat.le_refl _)
  refine (Write_any g n c B A ro K _ _ b all.length w hh hb hK hKB (by omega) hlen).mono ?_
  rintro e w' ⟨rfl, h, ro', h2, h3⟩
  refine ⟨rfl, h, ro', ?_, h3⟩
  unfold HashIs
  rw [← blocks_append K all.length s0 all b (Nat.le_refl _), List.length_append]
  exact h2

theorem HashIs.below {w w' : World} {B g : Nat} {ro : Option Nat} {K : Nat → UInt32} {s0 : W8} {all : List UInt8} (h : HashIs w B g ro K s0 all) (hf : Below w.heap.size w w') : HashIs w' B g ro K s0 all := HashAt.below h hf

theorem flat_take (ls : List (List UInt8)) (k : Nat) (h : k < ls.length) : (ls.take (k + 1)).flatten = (ls.take k).flatten ++ ls.getD k [] := by
  rw [List.take_succ_eq_append_getElem h, List.flatten_append, List.getD_eq_getElem?_getD, List.getElem?_eq_getElem h]
  simp

theorem flat_take_le (ls : List (List UInt8)) (k : Nat) : (ls.take k).flatten.length ≤ ls.flatten.length := by
  have h := congrArg List.length (congrArg List.flatten (List.take_append_drop k ls))
  rw [List.flatten_append, List.length_append] at h
  omega

set_option maxHeartbeats 1000000 in
set_option maxRecDepth 100000 in
theorem Sum_any (A : Option Addr) (n c : Nat) (ls : List (List UInt8)) (K : Nat → UInt32) (s0 : W8) (w : World) (hl : RBL w A n ls) (hK : KCells w K) (hF : FirstCells w s0) (hKB : 29 < w.heap.size)
    (hn : n ≤ maxLen) (hlen : ls.flatten.length ≤ 549755813888) :
    Calls Tryd.prog 75 #[.slice A n c] w fun e w' => e = .returned (.agg (bcells (shaB K s0 ls.flatten)).toArray) ∧ Below w.heap.size w w' := by
  have Hl := Lib.hid hl
  have HK := Lib.hid hK
  have HF := Lib.hid hF
  clear hl hK hF
  unfold maxLen at hn
  have Hlen : Hid (∀ k, (ls.take k).flatten.length ≤ 549755813888) := fun k => Nat.le_trans (flat_take_le ls k) hlen
  go_enter Tryd.func75, Tryd.ntmps75
  have ka : ∀ o, Keeps w (w.alloc o) := fun o => Keeps.of_below ((Below.refl _ w).alloc (Nat.le_refl _) o)
  go_wp2_with (first
    | (go_at_call 78; refine (New_any _ s0 K (HF.out.keep (ka _))).mono ?_; rintro e w1 ⟨rfl, hh1, hbel1⟩; rw [show ∀ o, (w.alloc o).heap.size = w.heap.size + 1 from fun o => by simp] at hh1; have Hh1 := Lib.hid hh1; have Hbel1 := Lib.hid hbel1; clear hh1 hbel1)
    | fail)
  have hbw1 : Below w.heap.size w w1 := ((Below.refl _ w).alloc (Nat.le_refl _) _).trans (Hbel1.out.mono (by simp))
  have Hbw1 := Lib.hid hbw1
  have Hz1 := Lib.hid ((Hbel1.out.block w.heap.size (by simp)).trans (heap_alloc_new w _))
  have hs1 : w.heap.size + 1 ≤ w1.heap.size := by have := Hbel1.out.size; simpa using this
  have Hs1 := Lib.hid hs1
  clear hbw1 hs1
  have HLs := Lib.hid Hl.out.1
  go_loopg [9] n (fun k s9 wr => ∃ (i : Nat) (ro : Option Nat), s9 = .int .i64 (i : Int) ∧ i + k = n ∧ HashIs wr (w.heap.size + 1) (w.heap.size + 1) ro K s0 (ls.take i).flatten ∧ Below (w.heap.size + 1) w1 wr)
  case atStart =>
    refine ⟨0, none, rfl, by omega, ?_, Below.refl _ _⟩
    exact Hh1.out
  case round =>
    obtain ⟨i, ro, rfl, hik, hh, hbel⟩ := hrel
    have Hh := Lib.hid hh
    have Hbel := Lib.hid hbel
    have Hbw := Lib.hid (Hbw1.out.trans (hbel.mono (Nat.le_succ _)))
    clear hh hbel
    have Hkw := Lib.hid (Keeps.of_below Hbw.out)
    by_cases hi : i < n
    · obtain ⟨b, o, hA, hb⟩ := Hl.out.2 (by omega)
      obtain ⟨v, c1, A', c', hv, hc1, hc2, hrb⟩ := hb i hi
      subst hv
      have c2 := Hkw.out _ _ c1
      have Hrb := Lib.hid (hrb.keep Hkw.out)
      subst hA
      clear hb c1 hrb
      have i0 : (0 : Int) ≤ (i : Int) := by omega
      have i1 : (i : Int) < (n : Int) := by omega
      generalize hx : ls.getD i [] = x at *
      have Hx := Lib.hid hx
      clear hx
      go_wp2_with (first
        | (go_at_call 79; refine (Write_is (w.heap.size + 1) _ c' (w.heap.size + 1) A' ro K s0 _ x wr Hh.out Hrb.out (HK.out.keep Hkw.out) (Nat.lt_succ_of_lt hKB) ?_).mono ?_; rotate_left; rintro e w2 ⟨rfl, hfr2, ro2, hh2, hro2⟩; have Hfr2 := Lib.hid hfr2; have Hh2 := Lib.hid hh2; have Hro2 := Lib.hid hro2; clear hfr2 hh2 hro2)
        | fail)
      case refine_1 =>
        have := Hlen.out (i + 1)
        rw [flat_take ls i (by rw [HLs.out]; exact hi), Hx.out, List.length_append] at this
        omega
      go_roundg (gk - 1)
      case measure => omega
      case rel =>
        refine ⟨i + 1, ro2, by go_num, by omega, ?_, Hbel.out.trans (Hfr2.out.below (Nat.le_trans Hs1.out Hbel.out.size) fun j _ hs => ?_)⟩
        · rw [flat_take ls i (by rw [HLs.out]; exact hi), Hx.out]
          exact Hh2.out
        · rcases hs with h | h
          · omega
          · exact (Hh.out.rlt _ h.symm).1
    · obtain rfl : i = n := by omega
      have hall : (ls.take i).flatten = ls.flatten := by rw [List.take_of_length_le (by rw [HLs.out]; exact Nat.le_refl _)]
      rw [hall] at Hh
      have Hz := Lib.hid ((Hbel.out.block w.heap.size (Nat.lt_succ_self _)).trans Hz1.out)
      have HB1 : Hid ((bcells (shaB K s0 ls.flatten)).toArray.all (·.oneCell') = true) := by
        show _ = true
        rw [Array.all_eq_true_iff_forall_mem]
        intro y hy
        exact bcells_one _ y (by simpa using hy)
      have hcs : (bcells (shaB K s0 ls.flatten)).toArray.size = 32 := by simp [bcells, shaB_length]
      obtain ⟨cur, hcur⟩ : ∃ cur, cur = (bcells (shaB K s0 ls.flatten)).toArray := ⟨_, rfl⟩
      rw [← hcur] at hcs HB1
      have HCur := Lib.hid hcur
      have Hcs := Lib.hid hcs
      clear hcur hcs hall
      go_wp2_with (first
        | (go_at_call 80; refine (HashSum_is (w.heap.size + 1) (w.heap.size + 1) ro K s0 ls.flatten wr Hh.out (HK.out.keep Hkw.out) (by have := Hbw.out.size; omega) hlen).mono ?_; rintro e w3 ⟨rfl, hbel3⟩; rw [← HCur.out]; have Hbel3 := Lib.hid hbel3; have Hz3 := Lib.hid ((hbel3.block w.heap.size (Array.getElem?_eq_some_iff.1 Hz.out).1).trans Hz.out); clear hbel3)
        | (refine wpList_store_row rfl 116 (.tmp 2) (.tmp 18) rfl w.heap.size cur rfl rfl 116 _ Hz3.out (by rw [Hcs.out]; exact info_32) (by rw [Hcs.out]; simp) HB1.out ?_)
        | fail)
      refine bodyPost_ret (results_cell_row rfl _ _ w.heap.size 116 cur (0, 0) _ rfl (setRow_heap _ _ _ _ _ _ Hz3.out) Tryd.underlying116 rfl (by rw [Hcs.out]; exact info_32)) rfl ⟨by rw [HCur.out], ?_⟩
      have hb2 : Below w.heap.size w w3 := Hbw.out.trans (Hbel3.out.mono Hbw.out.size)
      exact ⟨hb2.os, hb2.tape, hb2.output, by simpa [World.setRow] using hb2.size, fun i hi => (setRow_other _ _ _ _ (by omega)).trans (hb2.block i hi)⟩
end Go.Proofs.YtjodehdmafagoaaDoor
