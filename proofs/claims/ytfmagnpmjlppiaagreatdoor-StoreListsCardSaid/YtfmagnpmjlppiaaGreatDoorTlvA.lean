/- Layer 3 (tlv): tags, elements' bytes. -/
import Derived.Test.YtfmagnpmjlppiaaGreatDoorWho
import Derived.Test.YtfmagnpmjlppiaaGreatDoorSha
namespace Go.Proofs.YtfmagnpmjlppiaaGreatDoor
open Go.RowKit

set_option maxHeartbeats 1000000 in
theorem Index_in (g n c : Nat) (L : List Int) (x : Int) (w : World) (hn : L.length = n) (hn2 : n ≤ 100) (hx : x ∈ L) (hc : ∀ i, i < n → w.cell? ⟨g, i, none⟩ = some (.int .i64 (L.getD i 0))) :
  Calls Tryz.prog 208 #[.slice (some ⟨g, 0, none⟩) n c, .int .i64 x] w fun e w' => ∃ i : Nat, e = .returned (.int .i64 (i : Int)) ∧ w = w' := by
 have HC := Hj hc
 have HX : Hid (∃ j, j < n ∧ L.getD j 0 = x) := Hj (by
  obtain ⟨j, hj, e⟩ := List.mem_iff_getElem.1 hx
  exact ⟨j, by omega, by rw [List.getD_eq_getElem?_getD, List.getElem?_eq_getElem hj]; exact e⟩)
 have HN2 := Hj hn2
 clear hc hx hn
 go_enter Tryz.func208, Tryz.ntmps208
 go_wp2
 go_loopg [8] n (fun gk s8 wr => ∃ i : Nat, i + gk = n ∧ s8 = .int .i64 (i : Int) ∧ (∀ j, j < i → L.getD j 0 ≠ x) ∧ wr = w)
 case atStart => exact ⟨0, by omega, rfl, fun j hj => absurd hj (by omega), rfl⟩
 case round =>
  obtain ⟨i, hi, rfl, hall, rfl⟩ := hrel
  have HI := Hj hi
  have HAll := Hj hall
  by_cases hlt : i < n
  ·have ci := HC.out i hlt
   obtain ⟨y, hy⟩ : ∃ y, y = L.getD i 0 := ⟨_, rfl⟩
   rw [← hy] at ci
   have HY := Hj hy
   have i0 : (0 : Int) ≤ (i : Int) := by omega
   have i1 : (i : Int) < (n : Int) := by omega
   have i2 : (n : Int) ≤ 100 := by omega
   clear hi hall hlt hy
   by_cases he : x = y
   ·have q1 : (x == y) = true := by rw [he]; simp
    clear he
    go_wp2
    go_ret
    exact ⟨i, rfl, rfl⟩
   ·have q1 : (x == y) = false := beq_eq_false_iff_ne.2 he
    have HE := Hj he
    clear he
    go_wp2
    go_roundg (gk - 1)
    case measure => have := HI.out; omega
    case rel => exact ⟨i + 1, by have := HI.out; omega, by go_num, fun j hj => by
     by_cases e : j = i
     ·subst e; rw [← HY.out]; exact fun h => HE.out h.symm
     ·exact HAll.out j (by omega), rfl⟩
  ·obtain ⟨j, hj, e⟩ := HX.out
   exact absurd e (hall j (by omega))
theorem Contains_in (g n c : Nat) (L : List Int) (x : Int) (w : World) (hn : L.length = n) (hn2 : n ≤ 100) (hx : x ∈ L) (hc : ∀ i, i < n → w.cell? ⟨g, i, none⟩ = some (.int .i64 (L.getD i 0))) :
  Calls Tryz.prog 179 #[.slice (some ⟨g, 0, none⟩) n c, .int .i64 x] w fun e w' => e = .returned (.bool true) ∧ w = w' := by
 have HI := Hj (Index_in g n c L x w hn hn2 hx hc)
 clear hn hn2 hx hc
 go_enter Tryz.func179, Tryz.ntmps179
 go_wp2_with (go_at_call 208; go_loud ((with_reducible refine HI.out.mono ?_); rintro e w1 ⟨i, rfl, rfl⟩; have i0 : (0 : Int) ≤ (i : Int) := (by omega)))
 go_ret
 exact ⟨rfl, rfl⟩
def plainT : List Int := [1, 2, 3, 4, 5, 6, 10, 12, 24]
theorem plain_any (w : World) : Calls Tryz.prog 180 #[] w fun e w' => e = .returned (.slice (some ⟨w.heap.size, 0, none⟩) 9 9) ∧ (∀ i, i < 9 → w'.cell? ⟨w.heap.size, i, none⟩ = some (.int .i64 (plainT.getD i 0))) ∧ Below w.heap.size w w' := by
 go_enter Tryz.func180, Tryz.ntmps180
 go_wp2
 go_ret
 refine ⟨rfl, fun i hi => ?_, (Below.refl _ w).alloc Kj _⟩
 rw [cell_of_row _ _ _ _ _ _ (heap_alloc_new w _)]
 have : i = 0 ∨ i = 1 ∨ i = 2 ∨ i = 3 ∨ i = 4 ∨ i = 5 ∨ i = 6 ∨ i = 7 ∨ i = 8 := by omega
 rcases this with rfl | rfl | rfl | rfl | rfl | rfl | rfl | rfl | rfl <;> rfl
theorem Made_list (w : World) : Calls Tryz.prog 129 #[.int .i64 48] w fun e w' => e = .returned (.bool true) ∧ w = w' := by
 go_enter Tryz.func129, Tryz.ntmps129
 go_wp2
 go_ret
 exact ⟨rfl, rfl⟩
theorem Made_plain (x : Int) (w : World) (h : x ∈ plainT) : Calls Tryz.prog 129 #[.int .i64 x] w fun e w' => e = .returned (.bool false) ∧ w = w' := by
 have hx : x < 48 ∧ 0 < x := by simp [plainT] at h; omega
 have q1 : (x == 48) = false := beq_eq_false_iff_ne.2 (by omega)
 have q2 : (x == 49) = false := beq_eq_false_iff_ne.2 (by omega)
 have q3 : decide (x ≥ 160) = false := decide_eq_false (by omega)
 have q3' : decide (160 ≤ x) = false := decide_eq_false (by omega)
 clear h hx
 go_enter Tryz.func129, Tryz.ntmps129
 go_wp2
 go_ret
 exact ⟨rfl, rfl⟩
/-- A list's tag, or one of the plain ones. -/
def Tag (x : Int) : Prop := x = 48 ∨ x ∈ plainT
theorem Known_any (x : Int) (w : World) (h : Tag x) : Calls Tryz.prog 123 #[.int .i64 x] w fun e w' => e = .returned (.bool true) ∧ Below w.heap.size w w' := by
 rcases h with rfl | h
 ·go_enter Tryz.func123, Tryz.ntmps123
  go_wp2_with (go_at_call 129; go_loud ((with_reducible refine (Made_list w).mono ?_); rintro e w1 ⟨rfl, rfl⟩))
  go_ret
  exact ⟨rfl, Below.refl _ _⟩
 ·have HM := Hj (Made_plain x w h)
  have HC := Hj (fun (W : World) (g : Nat) (hc : ∀ i, i < 9 → W.cell? ⟨g, i, none⟩ = some (.int .i64 (plainT.getD i 0))) => Contains_in g 9 9 plainT x W rfl (by decide) h hc)
  clear h
  go_enter Tryz.func123, Tryz.ntmps123
  go_wp2_with (first
   | (go_at_call 129; go_loud ((with_reducible refine HM.out.mono ?_); rintro e w1 ⟨rfl, rfl⟩))
   | (go_at_call 180; go_loud ((with_reducible refine (plain_any w).mono ?_); rintro e w2 ⟨rfl, hc2, hb2⟩; have C2 := Hj hc2; have B2 := Hj hb2; clear hc2 hb2))
   | (go_at_call 179; go_loud ((with_reducible refine (HC.out w2 w.heap.size C2.out).mono ?_); rintro e w3 ⟨rfl, rfl⟩))
   | fail)
  go_ret
  exact ⟨rfl, B2.out⟩
end Go.Proofs.YtfmagnpmjlppiaaGreatDoor
