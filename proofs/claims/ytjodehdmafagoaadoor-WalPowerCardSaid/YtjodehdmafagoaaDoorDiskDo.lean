/- disk.image.do: an area behind a change, in memory. -/
import Derived.Test.YtjodehdmafagoaaDoorDiskP
import Derived.Test.YtjodehdmafagoaaDoorZeros
import Derived.Deep.RegionHeld3
import Derived.Deep.RegionLaw
import Derived.OneCell
import Derived.StillTailTactics
namespace Go.Proofs.YtjodehdmafagoaaDoor
open Go.RowKit

/-- The blocks that an area's change may turn: the disk's own and the area's. -/
def doS (g : Nat) (v : Value) (k : Nat) : Prop := k = g ∨ v.ownBlock = some k

theorem OB.cutTo {w : World} {B n c : Nat} {A : Option Addr} {l : List UInt8} (h : OB w B (.slice A n c) l) (k : Nat) (hk : k ≤ l.length) : OB w B (.slice A k c) (l.take k) := by
  obtain ⟨h1, h2⟩ := h
  have hl : (l.take k).length = k := by rw [List.length_take]; omega
  refine ⟨by rw [bcells_length, Nat.mul_one], ?_⟩
  rw [hl]
  rcases h2 with ⟨h2, h3⟩ | ⟨g, o, cap, cur, h2, h3, h4, h5, h6, h7, h8⟩
  · injection h2 with e1 e2 e3
    subst e1; subst e2; subst e3
    have : k = 0 := by omega
    subst this
    exact .inl ⟨rfl, rfl⟩
  · injection h2 with e1 e2 e3
    subst e1; subst e2; subst e3
    refine .inr ⟨g, o, c, cur, rfl, h3, h4, by omega, h6, h7, ?_⟩
    have : (List.drop o cur.toList).take (k * 1) = (bcells l).take k := by
      rw [← h8, List.take_take, Nat.mul_one, Nat.mul_one, Nat.min_eq_left hk]
    rw [this]
    simp [bcells, List.map_take]

set_option maxHeartbeats 4000000 in
set_option maxRecDepth 100000 in
theorem do_cut (g off a pos : Nat) (cs : Array Value) (A : Option Addr) (n c : Nat) (l : List UInt8) (cb : Value) (w : World) (hg : w.heap[g]? = some (.cells cs 68 (0, 0))) (ha : a < 3)
    (hc : cs[off + a]? = some (.slice A n c)) (hown : OB w 0 (.slice A n c) l) (hn : l.length = n) (hncap : n ≤ c) (hl : l.length ≤ 1048576) (hp : pos ≤ 1048576) :
    Calls Tryd.prog 41 #[.pointer (some ⟨g, off, none⟩), .agg #[.int .i64 (a : Int), .int .i64 (pos : Int), cb, .bool true]] w fun e w' => e = .returned (.tuple #[]) ∧
      w'.heap[g]? = some (.cells (cs.setIfInBounds (off + a) (.slice A (min pos n) c)) 68 (0, 0)) ∧ OB w' 0 (.slice A (min pos n) c) (l.take pos) ∧ Fr (fun k => k = g) w w' := by
  have Hg := Lib.hid hg
  have Hown := Lib.hid hown
  have c0 : w.cell? ⟨g, off + a, none⟩ = some (.slice A n c) := by rw [cell_of_row _ _ _ _ _ _ hg]; exact hc
  have f0 : w.frozen? ⟨g, off + a, none⟩ = false := frozen_of_row _ _ _ _ _ hg
  have D0 := (Below.refl w.heap.size w).alloc (Nat.le_refl _) (.cells #[.int .i64 (a : Int), .int .i64 (pos : Int), cb, .bool true] 73)
  have c0a := Keeps.of_below D0 _ _ c0
  have f0a : (w.alloc (.cells #[.int .i64 (a : Int), .int .i64 (pos : Int), cb, .bool true] 73)).frozen? ⟨g, off + a, none⟩ = false := by
    rw [D0.frozen (World.block_lt_of_cell? w _ c0)]; exact f0
  have a0 : (0 : Int) ≤ (a : Int) := by omega
  have a1 : (a : Int) < 3 := by omega
  clear hg hown
  go_enter Tryd.func41, Tryd.ntmps41
  go_wp2
  go_quiet (fail)
  go_wp2
  obtain ⟨w1, hw1⟩ : ∃ W, W = (w.alloc (.cells #[.int .i64 (a : Int), .int .i64 (pos : Int), cb, .bool true] 73)).drewN nq := ⟨_, rfl⟩
  have D1 : Below w.heap.size w w1 := by rw [hw1]; exact below_drewN D0 nq
  have b0 : w1.cell? ⟨w.heap.size, 0, none⟩ = some (.int .i64 (a : Int)) := by rw [hw1]; exact cell_of_row _ _ 0 _ _ _ (heap_alloc_new w _)
  have b1 : w1.cell? ⟨w.heap.size, 1, none⟩ = some (.int .i64 (pos : Int)) := by rw [hw1]; exact cell_of_row _ _ 1 _ _ _ (heap_alloc_new w _)
  have b2 : w1.cell? ⟨g, off + a, none⟩ = some (.slice A n c) := by rw [hw1]; exact c0a
  have b3 : w1.frozen? ⟨g, off + a, none⟩ = false := by rw [hw1]; exact f0a
  rw [← hw1]
  have HD1 := Lib.hid D1
  clear hw1 c0 f0 c0a f0a D0 D1
  have hrow : ∀ (x : Value), (w1.setCell ⟨g, off + a, none⟩ x).heap[g]? = some (.cells (cs.setIfInBounds (off + a) x) 68 (0, 0)) := fun x => heap_setCell_same _ _ _ _ _ _ ((HD1.out.block g (Array.getElem?_eq_some_iff.1 Hg.out).1).trans Hg.out)
  have Hrow := Lib.hid hrow
  have hne : ∀ q, (Value.slice A n c).ownBlock = some q → q ≠ g := fun q hq e => by
    subst e
    rcases Hown.out.2 with ⟨h1, _⟩ | ⟨g', o', cap', cur, h1, _, h3, _⟩
    · rw [h1] at hq; cases hq
    · rw [h1] at hq
      injection hq with hq
      subst hq
      rw [Hg.out] at h3
      injection h3 with h3
      injection h3 with _ h3 _
      exact absurd h3 (by decide)
  have Hne := Lib.hid hne
  clear hrow hne
  by_cases hpn : pos ≤ n
  · have hm : (n < pos) = False := eq_false (by omega)
    have hpc : (pos : Int) ≤ (c : Int) := by omega
    have hp0 : (0 : Int) ≤ (pos : Int) := by omega
    have HM : Hid (min pos n = pos) := Lib.hid (by omega)
    go_still_tail 12, (by kernel_rfl)
    change wpList _ _ _ _ _ w1.drew
    go_wp2
    refine bodyPost_ret (results_none rfl _ _ _) rfl ⟨rfl, ?_, ?_, ((Fr.of_below (S := fun k => k = g) HD1.out).setCell (p := ⟨g, off + a, none⟩) (fun _ => rfl) _).drew⟩
    · rw [HM.out]; exact Hrow.out _
    · rw [HM.out]
      exact OB.cutTo (OB.keepB (OB.below Hown.out HD1.out) fun k hk => Below.heap_setCell w1 ⟨g, off + a, none⟩ _ k (Hne.out k hk)) pos (by omega)
  · have hm : (n < pos) = True := eq_true (by omega)
    have hpc : (n : Int) ≤ (c : Int) := by omega
    have hp0 : (0 : Int) ≤ (n : Int) := by omega
    have HM : Hid (min pos n = n) := Lib.hid (by omega)
    have HT : Hid (l.take pos = l.take n) := Lib.hid (by rw [List.take_of_length_le (by omega), List.take_of_length_le (by omega)])
    go_still_tail 12, (by kernel_rfl)
    change wpList _ _ _ _ _ w1.drew
    go_wp2
    refine bodyPost_ret (results_none rfl _ _ _) rfl ⟨rfl, ?_, ?_, ((Fr.of_below (S := fun k => k = g) HD1.out).setCell (p := ⟨g, off + a, none⟩) (fun _ => rfl) _).drew⟩
    · rw [HM.out]; exact Hrow.out _
    · rw [HM.out, HT.out]
      exact OB.cutTo (OB.keepB (OB.below Hown.out HD1.out) fun k hk => Below.heap_setCell w1 ⟨g, off + a, none⟩ _ k (Hne.out k hk)) n (by omega)
end Go.Proofs.YtjodehdmafagoaaDoor
