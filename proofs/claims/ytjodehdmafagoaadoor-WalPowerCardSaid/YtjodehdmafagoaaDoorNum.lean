/- bullanum.Num: the number of an error. -/
import Derived.Test.YtjodehdmafagoaaDoorIs
import Derived.Deep.LoopGhost
namespace Go.Proofs.YtjodehdmafagoaaDoor
open Go.RowKit

theorem Num_nil (w : World) : Calls Tryd.prog 19 #[.nilIface] w fun e w' => e = .returned (.int .i64 0) ∧ w = w' := by
  go_enter Tryd.func19, Tryd.ntmps19
  go_wp2
  go_ret
  exact ⟨rfl, rfl⟩
def errCells (ea : Nat → Addr) : Array Value := #[.iface 143 (.pointer (some (ea 1))), .iface 143 (.pointer (some (ea 2))), .iface 143 (.pointer (some (ea 3))), .iface 143 (.pointer (some (ea 4))), .iface 143 (.pointer (some (ea 5))), .iface 143 (.pointer (some (ea 6))), .iface 143 (.pointer (some (ea 7))), .iface 143 (.pointer (some (ea 8))), .iface 143 (.pointer (some (ea 9))), .iface 143 (.pointer (some (ea 10))), .iface 143 (.pointer (some (ea 11))), .iface 143 (.pointer (some (ea 12))), .iface 143 (.pointer (some (ea 13))), .iface 143 (.pointer (some (ea 14))), .iface 143 (.pointer (some (ea 15))), .iface 143 (.pointer (some (ea 16))), .iface 143 (.pointer (some (ea 17))), .iface 143 (.pointer (some (ea 18))), .iface 143 (.pointer (some (ea 19))), .iface 143 (.pointer (some (ea 20))), .iface 143 (.pointer (some (ea 21))), .iface 143 (.pointer (some (ea 22))), .iface 143 (.pointer (some (ea 23))), .iface 143 (.pointer (some (ea 24))), .iface 143 (.pointer (some (ea 25))), .iface 143 (.pointer (some (ea 26))), .iface 143 (.pointer (some (ea 27))), .iface 143 (.pointer (some (ea 28)))]
theorem errCells_get (ea : Nat → Addr) (k : Nat) (h : k < 28) : (errCells ea)[k]? = some (.iface 143 (.pointer (some (ea (k + 1))))) := by
  match k, h with
  | 0, _ => rfl
  | 1, _ => rfl
  | 2, _ => rfl
  | 3, _ => rfl
  | 4, _ => rfl
  | 5, _ => rfl
  | 6, _ => rfl
  | 7, _ => rfl
  | 8, _ => rfl
  | 9, _ => rfl
  | 10, _ => rfl
  | 11, _ => rfl
  | 12, _ => rfl
  | 13, _ => rfl
  | 14, _ => rfl
  | 15, _ => rfl
  | 16, _ => rfl
  | 17, _ => rfl
  | 18, _ => rfl
  | 19, _ => rfl
  | 20, _ => rfl
  | 21, _ => rfl
  | 22, _ => rfl
  | 23, _ => rfl
  | 24, _ => rfl
  | 25, _ => rfl
  | 26, _ => rfl
  | 27, _ => rfl
  | k + 28, h => omega

set_option maxHeartbeats 1000000 in
set_option maxRecDepth 100000 in
theorem Num_err {w : World} {ea : Nat → Addr} (he : Errs w ea) (n : Nat) (h1 : 1 ≤ n) (h2 : n ≤ 28) :
    Calls Tryd.prog 19 #[.iface 143 (.pointer (some (ea n)))] w fun e w' => e = .returned (.int .i64 (n : Int)) ∧ Below w.heap.size w w' := by
  have c1 : w.cell? ⟨0, 0, none⟩ = some (.iface 143 (.pointer (some (ea 1)))) := he.cell 1 (by omega) (by omega)
  have c2 : w.cell? ⟨5, 0, none⟩ = some (.iface 143 (.pointer (some (ea 2)))) := he.cell 2 (by omega) (by omega)
  have c3 : w.cell? ⟨4, 0, none⟩ = some (.iface 143 (.pointer (some (ea 3)))) := he.cell 3 (by omega) (by omega)
  have c4 : w.cell? ⟨2, 0, none⟩ = some (.iface 143 (.pointer (some (ea 4)))) := he.cell 4 (by omega) (by omega)
  have c5 : w.cell? ⟨6, 0, none⟩ = some (.iface 143 (.pointer (some (ea 5)))) := he.cell 5 (by omega) (by omega)
  have c6 : w.cell? ⟨7, 0, none⟩ = some (.iface 143 (.pointer (some (ea 6)))) := he.cell 6 (by omega) (by omega)
  have c7 : w.cell? ⟨8, 0, none⟩ = some (.iface 143 (.pointer (some (ea 7)))) := he.cell 7 (by omega) (by omega)
  have c8 : w.cell? ⟨9, 0, none⟩ = some (.iface 143 (.pointer (some (ea 8)))) := he.cell 8 (by omega) (by omega)
  have c9 : w.cell? ⟨10, 0, none⟩ = some (.iface 143 (.pointer (some (ea 9)))) := he.cell 9 (by omega) (by omega)
  have c10 : w.cell? ⟨11, 0, none⟩ = some (.iface 143 (.pointer (some (ea 10)))) := he.cell 10 (by omega) (by omega)
  have c11 : w.cell? ⟨12, 0, none⟩ = some (.iface 143 (.pointer (some (ea 11)))) := he.cell 11 (by omega) (by omega)
  have c12 : w.cell? ⟨13, 0, none⟩ = some (.iface 143 (.pointer (some (ea 12)))) := he.cell 12 (by omega) (by omega)
  have c13 : w.cell? ⟨14, 0, none⟩ = some (.iface 143 (.pointer (some (ea 13)))) := he.cell 13 (by omega) (by omega)
  have c14 : w.cell? ⟨15, 0, none⟩ = some (.iface 143 (.pointer (some (ea 14)))) := he.cell 14 (by omega) (by omega)
  have c15 : w.cell? ⟨16, 0, none⟩ = some (.iface 143 (.pointer (some (ea 15)))) := he.cell 15 (by omega) (by omega)
  have c16 : w.cell? ⟨17, 0, none⟩ = some (.iface 143 (.pointer (some (ea 16)))) := he.cell 16 (by omega) (by omega)
  have c17 : w.cell? ⟨18, 0, none⟩ = some (.iface 143 (.pointer (some (ea 17)))) := he.cell 17 (by omega) (by omega)
  have c18 : w.cell? ⟨19, 0, none⟩ = some (.iface 143 (.pointer (some (ea 18)))) := he.cell 18 (by omega) (by omega)
  have c19 : w.cell? ⟨20, 0, none⟩ = some (.iface 143 (.pointer (some (ea 19)))) := he.cell 19 (by omega) (by omega)
  have c20 : w.cell? ⟨21, 0, none⟩ = some (.iface 143 (.pointer (some (ea 20)))) := he.cell 20 (by omega) (by omega)
  have c21 : w.cell? ⟨22, 0, none⟩ = some (.iface 143 (.pointer (some (ea 21)))) := he.cell 21 (by omega) (by omega)
  have c22 : w.cell? ⟨23, 0, none⟩ = some (.iface 143 (.pointer (some (ea 22)))) := he.cell 22 (by omega) (by omega)
  have c23 : w.cell? ⟨24, 0, none⟩ = some (.iface 143 (.pointer (some (ea 23)))) := he.cell 23 (by omega) (by omega)
  have c24 : w.cell? ⟨25, 0, none⟩ = some (.iface 143 (.pointer (some (ea 24)))) := he.cell 24 (by omega) (by omega)
  have c25 : w.cell? ⟨3, 0, none⟩ = some (.iface 143 (.pointer (some (ea 25)))) := he.cell 25 (by omega) (by omega)
  have c26 : w.cell? ⟨1, 0, none⟩ = some (.iface 143 (.pointer (some (ea 26)))) := he.cell 26 (by omega) (by omega)
  have c27 : w.cell? ⟨26, 0, none⟩ = some (.iface 143 (.pointer (some (ea 27)))) := he.cell 27 (by omega) (by omega)
  have c28 : w.cell? ⟨27, 0, none⟩ = some (.iface 143 (.pointer (some (ea 28)))) := he.cell 28 (by omega) (by omega)
  have He := Lib.hid he
  clear he
  go_enter Tryd.func19, Tryd.ntmps19
  go_wp2_with fail
  obtain ⟨w1, hw1⟩ : ∃ W, W = w.alloc (.cells (errCells ea) 28) := ⟨_, rfl⟩
  change Code.wp _ _ _ _ (w.alloc (.cells (errCells ea) 28))
  rw [← hw1]
  have Hb : Hid (Below w.heap.size w w1) := by show Below _ _ _; rw [hw1]; exact (Below.refl _ w).alloc (Nat.le_refl _) _
  have Hc : Hid (∀ k, k < 28 → w1.cell? ⟨w.heap.size, k, none⟩ = some (.iface 143 (.pointer (some (ea (k + 1)))))) := fun k hk => by
    rw [hw1, cell_of_row _ w.heap.size k (errCells ea) 28 (0, 0) (heap_alloc_new w _)]
    exact errCells_get ea k hk
  have He1 := Lib.hid (He.out.below Hb.out)
  clear hw1 c1 c2 c3 c4 c5 c6 c7 c8 c9 c10 c11 c12 c13 c14 c15 c16 c17 c18 c19 c20 c21 c22 c23 c24 c25 c26 c27 c28
  generalize hB : w.heap.size = B at *
  have HB := Lib.hid hB
  clear hB
  go_loopg [4, 5, 39] 28 (fun g s4 s5 s39 wr => ∃ k : Nat, s39 = .int .i64 (k : Int) ∧ k + g = 28 ∧ k < n ∧ wr = w1)
  case atStart => exact ⟨0, rfl, by omega, by omega, rfl⟩
  case round =>
    obtain ⟨k, rfl, hk, hkn, rfl⟩ := hrel
    by_cases hlt : k < 28
    · have hc := Hc.out k hlt
      have k0 : (0 : Int) ≤ (k : Int) := by omega
      have k1 : (k : Int) < (28 : Int) := by omega
      by_cases hnk : n = k + 1
      · subst hnk
        go_wp2_with (go_at_call 40; refine (is_same (ea (k + 1)) _).mono ?_; rintro e w' ⟨rfl, rfl⟩)
        go_ret
        exact ⟨ret_int (by omega), by rw [HB.out]; exact Hb.out⟩
      · have hd : decide (n = k + 1) = false := decide_eq_false hnk
        go_wp2_with (go_at_call 40; refine (He1.out.is n (k + 1) h1 h2 (by omega) (by omega)).mono ?_; rintro e w' ⟨rfl, rfl⟩)
        go_roundg (gk - 1)
        case measure => omega
        case rel => exact ⟨k + 1, by go_num, by omega, by omega, rfl⟩
    · exfalso
      omega

theorem Num_any {w : World} {ea : Nat → Addr} (he : Errs w ea) (n : Nat) (h2 : n ≤ 28) :
    Calls Tryd.prog 19 #[errOf ea n] w fun e w' => e = .returned (.int .i64 (n : Int)) ∧ Below w.heap.size w w' := by
  by_cases h0 : n = 0
  · subst h0
    exact (Num_nil w).mono fun e w' ⟨h, h'⟩ => ⟨h, h' ▸ Below.refl _ w⟩
  · unfold errOf
    rw [if_neg h0]
    exact Num_err he n (by omega) h2
end Go.Proofs.YtjodehdmafagoaaDoor
