/- sha.Text and the reference's Text: bytes as figures. -/
import Derived.Test.YtlfeofakggkebaaDoorTabs
import Derived.Deep.RegionHeld3
import Derived.Deep.RegionLaw
namespace Go.Proofs.YtlfeofakggkebaaDoor
open Go.RowKit

def hexC (n : UInt8) : UInt8 := if n < 10 then 48 + n else 87 + n
def hexB (c : UInt8) : List UInt8 := [hexC (c / 16), hexC (c % 16)]
def hexs (l : List UInt8) : List UInt8 := l.flatMap hexB
theorem hexs_take (l : List UInt8) (k : Nat) (h : k < l.length) : hexs (l.take (k + 1)) = hexs (l.take k) ++ hexB (l.getD k 0) := by
  unfold hexs
  rw [List.take_succ_eq_append_getElem h, List.flatMap_append, List.getD_eq_getElem?_getD, List.getElem?_eq_getElem h]
  simp
theorem hexs_length (l : List UInt8) : (hexs l).length = 2 * l.length := by
  induction l with
  | nil => rfl
  | cons a l ih => simp only [hexs, List.flatMap_cons, List.length_append, List.length_cons] at *; rw [ih]; simp [hexB]; omega

theorem below_drew {B : Nat} {a w : World} (h : Below B a w) : Below B a w.drew := ⟨h.os, h.tape, h.output, h.size, h.block⟩
theorem run_index_arr32 {w : World} (cs : Array Value) (i : Int) (v : Value) (h0 : 0 ≤ i) (hn : i < 32) (hv : cs[i.toNat]? = some v) :
    (Instr.index 48 (.agg cs) (.int .i64 i)).run Tryd.prog w = .ok v w := by
  have h1 : ∀ W, (sizeOf 5).run Tryd.prog W = .ok 1 W := fun W => by kernel_rfl
  have h2 : ∀ W, (isAgg 5).run Tryd.prog W = .ok false W := fun W => by kernel_rfl
  simp [Instr.index, run_underlying (Tryd.underlying48), asIntOf, h0, hn, hv, h1, h2, go_sem]

set_option maxRecDepth 100000 in
theorem hex_index (n : Nat) (hn : n < 16) (W : World) : (Instr.index 9 (.string ⟨#[48, 49, 50, 51, 52, 53, 54, 55, 56, 57, 97, 98, 99, 100, 101, 102]⟩) (.int .u8 (n : Int))).run Tryd.prog W = .ok (.int .u8 ((hexC (UInt8.ofNat n)).toNat : Int)) W := by
  have h : n = 0 ∨ n = 1 ∨ n = 2 ∨ n = 3 ∨ n = 4 ∨ n = 5 ∨ n = 6 ∨ n = 7 ∨ n = 8 ∨ n = 9 ∨ n = 10 ∨ n = 11 ∨ n = 12 ∨ n = 13 ∨ n = 14 ∨ n = 15 := by omega
  rcases h with rfl | rfl | rfl | rfl | rfl | rfl | rfl | rfl | rfl | rfl | rfl | rfl | rfl | rfl | rfl | rfl <;> rfl
theorem hex_hi (c : UInt8) (W : World) : (Instr.index 9 (.string ⟨#[48, 49, 50, 51, 52, 53, 54, 55, 56, 57, 97, 98, 99, 100, 101, 102]⟩) (.int .u8 ((c.toNat : Int) / 16))).run Tryd.prog W = .ok (.int .u8 ((hexC (c / 16)).toNat : Int)) W := by
  have h := hex_index (c.toNat / 16) (by have := c.toNat_lt; omega) W
  rw [show UInt8.ofNat (c.toNat / 16) = c / 16 from by apply UInt8.toNat_inj.1; rw [UInt8.toNat_div, UInt8.toNat_ofNat']; have := c.toNat_lt; simp; omega] at h
  exact h
theorem and15 (c : UInt8) : bits .and .u8 (c.toNat : Int) 15 = ((c.toNat % 16 : Nat) : Int) := by
  have h : bits .and .u8 (c.toNat : Int) 15 = (((c &&& 15 : UInt8)).toNat : Int) := by
    rw [show (15 : Int) = ((15 : UInt8).toNat : Int) by decide]
    have := c.toNat_lt
    rw [u8_and_nat _ _ c.toNat_lt (by decide), UInt8.toNat_and]
  rw [h, UInt8.toNat_and, show (15 : UInt8).toNat = 2 ^ 4 - 1 from rfl, Nat.and_two_pow_sub_one_eq_mod]
theorem hex_lo (c : UInt8) (W : World) : (Instr.index 9 (.string ⟨#[48, 49, 50, 51, 52, 53, 54, 55, 56, 57, 97, 98, 99, 100, 101, 102]⟩) (.int .u8 (bits .and .u8 (c.toNat : Int) 15))).run Tryd.prog W = .ok (.int .u8 ((hexC (c % 16)).toNat : Int)) W := by
  have h := hex_index (c.toNat % 16) (by omega) W
  rw [show UInt8.ofNat (c.toNat % 16) = c % 16 from by apply UInt8.toNat_inj.1; rw [UInt8.toNat_mod, UInt8.toNat_ofNat']; have := c.toNat_lt; simp; omega] at h
  rw [and15]
  exact h

set_option maxRecDepth 100000 in
theorem Text_any (l : List UInt8) (w : World) (hl : l.length = 32) :
    Calls Tryd.prog 95 #[.agg (bcells l).toArray] w fun e w' => e = .returned (.string ⟨(hexs l).toArray⟩) ∧ Below w.heap.size w w' := by
  obtain ⟨cur, hcur⟩ : ∃ cur, cur = (bcells l).toArray := ⟨_, rfl⟩
  rw [← hcur]
  have hget : ∀ k, k < 32 → cur[k]? = some (.int .u8 ((l.getD k 0).toNat : Int)) := fun k hk => by
    rw [hcur, List.getElem?_toArray]; exact bcells_get (by omega)
  have Hget := Lib.hid hget
  have Hcs : Hid (cur.size = 32) := by show _ = _; rw [hcur]; simp [bcells, hl]
  have Hl := Lib.hid hl
  clear hget hcur hl
  go_enter Tryd.func95, Tryd.ntmps95
  go_wp2_with (first
    | (refine wpList_load_row rfl 48 (.tmp 1) rfl w.heap.size rfl 48 cur (0, 0) _ (heap_alloc_new w _) Tryd.underlying48 rfl (by rw [Hcs.out]; exact info_32) ?_)
    | fail)
  go_loopg [3, 7] 32 (fun k s3 s7 wr => ∃ (v : Value) (i : Nat), s3 = v ∧ s7 = .int .i64 (i : Int) ∧ i + k = 32 ∧ OB wr (w.heap.size + 1) v (hexs (l.take i)) ∧ Below (w.heap.size + 1) (w.alloc (.cells cur 48)) wr)
  case atStart => exact ⟨_, 0, rfl, rfl, rfl, OB.nil _ _, Below.refl _ _⟩
  case round =>
    obtain ⟨v, i, rfl, rfl, hik, hown, hbel⟩ := hrel
    have Hown := Lib.hid hown
    have Hbel := Lib.hid hbel
    clear hown hbel
    by_cases hi : i < 32
    · have Hx := Lib.hid (hexs_take l i (by have := Hl.out; omega))
      have hix : ∀ W, (Instr.index 48 (.agg cur) (.int .i64 (i : Int))).run Tryd.prog W = .ok (.int .u8 ((l.getD i 0).toNat : Int)) W := fun W => run_index_arr32 cur _ _ (by omega) (by omega) (Hget.out i hi)
      generalize l.getD i 0 = c at *
      go_wp2_with fail
      have h1 := hex_hi c
      have h2 := hex_lo c
      go_region_law (first | (refine step_append_b rfl (.tmp 10) (.tmp 17) 22 rfl (Hown.out.alloc _) rfl (Src.lit wr.drew _ (hexB c) rfl 2 2 rfl) rfl (by rw [hexs_length, List.length_take]; simp [hexB]; omega) (by have := Hbel.out.size; simp at *; omega) ?_; intro v2 w2 hown2 hgr2 hat2; have Hown2 := Lib.hid hown2; have Hgr2 := Lib.hid hgr2; clear hown2 hgr2 hat2))
      all_goals
        clear h1 h2
        go_wp2
        go_roundg (gk - 1)
        case measure => omega
        case rel => exact ⟨_, i + 1, rfl, by go_num, by omega, by rw [Hx.out]; exact Hown2.out, below_append ((below_drew Hbel.out).alloc (by have := Hbel.out.size; simp at *; omega) _) Hgr2.out (Hown.out.alloc _) (Nat.le_refl _) (by have := Hbel.out.size; simp at *; omega)⟩
    · obtain rfl : i = 32 := by omega
      rw [List.take_of_length_le (by have := Hl.out; omega)] at Hown
      obtain ⟨A, cap, hv, _, _, hrb⟩ := Hown.out.form
      subst hv
      have cv := run_bytes_string (P := Tryd.prog) Tryd.underlying22 Tryd.underlying5 Tryd.underlying9 (c := cap) hrb
      go_wp2
      go_ret
      exact ⟨rfl, ((Below.refl _ w).alloc (Nat.le_refl _) _).trans (Hbel.out.mono (by omega))⟩

theorem hexC_small (n : UInt8) (h : n.toNat < 10) : [Value.int .u8 ((48 : Int) + (n.toNat : Int))] = bcells [hexC n] := by
  have h' : n < 10 := by simpa [UInt8.lt_iff_toNat_lt] using h
  simp only [bcells, List.map_cons, List.map_nil, hexC, if_pos h', UInt8.toNat_add]
  have : (UInt8.toNat 48 + n.toNat) % 2 ^ 8 = 48 + n.toNat := by show (48 + n.toNat) % 256 = _; omega
  rw [this]
  congr 2
theorem hexC_big (n : UInt8) (h : ¬ n.toNat < 10) (h2 : n.toNat < 16) : [Value.int .u8 ((97 : Int) + (n.toNat : Int) - 10)] = bcells [hexC n] := by
  have h' : ¬ n < 10 := by simpa [UInt8.lt_iff_toNat_lt] using h
  simp only [bcells, List.map_cons, List.map_nil, hexC, if_neg h', UInt8.toNat_add]
  have : (UInt8.toNat 87 + n.toNat) % 2 ^ 8 = 87 + n.toNat := by show (87 + n.toNat) % 256 = _; omega
  rw [this]
  congr 2
  omega
def nib (c : UInt8) (j : Nat) : UInt8 := if j = 0 then c / 16 else c % 16
theorem nib_lt (c : UInt8) (j : Nat) : (nib c j).toNat < 16 := by
  unfold nib
  have := c.toNat_lt
  split
  · rw [UInt8.toNat_div]; show c.toNat / 16 < 16; omega
  · rw [UInt8.toNat_mod]; show c.toNat % 16 < 16; omega
theorem nib_cells (c : UInt8) (w : World) (j : Nat) (hj : j < 2) : (w.alloc (.cells #[.int .u8 ((c.toNat : Int) / 16 % 256), .int .u8 ((c.toNat : Int) % 16)] 5)).cell? ⟨w.heap.size, j, none⟩ = some (.int .u8 ((nib c j).toNat : Int)) := by
  rw [cell_of_row _ _ _ _ _ _ (heap_alloc_new w _)]
  have := c.toNat_lt
  have h : j = 0 ∨ j = 1 := by omega
  rcases h with rfl | rfl
  · show some (Value.int .u8 ((c.toNat : Int) / 16 % 256)) = some (.int .u8 (((c / 16 : UInt8)).toNat : Int))
    rw [UInt8.toNat_div]
    congr 2
    show (c.toNat : Int) / 16 % 256 = ((c.toNat / 16 : Nat) : Int)
    omega
  · show some (Value.int .u8 ((c.toNat : Int) % 16)) = some (.int .u8 (((c % 16 : UInt8)).toNat : Int))
    rw [UInt8.toNat_mod]
    congr 2
theorem hexB_take (c : UInt8) (j : Nat) (hj : j < 2) : (hexB c).take (j + 1) = (hexB c).take j ++ [hexC (nib c j)] := by
  have h : j = 0 ∨ j = 1 := by omega
  rcases h with rfl | rfl <;> rfl

set_option maxHeartbeats 4000000 in
set_option maxRecDepth 100000 in
theorem RefText_any (A : Option Addr) (n c : Nat) (l : List UInt8) (w : World) (hb : RB w A n l) (hn : n ≤ 1000000) :
    Calls Tryd.prog 98 #[.slice A n c] w fun e w' => e = .returned (.string ⟨(hexs l).toArray⟩) ∧ Below w.heap.size w w' := by
  have Hb := Lib.hid hb
  have Hl := Lib.hid hb.1
  clear hb
  have Hlit := Lib.hid (OB.lit w w.heap.size (Nat.le_refl _) [] 0 rfl (by decide))
  go_enter Tryd.func98, Tryd.ntmps98
  go_wp2_with fail
  go_loopg [3, 11] n (fun k s3 s11 wr => ∃ (v : Value) (i : Nat), s3 = v ∧ s11 = .int .i64 (i : Int) ∧ i + k = n ∧ OB wr w.heap.size v (hexs (l.take i)) ∧ Below w.heap.size w wr)
  case atStart => exact ⟨_, 0, rfl, rfl, by omega, Hlit.out, (Below.refl _ w).alloc (Nat.le_refl _) _⟩
  case round =>
    obtain ⟨v, i, rfl, rfl, hik, hown, hbel⟩ := hrel
    have Hown := Lib.hid hown
    have Hbel := Lib.hid hbel
    clear hown hbel
    by_cases hi : i < n
    · have Hx := Lib.hid (hexs_take l i (by have := Hl.out; omega))
      obtain ⟨b, o, hA, hc⟩ := Hb.out.2 (by omega)
      subst hA
      have c0 := Keeps.of_below Hbel.out _ _ (hc i hi)
      clear hc
      have i0 : (0 : Int) ≤ (i : Int) := by omega
      have i1 : (i : Int) < (n : Int) := by omega
      generalize l.getD i 0 = c at *
      obtain ⟨wo, hwo⟩ : ∃ wo : World, wo = wr := ⟨_, rfl⟩
      subst hwo
      go_wp2_with fail
      have Hlt := Lib.hid Hown.out.lt
      have Hlen := Lib.hid (show (hexs (l.take i)).length ≤ 2 * n by rw [hexs_length, List.length_take]; omega)
      generalize hexs (l.take i) = hx at *
      go_loopg [3, 21] 2 (fun k s3 s21 wr => ∃ (v : Value) (j : Nat), s3 = v ∧ s21 = .int .i64 (j : Int) ∧ j + k = 2 ∧ OB wr w.heap.size v (hx ++ (hexB c).take j) ∧ Below w.heap.size w wr ∧ (∀ q, v.ownBlock = some q → q ≠ wo.heap.size) ∧ wo.heap.size < wr.heap.size ∧
        ∀ j, j < 2 → wr.cell? ⟨wo.heap.size, j, none⟩ = some (.int .u8 ((nib c j).toNat : Int)))
      case atStart => exact ⟨_, 0, rfl, rfl, rfl, by rw [List.take_zero, List.append_nil]; exact Hown.out.alloc _, Hbel.out.alloc Hbel.out.size _, fun q hq => by have := (Hlt.out q hq).2; omega, by simp, fun j hj => nib_cells c wo j hj⟩
      case round =>
        obtain ⟨v, j, rfl, rfl, hjk, hown, hbel, hne, hsz, hcl⟩ := hrel
        have Hown2 := Lib.hid hown
        have Hbel2 := Lib.hid hbel
        have Hne := Lib.hid hne
        have Hcl := Lib.hid hcl
        have Hsz := Lib.hid hsz
        clear hown hbel hne hcl hsz c0
        by_cases hj : j < 2
        · have d0 := Hcl.out j hj
          have hn16 := nib_lt c j
          have HT := Lib.hid (hexB_take c j hj)
          generalize nib c j = x at *
          have j0 : (0 : Int) ≤ (j : Int) := by omega
          have j1 : (j : Int) < 2 := by omega
          by_cases hx10 : x.toNat < 10
          · have hd : decide ((x.toNat : Int) < 10) = true := decide_eq_true (by omega)
            go_wp2_with (first
              | (at_builtin; refine wpList_append_b rfl (.tmp 27) (.tmp 30) 22 rfl (Hown2.out.alloc _) rfl (Src.lit wr _ [hexC x] ?_ 1 1 rfl) rfl ?_ ?_ ?_; rotate_right; intro v2 w2 hown2 hgr2 hat2)
              | fail)
            case refine_1 => exact hexC_small x hx10
            case refine_2 => have := Hlen.out; simp [hexB]; omega
            case refine_3 => have := Hbel2.out.size; simp at *; omega
            go_roundg (gk - 1)
            case measure => omega
            case rel =>
              refine ⟨_, j + 1, rfl, by go_num, by omega, by rw [HT.out, ← List.append_assoc]; exact hown2, below_append (Hbel2.out.alloc Hbel2.out.size _) hgr2 (Hown2.out.alloc _) (Nat.le_refl _) (by have := Hbel2.out.size; simp at *; omega), ?_, ?_, ?_⟩
              · intro q hq
                have := Hsz.out
                rcases hat2 with h | h
                · exact Hne.out q (h ▸ hq)
                · rw [hq] at h; injection h with h; simp at h; omega
              · have := hgr2.size; have := Hsz.out; simp at *; omega
              · intro j' hj'
                refine grown_cell hgr2 (Keeps.of_below ((Below.refl _ wr).alloc (Nat.le_refl _) _) _ _ (Hcl.out j' hj')) (fun e => Hne.out _ e rfl)
          · have hd : decide ((x.toNat : Int) < 10) = false := decide_eq_false (by omega)
            go_wp2_with (first
              | (at_builtin; refine wpList_append_b rfl (.tmp 32) (.tmp 36) 22 rfl (Hown2.out.alloc _) rfl (Src.lit wr _ [hexC x] ?_ 1 1 rfl) rfl ?_ ?_ ?_; rotate_right; intro v2 w2 hown2 hgr2 hat2)
              | fail)
            case refine_1 => exact hexC_big x hx10 hn16
            case refine_2 => have := Hlen.out; simp [hexB]; omega
            case refine_3 => have := Hbel2.out.size; simp at *; omega
            go_roundg (gk - 1)
            case measure => omega
            case rel =>
              refine ⟨_, j + 1, rfl, by go_num, by omega, by rw [HT.out, ← List.append_assoc]; exact hown2, below_append (Hbel2.out.alloc Hbel2.out.size _) hgr2 (Hown2.out.alloc _) (Nat.le_refl _) (by have := Hbel2.out.size; simp at *; omega), ?_, ?_, ?_⟩
              · intro q hq
                have := Hsz.out
                rcases hat2 with h | h
                · exact Hne.out q (h ▸ hq)
                · rw [hq] at h; injection h with h; simp at h; omega
              · have := hgr2.size; have := Hsz.out; simp at *; omega
              · intro j' hj'
                refine grown_cell hgr2 (Keeps.of_below ((Below.refl _ wr).alloc (Nat.le_refl _) _) _ _ (Hcl.out j' hj')) (fun e => Hne.out _ e rfl)
        · obtain rfl : j = 2 := by omega
          go_wp2
          go_roundg (n - (i + 1))
          case measure => omega
          case rel => exact ⟨_, i + 1, rfl, by go_num, by omega, by rw [Hx.out]; exact Hown2.out, Hbel2.out⟩
    · obtain rfl : i = n := by omega
      rw [List.take_of_length_le (by have := Hl.out; omega)] at Hown
      obtain ⟨A2, cap, hv, _, _, hrb⟩ := Hown.out.form
      subst hv
      have cv := run_bytes_string (P := Tryd.prog) Tryd.underlying22 Tryd.underlying5 Tryd.underlying9 (c := cap) hrb
      go_wp2
      go_ret
      exact ⟨rfl, Hbel.out⟩
end Go.Proofs.YtlfeofakggkebaaDoor
