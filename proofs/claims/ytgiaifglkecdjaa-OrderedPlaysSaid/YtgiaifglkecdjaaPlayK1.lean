/- OrderedPlays: an act of kind 1: Del. -/
import Derived.Test.YtgiaifglkecdjaaPlay0
namespace Go.Proofs.Ytgiaifglkecdjaa
open Go.RowKit
open SI

set_option maxHeartbeats 4000000 in
set_option maxRecDepth 100000 in
theorem play1_any (fr : Act) (g R b o n c i B : Nat) (s : Code) (L : List (ByteArray × Int))  (x : Int) (key to : ByteArray) (w : World) (Q : Exit → Act → World → Prop) (hfr : IsP fr)
    (h2 : slotP fr 2 = .bool false) (h3 : slotP fr 3 = .pointer (some ⟨g, 0, none⟩)) (h4 : slotP fr 4 = .pointer (some ⟨R, 0, none⟩)) (h23 : slotP fr 23 = .slice (some ⟨b, o, none⟩) n c) (h24 : slotP fr 24 = .int .i64 (n : Int)) (h25 : slotP fr 25 = .int .i64 (i : Int))
    (hi : i < n) (hn : n ≤ 80) (c0 : w.cell? ⟨b, o + i * 4, none⟩ = some (.int .i64 1)) (c1 : w.cell? ⟨b, o + i * 4 + 1, none⟩ = some (.int .i64 x)) (c2 : w.cell? ⟨b, o + i * 4 + 2, none⟩ = some (.string key)) (c3 : w.cell? ⟨b, o + i * 4 + 3, none⟩ = some (.string to))
    (_hx0 : -9223372036854775808 ≤ x) (_hx1 : x ≤ 9223372036854775807)
    (ha : TabAt w g s L) (hr : RTab w R L) (hri : Rises klt L) (hlen : L.length ≤ 100000) (hBg : B ≤ g) (hBR : B ≤ R)
    (hQ : ∀ (fr' : Act) (w' : World) (g' : Nat) (s' : Code) (L' : List (ByteArray × Int)), IsP fr' → slotP fr' 2 = .bool false → slotP fr' 3 = .pointer (some ⟨g', 0, none⟩) → slotP fr' 4 = .pointer (some ⟨R, 0, none⟩) → slotP fr' 23 = .slice (some ⟨b, o, none⟩) n c → slotP fr' 24 = .int .i64 (n : Int) → slotP fr' 25 = .int .i64 ((i + 1 : Nat) : Int) →
      TabAt w' g' s' L' → RTab w' R L' → Rises klt L' → L'.length ≤ L.length + 1 → B ≤ g' → Below B w w' → Q .normal fr' w') :
    Code.wp Try.prog (lpP Try.f3.body 0) Q fr w := by
  have HQ := Lib.hid hQ
  have HR := Lib.hid hri
  have hgl := ha.lt
  have hBw : B ≤ w.heap.size := Nat.le_trans hBg (Nat.le_of_lt hgl)
  have D0 := (Below.refl w.heap.size w).alloc (Nat.le_refl _) (.cells #[.int .i64 1, .int .i64 x, .string key, .string to] 32)
  have HD := Lib.hid (TabAt.below ha D0)
  have RD := Lib.hid (RTab.below hr D0)
  have BD := Lib.hid (D0.mono hBw)
  have hgn : w.heap.size ≠ g := by omega
  have hRn : w.heap.size ≠ R := by have := tabLt hr; omega
  have hgR : g ≠ R := tabNe ha hr
  have e1 : (w.alloc (.cells #[.int .i64 1, .int .i64 x, .string key, .string to] 32)).cell? ⟨w.heap.size, 1, none⟩ = some (.int .i64 x) := cell_of_row _ _ 1 _ _ _ (heap_alloc_new w _)
  have e2 : (w.alloc (.cells #[.int .i64 1, .int .i64 x, .string key, .string to] 32)).cell? ⟨w.heap.size, 2, none⟩ = some (.string key) := cell_of_row _ _ 2 _ _ _ (heap_alloc_new w _)
  have e3 : (w.alloc (.cells #[.int .i64 1, .int .i64 x, .string key, .string to] 32)).cell? ⟨w.heap.size, 3, none⟩ = some (.string to) := cell_of_row _ _ 3 _ _ _ (heap_alloc_new w _)
  have k0 : (0 : Int) ≤ (i : Int) := by omega
  have k1 : (i : Int) < (n : Int) := by omega
  have HL : Hid ((rem klt key L).length ≤ L.length + 1) := Lib.hid (by rw [rem_length]; split <;> omega)
  have HI : Hid (Rises klt (rem klt key L)) := Lib.hid (rem_rises HR.out)
  have e1d : (w.alloc (.cells #[.int .i64 1, .int .i64 x, .string key, .string to] 32)).drew.cell? ⟨w.heap.size, 1, none⟩ = some (.int .i64 x) := e1
  have e2d : (w.alloc (.cells #[.int .i64 1, .int .i64 x, .string key, .string to] 32)).drew.cell? ⟨w.heap.size, 2, none⟩ = some (.string key) := e2
  have TD := Lib.hid (HD.out.below (below_dr (Below.refl _ _)))
  have SD := Lib.hid (RD.out.below (below_dr (Below.refl _ _)))
  clear hQ hri ha hr D0
  unfold IsP at hfr
  generalize slotP fr = f at *
  subst hfr
  unfold PF
  rw [h2, h3, h4, h23, h24, h25]
  conv => arg 2; whnf
  clear h2 h3 h4 h23 h24 h25
  go_wp2_with fail
  go_region_held3 (fun w' => w'.cell? ⟨w.heap.size, 1, none⟩ = some (.int .i64 x) ∧ w'.cell? ⟨w.heap.size, 2, none⟩ = some (.string key)) (go_keep)
    (first
      | (go_at_call 9; (with_reducible refine (Del_T g key s L (w.alloc (.cells #[.int .i64 1, .int .i64 x, .string key, .string to] 32)).drew TD.out HR.out (by omega)).mono ?_); rintro e w4 ⟨rfl, ht4, hf4⟩; have s1 := fr_cell hf4 hgn e1d; have s2 := fr_cell hf4 hgn e2d; have R4 := Lib.hid (RTab.fr TD.out SD.out hf4); have H4 := Lib.hid ht4; have B4 := Lib.hid ((below_dr BD.out).trans (hf4.below (by simp; omega) (by rintro _ _ rfl; exact hBg))); clear ht4 hf4)
      | (go_at_call 10; (with_reducible refine (RefDel_T R key L w4 R4.out HR.out (by omega)).mono ?_); rintro e w5 ⟨rfl, ht5, hf5⟩; have m1 := fr_cell hf5 hRn s1; have m2 := fr_cell hf5 hRn s2; have R5 := Lib.hid ht5; have H5 := Lib.hid (TabAt.frR H4.out R4.out hf5); have B5 := Lib.hid (B4.out.trans (hf5.below (by have := B4.out.size; omega) (by rintro _ _ rfl; exact hBR))); clear ht5 hf5 s1 s2))
  go_wp2_with fail
  refine tail_any _ g R w.heap.size (delS klt key s L) (rem klt key L) key w5 _ rfl rfl rfl rfl H5.out R5.out HI.out (by have := HL.out; omega) m2 ?_
  intro fr1 w9 b0 b2 b3 b4 b23 b24 b25 b203 hb9
  have H9 := Lib.hid (TabAt.below H5.out hb9)
  have R9 := Lib.hid (RTab.below R5.out hb9)
  have B9 := Lib.hid (Below.trans B5.out (hb9.mono (Below.size B5.out |> Nat.le_trans hBw)))
  replace b2 : slotP fr1 2 = .bool false := b2
  replace b23 : slotP fr1 23 = .slice (some ⟨b, o, none⟩) n c := b23
  replace b24 : slotP fr1 24 = .int .i64 (n : Int) := b24
  replace b25 : slotP fr1 25 = .int .i64 (i : Int) := b25
  clear hb9
  unfold IsP at b0
  generalize slotP fr1 = f1 at *
  subst b0
  unfold PF
  rw [b2, b3, b4, b23, b24, b25, b203]
  clear b2 b3 b4 b23 b24 b25 b203
  go_wp2
  exact HQ.out _ w9 g (delS klt key s L) (rem klt key L) rfl rfl rfl rfl rfl rfl rfl H9.out R9.out HI.out HL.out hBg B9.out
end Go.Proofs.Ytgiaifglkecdjaa
