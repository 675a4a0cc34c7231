/- OrderedPlays: an act of kind 3: Between. -/
import Derived.Test.YtgiaifglkecdjaaPlay0
namespace Go.Proofs.Ytgiaifglkecdjaa
open Go.RowKit
open SI

set_option maxHeartbeats 4000000 in
set_option maxRecDepth 100000 in
theorem play3_any (fr : Act) (g R b o n c i B : Nat) (s : Code) (L : List (ByteArray × Int))  (x : Int) (key to : ByteArray) (w : World) (Q : Exit → Act → World → Prop) (hfr : IsP fr)
    (h2 : slotP fr 2 = .bool false) (h3 : slotP fr 3 = .pointer (some ⟨g, 0, none⟩)) (h4 : slotP fr 4 = .pointer (some ⟨R, 0, none⟩)) (h23 : slotP fr 23 = .slice (some ⟨b, o, none⟩) n c) (h24 : slotP fr 24 = .int .i64 (n : Int)) (h25 : slotP fr 25 = .int .i64 (i : Int))
    (hi : i < n) (hn : n ≤ 80) (c0 : w.cell? ⟨b, o + i * 4, none⟩ = some (.int .i64 3)) (c1 : w.cell? ⟨b, o + i * 4 + 1, none⟩ = some (.int .i64 x)) (c2 : w.cell? ⟨b, o + i * 4 + 2, none⟩ = some (.string key)) (c3 : w.cell? ⟨b, o + i * 4 + 3, none⟩ = some (.string to))
    (_hx0 : -9223372036854775808 ≤ x) (_hx1 : x ≤ 9223372036854775807)
    (ha : TabAt w g s L) (hr : RTab w R L) (hri : Rises klt L) (hlen : L.length ≤ 100000) (hBg : B ≤ g) (_hBR : B ≤ R)
    (hQ : ∀ (fr' : Act) (w' : World) (g' : Nat) (s' : Code) (L' : List (ByteArray × Int)), IsP fr' → slotP fr' 2 = .bool false → slotP fr' 3 = .pointer (some ⟨g', 0, none⟩) → slotP fr' 4 = .pointer (some ⟨R, 0, none⟩) → slotP fr' 23 = .slice (some ⟨b, o, none⟩) n c → slotP fr' 24 = .int .i64 (n : Int) → slotP fr' 25 = .int .i64 ((i + 1 : Nat) : Int) →
      TabAt w' g' s' L' → RTab w' R L' → Rises klt L' → L'.length ≤ L.length + 1 → B ≤ g' → Below B w w' → Q .normal fr' w') :
    Code.wp Try.prog (lpP Try.f3.body 0) Q fr w := by
  have HQ := Lib.hid hQ
  have HR := Lib.hid hri
  have hgl := ha.lt
  have hBw : B ≤ w.heap.size := Nat.le_trans hBg (Nat.le_of_lt hgl)
  have D0 := (Below.refl w.heap.size w).alloc (Nat.le_refl _) (.cells #[.int .i64 3, .int .i64 x, .string key, .string to] 32)
  have HD := Lib.hid (TabAt.below ha D0)
  have RD := Lib.hid (RTab.below hr D0)
  have BD := Lib.hid (D0.mono hBw)
  have hgn : w.heap.size ≠ g := by omega
  have hRn : w.heap.size ≠ R := by have := tabLt hr; omega
  have hgR : g ≠ R := tabNe ha hr
  have e1 : (w.alloc (.cells #[.int .i64 3, .int .i64 x, .string key, .string to] 32)).cell? ⟨w.heap.size, 1, none⟩ = some (.int .i64 x) := cell_of_row _ _ 1 _ _ _ (heap_alloc_new w _)
  have e2 : (w.alloc (.cells #[.int .i64 3, .int .i64 x, .string key, .string to] 32)).cell? ⟨w.heap.size, 2, none⟩ = some (.string key) := cell_of_row _ _ 2 _ _ _ (heap_alloc_new w _)
  have e3 : (w.alloc (.cells #[.int .i64 3, .int .i64 x, .string key, .string to] 32)).cell? ⟨w.heap.size, 3, none⟩ = some (.string to) := cell_of_row _ _ 3 _ _ _ (heap_alloc_new w _)
  have k0 : (0 : Int) ≤ (i : Int) := by omega
  have k1 : (i : Int) < (n : Int) := by omega
  have e1d : (w.alloc (.cells #[.int .i64 3, .int .i64 x, .string key, .string to] 32)).drew.cell? ⟨w.heap.size, 1, none⟩ = some (.int .i64 x) := e1
  have e2d : (w.alloc (.cells #[.int .i64 3, .int .i64 x, .string key, .string to] 32)).drew.cell? ⟨w.heap.size, 2, none⟩ = some (.string key) := e2
  have e3d : (w.alloc (.cells #[.int .i64 3, .int .i64 x, .string key, .string to] 32)).drew.cell? ⟨w.heap.size, 3, none⟩ = some (.string to) := e3
  have TD := Lib.hid (HD.out.below (below_dr (Below.refl _ _)))
  have SD := Lib.hid (RD.out.below (below_dr (Below.refl _ _)))
  have HBl := btw_le (lt := klt) key to x L
  clear hQ hri ha hr D0
  unfold IsP at hfr
  generalize slotP fr = f at *
  subst hfr
  unfold PF
  rw [h2, h3, h4, h23, h24, h25]
  conv => arg 2; whnf
  clear h2 h3 h4 h23 h24 h25
  go_wp2_with fail
  go_region_held3 (fun w' => w'.cell? ⟨w.heap.size, 1, none⟩ = some (.int .i64 x) ∧ w'.cell? ⟨w.heap.size, 2, none⟩ = some (.string key) ∧ w'.cell? ⟨w.heap.size, 3, none⟩ = some (.string to)) (go_keep)
    (first
      | (go_at_call 14; (with_reducible refine (Between_T g key to x s L (w.alloc (.cells #[.int .i64 3, .int .i64 x, .string key, .string to] 32)).drew TD.out HR.out (by omega)).mono ?_); rintro e w4 ⟨v4, rfl, ho4, hb4⟩; obtain ⟨A4, c4, rfl, -, -, hx4⟩ := ho4.form; have s1 := Keeps.of_below hb4 _ _ e1d; have s2 := Keeps.of_below hb4 _ _ e2d; have s3 := Keeps.of_below hb4 _ _ e3d; have R4 := Lib.hid (SD.out.below hb4); have H4 := Lib.hid (TD.out.below hb4); have X4 := Lib.hid hx4; have B4 := Lib.hid ((below_dr BD.out).trans (hb4.mono (Nat.le_trans hBw (below_dr BD.out).size))); clear ho4 hx4 hb4)
      | (go_at_call 15; (with_reducible refine (RefBetween_T R key to x L w4 R4.out (by omega)).mono ?_); rintro e w5 ⟨v5, rfl, ho5, hb5⟩; obtain ⟨A5, c5, rfl, -, -, hx5⟩ := ho5.form; have m1 := Keeps.of_below hb5 _ _ s1; have m2 := Keeps.of_below hb5 _ _ s2; have m3 := Keeps.of_below hb5 _ _ s3; have R5 := Lib.hid (R4.out.below hb5); have H5 := Lib.hid (H4.out.below hb5); have Y5 := Lib.hid (X4.out.keep (Keeps.of_below hb5)); have X5 := Lib.hid hx5; have B5 := Lib.hid (B4.out.trans (hb5.mono (Nat.le_trans hBw B4.out.size))); clear hx5 ho5 hb5 s1 s2 s3)
      | (go_at_call 13; (with_reducible refine (SameTexts_any A4 A5 _ _ c4 c5 (btw klt key to x L) (btw klt key to x L) w5 Y5.out X5.out (by unfold maxLen; omega) (by unfold maxLen; omega)).mono ?_); rw [decide_eq_true (show btw klt key to x L = btw klt key to x L from rfl)]; rintro e w6 ⟨rfl, q6, rfl⟩))
  go_wp2_with fail
  have H6 := Lib.hid (H5.out.below (below_drewN (Below.refl _ w5) q6))
  have R6 := Lib.hid (R5.out.below (below_drewN (Below.refl _ w5) q6))
  have B6 := Lib.hid (below_drewN B5.out q6)
  refine tail_any _ g R w.heap.size s L key (w5.drewN q6) _ rfl rfl rfl rfl H6.out R6.out HR.out (by have := (Nat.le_succ L.length); omega) m2 ?_
  intro fr1 w9 b0 b2 b3 b4 b23 b24 b25 b203 hb9
  have H9 := Lib.hid (TabAt.below H6.out hb9)
  have R9 := Lib.hid (RTab.below R6.out hb9)
  have B9 := Lib.hid (Below.trans B6.out (hb9.mono (Below.size B6.out |> Nat.le_trans hBw)))
  replace b2 : slotP fr1 2 = .bool false := b2
  replace b23 : slotP fr1 23 = .slice (some ⟨b, o, none⟩) n c := b23
  replace b24 : slotP fr1 24 = .int .i64 (n : Int) := b24
  replace b25 : slotP fr1 25 = .int .i64 (i : Int) := b25
  clear hb9
  unfold IsP at b0
  generalize slotP fr1 = f1 at *
  subst b0
  unfold PF
  rw [b2, b3, b4, b23, b24, b25, b203]
  clear b2 b3 b4 b23 b24 b25 b203
  go_wp2
  exact HQ.out _ w9 g s L rfl rfl rfl rfl rfl rfl rfl H9.out R9.out HR.out (Nat.le_succ L.length) hBg B9.out
end Go.Proofs.Ytgiaifglkecdjaa
