/- OrderedPlays: an act of kind kind: a copy goes on. -/
import Derived.Test.YtgiaifglkecdjaaPlay0
namespace Go.Proofs.Ytgiaifglkecdjaa
open Go.RowKit
open SI

set_option maxHeartbeats 4000000 in
set_option maxRecDepth 100000 in
theorem play5_any (fr : Act) (g R b o n c i B : Nat) (s : Code) (L : List (ByteArray × Int)) (kind : Int) (hk0 : (kind == 0) = false) (hk1 : (kind == 1) = false) (hk2 : (kind == 2) = false) (hk3 : (kind == 3) = false) (hk4 : (kind == 4) = false) (x : Int) (key to : ByteArray) (w : World) (Q : Exit → Act → World → Prop) (hfr : IsP fr)
    (h2 : slotP fr 2 = .bool false) (h3 : slotP fr 3 = .pointer (some ⟨g, 0, none⟩)) (h4 : slotP fr 4 = .pointer (some ⟨R, 0, none⟩)) (h23 : slotP fr 23 = .slice (some ⟨b, o, none⟩) n c) (h24 : slotP fr 24 = .int .i64 (n : Int)) (h25 : slotP fr 25 = .int .i64 (i : Int))
    (hi : i < n) (hn : n ≤ 80) (c0 : w.cell? ⟨b, o + i * 4, none⟩ = some (.int .i64 kind)) (c1 : w.cell? ⟨b, o + i * 4 + 1, none⟩ = some (.int .i64 x)) (c2 : w.cell? ⟨b, o + i * 4 + 2, none⟩ = some (.string key)) (c3 : w.cell? ⟨b, o + i * 4 + 3, none⟩ = some (.string to))
    (_hx0 : -9223372036854775808 ≤ x) (_hx1 : x ≤ 9223372036854775807)
    (ha : TabAt w g s L) (hr : RTab w R L) (hri : Rises klt L) (hlen : L.length ≤ 100000) (hBg : B ≤ g) (_hBR : B ≤ R)
    (hQ : ∀ (fr' : Act) (w' : World) (g' : Nat) (s' : Code) (L' : List (ByteArray × Int)), IsP fr' → slotP fr' 2 = .bool false → slotP fr' 3 = .pointer (some ⟨g', 0, none⟩) → slotP fr' 4 = .pointer (some ⟨R, 0, none⟩) → slotP fr' 23 = .slice (some ⟨b, o, none⟩) n c → slotP fr' 24 = .int .i64 (n : Int) → slotP fr' 25 = .int .i64 ((i + 1 : Nat) : Int) →
      TabAt w' g' s' L' → RTab w' R L' → Rises klt L' → L'.length ≤ L.length + 1 → B ≤ g' → Below B w w' → Q .normal fr' w') :
    Code.wp Try.prog (lpP Try.f3.body 0) Q fr w := by
  have HQ := Lib.hid hQ
  have HR := Lib.hid hri
  have hgl := ha.lt
  have hBw : B ≤ w.heap.size := Nat.le_trans hBg (Nat.le_of_lt hgl)
  have D0 := (Below.refl w.heap.size w).alloc (Nat.le_refl _) (.cells #[.int .i64 kind, .int .i64 x, .string key, .string to] 32)
  have HD := Lib.hid (TabAt.below ha D0)
  have RD := Lib.hid (RTab.below hr D0)
  have BD := Lib.hid (D0.mono hBw)
  have hgn : w.heap.size ≠ g := by omega
  have hRn : w.heap.size ≠ R := by have := tabLt hr; omega
  have hgR : g ≠ R := tabNe ha hr
  have e1 : (w.alloc (.cells #[.int .i64 kind, .int .i64 x, .string key, .string to] 32)).cell? ⟨w.heap.size, 1, none⟩ = some (.int .i64 x) := cell_of_row _ _ 1 _ _ _ (heap_alloc_new w _)
  have e2 : (w.alloc (.cells #[.int .i64 kind, .int .i64 x, .string key, .string to] 32)).cell? ⟨w.heap.size, 2, none⟩ = some (.string key) := cell_of_row _ _ 2 _ _ _ (heap_alloc_new w _)
  have e3 : (w.alloc (.cells #[.int .i64 kind, .int .i64 x, .string key, .string to] 32)).cell? ⟨w.heap.size, 3, none⟩ = some (.string to) := cell_of_row _ _ 3 _ _ _ (heap_alloc_new w _)
  have k0 : (0 : Int) ≤ (i : Int) := by omega
  have k1 : (i : Int) < (n : Int) := by omega
  have HL : Hid (L.length ≤ L.length + 1) := Nat.le_succ _
  clear hQ hri ha hr D0
  unfold IsP at hfr
  generalize slotP fr = f at *
  subst hfr
  unfold PF
  rw [h2, h3, h4, h23, h24, h25]
  conv => arg 2; whnf
  clear h2 h3 h4 h23 h24 h25
  go_wp2_with (first
    | (go_at_call 17; (with_reducible refine (Copy_T g s L (w.alloc (.cells #[.int .i64 kind, .int .i64 x, .string key, .string to] 32)) HD.out).mono ?_); rintro e w3 ⟨rfl, ht3, hb3⟩; have T3 := Lib.hid (show TabAt w3 (w.heap.size + 1) s L from by simpa using ht3); have O3 := Lib.hid (HD.out.below hb3); have R3 := Lib.hid (RD.out.below hb3); have B3 := Lib.hid (BD.out.trans (hb3.mono (Nat.le_trans hBw BD.out.size))); have f2 := Keeps.of_below hb3 _ _ e2; clear ht3 hb3)
    | (go_at_call 7; (with_reducible refine (Put_T g ⟨#[126]⟩ 1 s L w3 O3.out HR.out (by omega)).mono ?_); rintro e w4 ⟨rfl, ht4, hf4⟩; have O4 := Lib.hid ht4; have T4 := Lib.hid (T3.out.fr hf4 (by omega) O3.out.apart); have R4 := Lib.hid (RTab.fr O3.out R3.out hf4); have B4 := Lib.hid (B3.out.trans (hf4.below (Nat.le_trans hBw B3.out.size) (by rintro _ _ rfl; exact hBg))); have g2 := fr_cell hf4 hgn f2; clear ht4 hf4)
    | (go_at_call 9; (with_reducible refine (Del_T g key (putS klt ⟨#[126]⟩ s L) (ins klt ⟨#[126]⟩ 1 L) w4 O4.out (ins_rises klin HR.out) (by rw [ins_length]; split <;> omega)).mono ?_); rintro e w5 ⟨rfl, ht5, hf5⟩; have T5 := Lib.hid (T4.out.fr hf5 (by omega) O4.out.apart); have R5 := Lib.hid (RTab.fr O4.out R4.out hf5); have B5 := Lib.hid (B4.out.trans (hf5.below (Nat.le_trans hBw B4.out.size) (by rintro _ _ rfl; exact hBg))); have m2 := fr_cell hf5 hgn g2; clear ht5 hf5))
  refine tail_any _ (w.heap.size + 1) R w.heap.size s L key w5 _ rfl rfl rfl rfl T5.out R5.out HR.out (by have := HL.out; omega) m2 ?_
  intro fr1 w9 b0 b2 b3 b4 b23 b24 b25 b203 hb9
  have H9 := Lib.hid (TabAt.below T5.out hb9)
  have R9 := Lib.hid (RTab.below R5.out hb9)
  have B9 := Lib.hid (Below.trans B5.out (hb9.mono (Below.size B5.out |> Nat.le_trans hBw)))
  replace b2 : slotP fr1 2 = .bool false := b2
  replace b23 : slotP fr1 23 = .slice (some ⟨b, o, none⟩) n c := b23
  replace b24 : slotP fr1 24 = .int .i64 (n : Int) := b24
  replace b25 : slotP fr1 25 = .int .i64 (i : Int) := b25
  clear hb9
  unfold IsP at b0
  generalize slotP fr1 = f1 at *
  subst b0
  unfold PF
  rw [b2, b3, b4, b23, b24, b25, b203]
  clear b2 b3 b4 b23 b24 b25 b203
  go_wp2
  exact HQ.out _ w9 (w.heap.size + 1) s L rfl rfl rfl rfl rfl rfl rfl H9.out R9.out HR.out HL.out (Nat.le_succ_of_le hBw) B9.out
end Go.Proofs.Ytgiaifglkecdjaa
