/- OrderedPlays: an act of kind 4: At. -/
import Derived.Test.YtgiaifglkecdjaaPlay0
namespace Go.Proofs.Ytgiaifglkecdjaa
open Go.RowKit
open SI

set_option maxHeartbeats 4000000 in
set_option maxRecDepth 100000 in
theorem play4_any (fr : Act) (g R b o n c i B : Nat) (s : Code) (L : List (ByteArray × Int))  (x : Int) (key to : ByteArray) (w : World) (Q : Exit → Act → World → Prop) (hfr : IsP fr)
    (h2 : slotP fr 2 = .bool false) (h3 : slotP fr 3 = .pointer (some ⟨g, 0, none⟩)) (h4 : slotP fr 4 = .pointer (some ⟨R, 0, none⟩)) (h23 : slotP fr 23 = .slice (some ⟨b, o, none⟩) n c) (h24 : slotP fr 24 = .int .i64 (n : Int)) (h25 : slotP fr 25 = .int .i64 (i : Int))
    (hi : i < n) (hn : n ≤ 80) (c0 : w.cell? ⟨b, o + i * 4, none⟩ = some (.int .i64 4)) (c1 : w.cell? ⟨b, o + i * 4 + 1, none⟩ = some (.int .i64 x)) (c2 : w.cell? ⟨b, o + i * 4 + 2, none⟩ = some (.string key)) (c3 : w.cell? ⟨b, o + i * 4 + 3, none⟩ = some (.string to))
    (hx0 : -9223372036854775808 ≤ x) (hx1 : x ≤ 9223372036854775807)
    (ha : TabAt w g s L) (hr : RTab w R L) (hri : Rises klt L) (hlen : L.length ≤ 100000) (hBg : B ≤ g) (_hBR : B ≤ R)
    (hQ : ∀ (fr' : Act) (w' : World) (g' : Nat) (s' : Code) (L' : List (ByteArray × Int)), IsP fr' → slotP fr' 2 = .bool false → slotP fr' 3 = .pointer (some ⟨g', 0, none⟩) → slotP fr' 4 = .pointer (some ⟨R, 0, none⟩) → slotP fr' 23 = .slice (some ⟨b, o, none⟩) n c → slotP fr' 24 = .int .i64 (n : Int) → slotP fr' 25 = .int .i64 ((i + 1 : Nat) : Int) →
      TabAt w' g' s' L' → RTab w' R L' → Rises klt L' → L'.length ≤ L.length + 1 → B ≤ g' → Below B w w' → Q .normal fr' w') :
    Code.wp Try.prog (lpP Try.f3.body 0) Q fr w := by
  have HQ := Lib.hid hQ
  have HR := Lib.hid hri
  have hgl := ha.lt
  have hBw : B ≤ w.heap.size := Nat.le_trans hBg (Nat.le_of_lt hgl)
  have D0 := (Below.refl w.heap.size w).alloc (Nat.le_refl _) (.cells #[.int .i64 4, .int .i64 x, .string key, .string to] 32)
  have HD := Lib.hid (TabAt.below ha D0)
  have RD := Lib.hid (RTab.below hr D0)
  have BD := Lib.hid (D0.mono hBw)
  have hgn : w.heap.size ≠ g := by omega
  have hRn : w.heap.size ≠ R := by have := tabLt hr; omega
  have hgR : g ≠ R := tabNe ha hr
  have e1 : (w.alloc (.cells #[.int .i64 4, .int .i64 x, .string key, .string to] 32)).cell? ⟨w.heap.size, 1, none⟩ = some (.int .i64 x) := cell_of_row _ _ 1 _ _ _ (heap_alloc_new w _)
  have e2 : (w.alloc (.cells #[.int .i64 4, .int .i64 x, .string key, .string to] 32)).cell? ⟨w.heap.size, 2, none⟩ = some (.string key) := cell_of_row _ _ 2 _ _ _ (heap_alloc_new w _)
  have e3 : (w.alloc (.cells #[.int .i64 4, .int .i64 x, .string key, .string to] 32)).cell? ⟨w.heap.size, 3, none⟩ = some (.string to) := cell_of_row _ _ 3 _ _ _ (heap_alloc_new w _)
  have k0 : (0 : Int) ≤ (i : Int) := by omega
  have k1 : (i : Int) < (n : Int) := by omega
  obtain ⟨A, cE, cR0, hre⟩ := rtab_form RD.out
  have HRE := Lib.hid hre
  clear hre
  clear hQ hri ha hr D0
  unfold IsP at hfr
  generalize slotP fr = f at *
  subst hfr
  unfold PF
  rw [h2, h3, h4, h23, h24, h25]
  conv => arg 2; whnf
  clear h2 h3 h4 h23 h24 h25
  by_cases hx : 0 ≤ x
  · by_cases hxl : x < (L.length : Int)
    · obtain ⟨m, rfl⟩ : ∃ m : Nat, x = (m : Int) := ⟨x.toNat, by omega⟩
      have hml : m < L.length := by omega
      have hs : getI L (m : Int) = some (L[m]'hml) := by rw [getI_nat, List.getElem?_eq_getElem hml]
      obtain ⟨bE, oE, rfl, hcE⟩ := HRE.out.2 (by omega)
      obtain ⟨g0, g1⟩ := hcE m hml
      rw [List.getD_eq_getElem?_getD, List.getElem?_eq_getElem hml] at g0 g1
      simp only [Option.getD_some] at g0 g1
      clear hcE
      generalize L[m]'hml = y at *
      have q1 : decide ((m : Int) < (L.length : Int)) = true := decide_eq_true hxl
      have q0 : decide ((0 : Int) ≤ (m : Int)) = true := decide_eq_true hx
      have q2 : (y.1.toList == y.1.toList) = true := by simp
      have hm1 : (m : Int) < (L.length : Int) := hxl
      clear hxl hx
      have HG : Hid (Calls Try.prog 16 #[.pointer (some ⟨g, 0, none⟩), .int .i64 (m : Int)] (w.alloc (.cells #[.int .i64 4, .int .i64 (m : Int), .string key, .string to] 32)) fun e w' => e = .returned (.tuple #[.string y.1, .int .i64 y.2, .bool true]) ∧ ∃ k, w' = (w.alloc (.cells #[.int .i64 4, .int .i64 (m : Int), .string key, .string to] 32)).drewN k) := Lib.hid (by
        have := At_T g (m : Int) s L _ HD.out hx0 hx1 (by omega)
        rw [hs] at this
        exact this)
      clear hs
      go_wp2_with (go_at_call 16; (with_reducible refine HG.out.mono ?_); rintro e w' ⟨rfl, q, rfl⟩)
      go_quiet (fail)
      go_wp2
      go_quiet (fail)
      go_wp2_with fail
      have H6 := Lib.hid (fun a b c => HD.out.below (below_drewN (below_drewN (below_drewN (Below.refl _ (w.alloc (.cells #[.int .i64 4, .int .i64 (m : Int), .string key, .string to] 32))) a) b) c))
      have R6 := Lib.hid (fun a b c => RD.out.below (below_drewN (below_drewN (below_drewN (Below.refl _ (w.alloc (.cells #[.int .i64 4, .int .i64 (m : Int), .string key, .string to] 32))) a) b) c))
      have B6 := Lib.hid (fun a b c => below_drewN (below_drewN (below_drewN BD.out a) b) c)
      refine tail_any _ g R w.heap.size s L key _ _ rfl rfl rfl rfl (H6.out _ _ _) (R6.out _ _ _) HR.out (by have := (Nat.le_succ L.length); omega) e2 ?_
      intro fr1 w9 b0 b2 b3 b4 b23 b24 b25 b203 hb9
      have H9 := Lib.hid (TabAt.below (H6.out _ _ _) hb9)
      have R9 := Lib.hid (RTab.below (R6.out _ _ _) hb9)
      have B9 := Lib.hid (Below.trans (B6.out _ _ _) (hb9.mono (Below.size (B6.out _ _ _) |> Nat.le_trans hBw)))
      replace b2 : slotP fr1 2 = .bool false := b2
      replace b23 : slotP fr1 23 = .slice (some ⟨b, o, none⟩) n c := b23
      replace b24 : slotP fr1 24 = .int .i64 (n : Int) := b24
      replace b25 : slotP fr1 25 = .int .i64 (i : Int) := b25
      clear hb9
      unfold IsP at b0
      generalize slotP fr1 = f1 at *
      subst b0
      unfold PF
      rw [b2, b3, b4, b23, b24, b25, b203]
      clear b2 b3 b4 b23 b24 b25 b203
      go_wp2
      exact HQ.out _ w9 g s L rfl rfl rfl rfl rfl rfl rfl H9.out R9.out HR.out (Nat.le_succ L.length) hBg B9.out
    · have hs : getI L x = none := by
        cases h : getI L x with
        | none => rfl
        | some y => have := getI_some (l := L) (i := x); rw [h] at this; have := of_decide_eq_true this.symm; omega
      have q1 : decide (x < (L.length : Int)) = false := decide_eq_false hxl
      have q0 : decide ((0 : Int) ≤ x) = true := decide_eq_true hx
      clear hxl hx
      have HG : Hid (Calls Try.prog 16 #[.pointer (some ⟨g, 0, none⟩), .int .i64 x] (w.alloc (.cells #[.int .i64 4, .int .i64 x, .string key, .string to] 32)) fun e w' => e = .returned (.tuple #[.string ⟨#[]⟩, .int .i64 0, .bool false]) ∧ ∃ k, w' = (w.alloc (.cells #[.int .i64 4, .int .i64 x, .string key, .string to] 32)).drewN k) := Lib.hid (by
        have := At_T g x s L _ HD.out hx0 hx1 (by omega)
        rw [hs] at this
        exact this)
      clear hs
      go_wp2_with (go_at_call 16; (with_reducible refine HG.out.mono ?_); rintro e w' ⟨rfl, q, rfl⟩)
      go_quiet (fail)
      go_wp2
      go_quiet (fail)
      go_wp2_with fail
      have H6 := Lib.hid (fun a b c => HD.out.below (below_drewN (below_drewN (below_drewN (Below.refl _ (w.alloc (.cells #[.int .i64 4, .int .i64 x, .string key, .string to] 32))) a) b) c))
      have R6 := Lib.hid (fun a b c => RD.out.below (below_drewN (below_drewN (below_drewN (Below.refl _ (w.alloc (.cells #[.int .i64 4, .int .i64 x, .string key, .string to] 32))) a) b) c))
      have B6 := Lib.hid (fun a b c => below_drewN (below_drewN (below_drewN BD.out a) b) c)
      refine tail_any _ g R w.heap.size s L key _ _ rfl rfl rfl rfl (H6.out _ _ _) (R6.out _ _ _) HR.out (by have := (Nat.le_succ L.length); omega) e2 ?_
      intro fr1 w9 b0 b2 b3 b4 b23 b24 b25 b203 hb9
      have H9 := Lib.hid (TabAt.below (H6.out _ _ _) hb9)
      have R9 := Lib.hid (RTab.below (R6.out _ _ _) hb9)
      have B9 := Lib.hid (Below.trans (B6.out _ _ _) (hb9.mono (Below.size (B6.out _ _ _) |> Nat.le_trans hBw)))
      replace b2 : slotP fr1 2 = .bool false := b2
      replace b23 : slotP fr1 23 = .slice (some ⟨b, o, none⟩) n c := b23
      replace b24 : slotP fr1 24 = .int .i64 (n : Int) := b24
      replace b25 : slotP fr1 25 = .int .i64 (i : Int) := b25
      clear hb9
      unfold IsP at b0
      generalize slotP fr1 = f1 at *
      subst b0
      unfold PF
      rw [b2, b3, b4, b23, b24, b25, b203]
      clear b2 b3 b4 b23 b24 b25 b203
      go_wp2
      exact HQ.out _ w9 g s L rfl rfl rfl rfl rfl rfl rfl H9.out R9.out HR.out (Nat.le_succ L.length) hBg B9.out
  · have hs : getI L x = none := by
        cases h : getI L x with
        | none => rfl
        | some y => have := getI_some (l := L) (i := x); rw [h] at this; have := of_decide_eq_true this.symm; omega
    have q0 : decide ((0 : Int) ≤ x) = false := decide_eq_false hx
    clear hx
    have HG : Hid (Calls Try.prog 16 #[.pointer (some ⟨g, 0, none⟩), .int .i64 x] (w.alloc (.cells #[.int .i64 4, .int .i64 x, .string key, .string to] 32)) fun e w' => e = .returned (.tuple #[.string ⟨#[]⟩, .int .i64 0, .bool false]) ∧ ∃ k, w' = (w.alloc (.cells #[.int .i64 4, .int .i64 x, .string key, .string to] 32)).drewN k) := Lib.hid (by
      have := At_T g x s L _ HD.out hx0 hx1 (by omega)
      rw [hs] at this
      exact this)
    clear hs
    go_wp2_with (go_at_call 16; (with_reducible refine HG.out.mono ?_); rintro e w' ⟨rfl, q, rfl⟩)
    go_quiet (fail)
    go_wp2
    go_quiet (fail)
    go_wp2_with fail
    have H6 := Lib.hid (fun a b c => HD.out.below (below_drewN (below_drewN (below_drewN (Below.refl _ (w.alloc (.cells #[.int .i64 4, .int .i64 x, .string key, .string to] 32))) a) b) c))
    have R6 := Lib.hid (fun a b c => RD.out.below (below_drewN (below_drewN (below_drewN (Below.refl _ (w.alloc (.cells #[.int .i64 4, .int .i64 x, .string key, .string to] 32))) a) b) c))
    have B6 := Lib.hid (fun a b c => below_drewN (below_drewN (below_drewN BD.out a) b) c)
    refine tail_any _ g R w.heap.size s L key _ _ rfl rfl rfl rfl (H6.out _ _ _) (R6.out _ _ _) HR.out (by have := (Nat.le_succ L.length); omega) e2 ?_
    intro fr1 w9 b0 b2 b3 b4 b23 b24 b25 b203 hb9
    have H9 := Lib.hid (TabAt.below (H6.out _ _ _) hb9)
    have R9 := Lib.hid (RTab.below (R6.out _ _ _) hb9)
    have B9 := Lib.hid (Below.trans (B6.out _ _ _) (hb9.mono (Below.size (B6.out _ _ _) |> Nat.le_trans hBw)))
    replace b2 : slotP fr1 2 = .bool false := b2
    replace b23 : slotP fr1 23 = .slice (some ⟨b, o, none⟩) n c := b23
    replace b24 : slotP fr1 24 = .int .i64 (n : Int) := b24
    replace b25 : slotP fr1 25 = .int .i64 (i : Int) := b25
    clear hb9
    unfold IsP at b0
    generalize slotP fr1 = f1 at *
    subst b0
    unfold PF
    rw [b2, b3, b4, b23, b24, b25, b203]
    clear b2 b3 b4 b23 b24 b25 b203
    go_wp2
    exact HQ.out _ w9 g s L rfl rfl rfl rfl rfl rfl rfl H9.out R9.out HR.out (Nat.le_succ L.length) hBg B9.out
end Go.Proofs.Ytgiaifglkecdjaa
