/- Layer 18: its acts, read; long. -/
import Derived.Test.YtifjddkgnfanaaaDoorLaw
namespace Go.Proofs.YtifjddkgnfanaaaDoor
open Go.RowKit Go.ChangeShapes Go.WideShapes Go.ChangeAt Go.Deep

structure Act18 where
  kind : Int
  n : Int
  torn : Int
  scat : Int
  A : Option Addr
  c : Nat
  bs : List UInt8
instance : Inhabited Act18 := ⟨⟨0, 0, 0, 0, none, 0, []⟩⟩
def Act18.v (a : Act18) : Value := .slice a.A a.bs.length a.c

/-- The slice header (A, n) reads as the acts l. -/
def RActs18 (w : World) (A : Option Addr) (n : Nat) (l : List Act18) : Prop :=
  l.length = n ∧ (∀ a ∈ l, RB w a.A a.bs.length a.bs ∧ a.bs.length ≤ a.c ∧ a.c ≤ maxLen) ∧ (0 < n → ∃ b o, A = some ⟨b, o, none⟩ ∧ ∀ k, k < n → w.cell? ⟨b, o + k * 5, none⟩ = some (.int .i64 (l.getD k default).kind) ∧ w.cell? ⟨b, o + k * 5 + 1, none⟩ = some (.int .i64 (l.getD k default).n) ∧
    w.cell? ⟨b, o + k * 5 + 2, none⟩ = some (.int .i64 (l.getD k default).torn) ∧ w.cell? ⟨b, o + k * 5 + 3, none⟩ = some (.int .u64 (l.getD k default).scat) ∧ w.cell? ⟨b, o + k * 5 + 4, none⟩ = some (l.getD k default).v)
theorem RActs18.keep {w w' : World} {A : Option Addr} {n : Nat} {l : List Act18} (h : RActs18 w A n l) (k : Keeps w w') : RActs18 w' A n l :=
  ⟨h.1, fun a ha => ⟨(h.2.1 a ha).1.keep k, (h.2.1 a ha).2⟩, fun h0 => let ⟨b, o, e, hc⟩ := h.2.2 h0; ⟨b, o, e, fun i hi => let ⟨g0, g1, g2, g3, g4⟩ := hc i hi; ⟨k _ _ g0, k _ _ g1, k _ _ g2, k _ _ g3, k _ _ g4⟩⟩⟩

theorem fields_act : fieldsOf Tryd.prog 48 = some (List.zipIdx [3, 3, 3, 46, 28]) := by kernel_rfl
theorem cells_act : Tryd.prog.cellsOf 48 = 5 := by kernel_rfl
theorem cells_act1 : ∀ T ∈ [3, 3, 3, 46, 28], Tryd.prog.cellsOf T = 1 := by
  intro T hT
  have h : ([3, 3, 3, 46, 28].all fun T => Tryd.prog.cellsOf T == 1) = true := by kernel_rfl
  simpa using List.all_eq_true.1 h T hT

/-- An act's six cells, read. -/
theorem act_of {H : Type} {enc : TypeId × Value → H} {W : World} {held : Bool} {n' : Nat} {V : Nat → Value} (hn : ∀ j T, [3, 3, 3, 46, 28][j]? = some T → ∃ y, DataW.trod enc Tryd.prog W 0 (fun _ => true) held n' T [V j] = some y) :
    ∃ a : Act18, V 0 = .int .i64 a.kind ∧ V 1 = .int .i64 a.n ∧ V 2 = .int .i64 a.torn ∧ V 3 = .int .u64 a.scat ∧ V 4 = a.v ∧ RB W a.A a.bs.length a.bs ∧ a.bs.length ≤ a.c ∧ a.c ≤ maxLen ∧ 0 ≤ a.scat ∧ a.scat ≤ 18446744073709551615 := by
  obtain ⟨y0, t0⟩ := hn 0 _ rfl
  obtain ⟨y1, t1⟩ := hn 1 _ rfl
  obtain ⟨y2, t2⟩ := hn 2 _ rfl
  obtain ⟨y3, t3⟩ := hn 3 _ rfl
  obtain ⟨y4, t4⟩ := hn 4 _ rfl
  obtain ⟨k0, e0, _, _⟩ := DataW.trod_int Tryd.underlying3 t0
  obtain ⟨k1, e1, _, _⟩ := DataW.trod_int Tryd.underlying3 t1
  obtain ⟨k2, e2, _, _⟩ := DataW.trod_int Tryd.underlying3 t2
  obtain ⟨k3, e3, _, hw⟩ := DataW.trod_int Tryd.underlying46 t3
  obtain ⟨l, A, c, e4, h1, h2, h3⟩ := open_sb t4
  injection e0 with e0 _
  injection e1 with e1 _
  injection e2 with e2 _
  injection e3 with e3 _
  simp [Lit.wf, IntKind.min, IntKind.max, IntKind.signed, IntKind.bits] at hw
  exact ⟨⟨k0, k1, k2, k3, A, c, l⟩, e0, e1, e2, e3, e4, h3, h1, h2, by dsimp only; omega, by dsimp only; omega⟩

theorem open_acts {H : Type} {enc : TypeId × Value → H} {W : World} {held : Bool} {fuel : Nat} {v : Value} {x : DataW H × List MemPlace} (h : DataW.trod enc Tryd.prog W 0 (fun _ => true) held fuel 23 [v] = some x) :
    ∃ (A : Option Addr) (n c : Nat) (l : List Act18), v = .slice A n c ∧ RActs18 W A n l ∧ n ≤ c ∧ c ≤ maxLen := by
  obtain ⟨A, n, c, V, rfl, hnc, hc, hx⟩ := open_structs Tryd.underlying23 fields_act cells_act cells_act1 (by decide) h
  rcases Nat.eq_zero_or_pos n with h0 | h0
  · subst h0
    exact ⟨A, 0, c, [], rfl, ⟨rfl, by simp, fun h => absurd h (by omega)⟩, hnc, hc⟩
  obtain ⟨b, o, rfl, hx2⟩ := hx h0
  have hx' : ∀ i, i < n → ∃ a : Act18, (W.cell? ⟨b, o + i * 5, none⟩ = some (.int .i64 a.kind) ∧ W.cell? ⟨b, o + i * 5 + 1, none⟩ = some (.int .i64 a.n) ∧ W.cell? ⟨b, o + i * 5 + 2, none⟩ = some (.int .i64 a.torn) ∧
      W.cell? ⟨b, o + i * 5 + 3, none⟩ = some (.int .u64 a.scat) ∧ W.cell? ⟨b, o + i * 5 + 4, none⟩ = some a.v) ∧ RB W a.A a.bs.length a.bs ∧ a.bs.length ≤ a.c ∧ a.c ≤ maxLen := by
    intro i hi
    obtain ⟨n', hn'⟩ := hx2 i hi
    obtain ⟨a, e0, e1, e2, e3, e4, h6, h7, h8, _, _⟩ := act_of (V := V i) fun j T hj => (hn' j T hj).2
    have g := fun j T hj => (hn' j T hj).1
    refine ⟨a, ⟨?_, ?_, ?_, ?_, ?_⟩, h6, h7, h8⟩
    · rw [← e0]; exact g 0 _ rfl
    · rw [← e1]; exact g 1 _ rfl
    · rw [← e2]; exact g 2 _ rfl
    · rw [← e3]; exact g 3 _ rfl
    · rw [← e4]; exact g 4 _ rfl
  obtain ⟨f, hf⟩ := choose_lt hx'
  refine ⟨some ⟨b, o, none⟩, n, c, (List.range n).map f, rfl, ⟨by simp, fun a ha => ?_, fun _ => ⟨b, o, rfl, fun k hk => ?_⟩⟩, hnc, hc⟩
  · obtain ⟨k, hk, rfl⟩ := List.mem_map.1 ha
    exact (hf k (List.mem_range.1 hk)).2
  · have e : ((List.range n).map f).getD k default = f k := by simp [hk]
    rw [e]
    exact (hf k hk).1

def over18 (a : Act18) : Bool := decide (200 < a.bs.length)
def longW (l : List Act18) : Bool := decide (40 < l.length) || l.any over18

set_option maxHeartbeats 1000000 in
theorem long18_any (A : Option Addr) (n c : Nat) (l : List Act18) (w : World) (hl : RActs18 w A n l) (hn : n ≤ maxLen) :
    Calls Tryd.prog 5 #[.slice A n c] w fun e w' => e = .returned (.bool (longW l)) ∧ Below w.heap.size w w' := by
  unfold maxLen at hn
  have Hl := Lib.hid hl
  have Hll := Lib.hid hl.1
  clear hl
  by_cases h1 : 40 < n
  · have d1 : decide (40 < (n : Int)) = true := decide_eq_true (by omega)
    have HR : Hid (longW l = true) := Lib.hid (by unfold longW; rw [Hll.out, decide_eq_true h1]; rfl)
    rw [HR.out]
    go_enter Tryd.func5, Tryd.ntmps5
    go_wp2
    go_ret
    exact ⟨rfl, Below.refl _ _⟩
  have d1 : decide (40 < (n : Int)) = false := decide_eq_false (by omega)
  have HR : Hid (longW l = l.any over18) := Lib.hid (by unfold longW; rw [Hll.out, decide_eq_false h1]; rfl)
  rw [HR.out]
  clear h1
  go_enter Tryd.func5, Tryd.ntmps5
  go_wp2
  go_loopw [10] (fun i wr => ∃ k : Nat, k ≤ n ∧ i = .int .i64 (k : Int) ∧ (l.take k).any over18 = false ∧ Below w.heap.size w wr) (fun i _ => n - (intOf i).toNat)
  case atStart => exact ⟨0, by omega, rfl, by simp, Below.refl _ _⟩
  case round =>
    obtain ⟨k, hk, rfl, hall, hbel⟩ := hrel
    have HA := Lib.hid hall
    have HB := Lib.hid hbel
    clear hall hbel
    by_cases hlt : k < n
    · obtain ⟨b, o, rfl, hb⟩ := Hl.out.2.2 (by omega)
      obtain ⟨g0, g1, g2, g3, g4⟩ := hb k hlt
      have c0 := Keeps.of_below HB.out _ _ g0
      have c1 := Keeps.of_below HB.out _ _ g1
      have c2 := Keeps.of_below HB.out _ _ g2
      have c3 := Keeps.of_below HB.out _ _ g3
      have c4 := Keeps.of_below HB.out _ _ g4
      have HS := Lib.hid (List.take_succ_eq_append_getElem (l := l) (i := k) (by rw [Hll.out]; exact hlt))
      have HM := Lib.hid (List.getElem_mem (l := l) (n := k) (by rw [Hll.out]; exact hlt))
      rw [List.getD_eq_getElem?_getD, List.getElem?_eq_getElem (by rw [Hll.out]; exact hlt)] at c0 c1 c2 c3 c4
      simp only [Option.getD_some] at c0 c1 c2 c3 c4
      clear g0 g1 g2 g3 g4 hb
      generalize l[k]'(by rw [Hll.out]; exact hlt) = x at *
      have k0 : (0 : Int) ≤ (k : Int) := by omega
      have k1 : (k : Int) < (n : Int) := by omega
      have HB1 := Lib.hid (HB.out.alloc HB.out.size (.cells #[.int .i64 x.kind, .int .i64 x.n, .int .i64 x.torn, .int .u64 x.scat, x.v] 48))
      unfold Act18.v at c4 HB1
      cases hq : over18 x with
      | true =>
        have HT : Hid (l.any over18 = true) := Lib.hid (List.any_eq_true.2 ⟨x, HM.out, hq⟩)
        have q1 : decide (200 < (x.bs.length : Int)) = true := by unfold over18 at hq; have := of_decide_eq_true hq; exact decide_eq_true (by omega)
        clear hq
        go_wp2
        go_ret
        exact ⟨ret_bool HT.out.symm, HB1.out⟩
      | false =>
        have Hq := Lib.hid hq
        have q1 : decide (200 < (x.bs.length : Int)) = false := by unfold over18 at hq; have := of_decide_eq_false hq; exact decide_eq_false (by omega)
        clear hq
        go_wp2
        go_roundw
        case rel => exact ⟨k + 1, by omega, by go_num, by rw [HS.out, List.any_append, HA.out]; simpa using Hq.out, HB1.out⟩
        case measure => simp [intOf]; omega
    · obtain rfl : k = n := by omega
      have HE : Hid (l.any over18 = false) := Lib.hid (by have := HA.out; rwa [List.take_of_length_le (by rw [Hll.out]; omega)] at this)
      go_wp2
      go_ret
      exact ⟨ret_bool HE.out.symm, HB.out⟩
end Go.Proofs.YtifjddkgnfanaaaDoor
