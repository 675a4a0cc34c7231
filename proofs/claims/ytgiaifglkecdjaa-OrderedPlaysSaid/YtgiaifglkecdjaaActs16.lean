/- OrderedPlays: its acts, read; long. -/
import Derived.Test.YtgiaifglkecdjaaStructs
import Derived.Test.YtgiaifglkecdjaaRX
namespace Go.Proofs.Ytgiaifglkecdjaa
open Go.RowKit Go.ChangeShapes Go.WideShapes Go.ChangeAt Go.Deep

structure Act16 where
  kind : Int
  n : Int
  key : ByteArray
  to : ByteArray
instance : Inhabited Act16 := ⟨⟨0, 0, ⟨#[]⟩, ⟨#[]⟩⟩⟩

/-- The slice header (A, n) reads as the acts l. -/
def RActs (w : World) (A : Option Addr) (n : Nat) (l : List Act16) : Prop :=
  l.length = n ∧ (0 < n → ∃ b o, A = some ⟨b, o, none⟩ ∧ ∀ k, k < n → w.cell? ⟨b, o + k * 4, none⟩ = some (.int .i64 (l.getD k default).kind) ∧ w.cell? ⟨b, o + k * 4 + 1, none⟩ = some (.int .i64 (l.getD k default).n) ∧
    w.cell? ⟨b, o + k * 4 + 2, none⟩ = some (.string (l.getD k default).key) ∧ w.cell? ⟨b, o + k * 4 + 3, none⟩ = some (.string (l.getD k default).to))

theorem fields_act : fieldsOf Try.prog 32 = some (List.zipIdx [3, 3, 9, 9]) := by kernel_rfl
theorem cells_act : Try.prog.cellsOf 32 = 4 := by kernel_rfl
theorem cells_act1 : ∀ T ∈ [3, 3, 9, 9], Try.prog.cellsOf T = 1 := by
  intro T hT
  have h : ([3, 3, 9, 9].all fun T => Try.prog.cellsOf T == 1) = true := by kernel_rfl
  simpa using List.all_eq_true.1 h T hT

theorem open_acts {H : Type} {enc : TypeId × Value → H} {W : World} {held : Bool} {fuel : Nat} {v : Value} {x : DataW H × List MemPlace} (h : DataW.trod enc Try.prog W 0 (fun _ => true) held fuel 22 [v] = some x) :
    ∃ (A : Option Addr) (n c : Nat) (l : List Act16), v = .slice A n c ∧ RActs W A n l ∧ n ≤ c ∧ c ≤ maxLen ∧ (∀ a ∈ l, -9223372036854775808 ≤ a.n ∧ a.n ≤ 9223372036854775807) := by
  obtain ⟨A, n, c, V, rfl, hnc, hc, hx⟩ := open_structs Try.underlying22 fields_act cells_act cells_act1 (by decide) h
  rcases Nat.eq_zero_or_pos n with h0 | h0
  · subst h0
    exact ⟨A, 0, c, [], rfl, ⟨rfl, fun h => absurd h (by omega)⟩, hnc, hc, by simp⟩
  obtain ⟨b, o, rfl, hx2⟩ := hx h0
  have hx' : ∀ i, i < n → ∃ a : Act16, W.cell? ⟨b, o + i * 4, none⟩ = some (.int .i64 a.kind) ∧ W.cell? ⟨b, o + i * 4 + 1, none⟩ = some (.int .i64 a.n) ∧
      W.cell? ⟨b, o + i * 4 + 2, none⟩ = some (.string a.key) ∧ W.cell? ⟨b, o + i * 4 + 3, none⟩ = some (.string a.to) ∧ -9223372036854775808 ≤ a.n ∧ a.n ≤ 9223372036854775807 := by
    intro i hi
    obtain ⟨n', hn'⟩ := hx2 i hi
    obtain ⟨g0, y0, t0⟩ := hn' 0 _ rfl
    obtain ⟨g1, y1, t1⟩ := hn' 1 _ rfl
    obtain ⟨g2, y2, t2⟩ := hn' 2 _ rfl
    obtain ⟨g3, y3, t3⟩ := hn' 3 _ rfl
    obtain ⟨k0, e0, _, _⟩ := DataW.trod_int Try.underlying3 t0
    obtain ⟨k1, e1, _, hw⟩ := DataW.trod_int Try.underlying3 t1
    obtain ⟨k2, e2, _, _⟩ := DataW.trod_string Try.underlying9 t2
    obtain ⟨k3, e3, _, _⟩ := DataW.trod_string Try.underlying9 t3
    injection e0 with e0 _
    injection e1 with e1 _
    injection e2 with e2 _
    injection e3 with e3 _
    rw [e0] at g0
    rw [e1] at g1
    rw [e2] at g2
    rw [e3] at g3
    simp [Lit.wf, IntKind.min, IntKind.max, IntKind.signed, IntKind.bits] at hw
    refine ⟨⟨k0, k1, k2, k3⟩, ?_, ?_, ?_, ?_, by dsimp only; omega, by dsimp only; omega⟩
    · exact g0
    · exact g1
    · exact g2
    · exact g3
  obtain ⟨f, hf⟩ := choose_lt hx'
  refine ⟨some ⟨b, o, none⟩, n, c, (List.range n).map f, rfl, ⟨by simp, fun _ => ⟨b, o, rfl, fun k hk => ?_⟩⟩, hnc, hc, fun a ha => ?_⟩
  · have e : ((List.range n).map f).getD k default = f k := by simp [hk]
    rw [e]
    have := hf k hk
    exact ⟨this.1, this.2.1, this.2.2.1, this.2.2.2.1⟩
  · obtain ⟨k, hk, rfl⟩ := List.mem_map.1 ha
    have := hf k (List.mem_range.1 hk)
    exact this.2.2.2.2

def longA (l : List Act16) : Bool := decide (80 < l.length) || l.any fun a => decide (100 < a.key.size) || decide (100 < a.to.size)

set_option maxHeartbeats 1000000 in
theorem long16_any (A : Option Addr) (n c : Nat) (l : List Act16) (w : World) (hl : RActs w A n l) (hn : n ≤ maxLen) :
    Calls Try.prog 5 #[.slice A n c] w fun e w' => e = .returned (.bool (longA l)) ∧ Below w.heap.size w w' := by
  unfold maxLen at hn
  have Hl := Lib.hid hl
  have Hll := Lib.hid hl.1
  clear hl
  by_cases h1 : 80 < n
  · have d1 : decide (80 < (n : Int)) = true := decide_eq_true (by omega)
    have HR : Hid (longA l = true) := Lib.hid (by unfold longA; rw [Hll.out, decide_eq_true h1]; rfl)
    rw [HR.out]
    go_enter Try.func5, Try.ntmps5
    go_wp2
    go_ret
    exact ⟨rfl, Below.refl _ _⟩
  have d1 : decide (80 < (n : Int)) = false := decide_eq_false (by omega)
  have HR : Hid (longA l = l.any fun a => decide (100 < a.key.size) || decide (100 < a.to.size)) := Lib.hid (by unfold longA; rw [Hll.out, decide_eq_false h1]; rfl)
  rw [HR.out]
  clear h1
  go_enter Try.func5, Try.ntmps5
  go_wp2
  go_loopw [10] (fun i wr => ∃ k : Nat, k ≤ n ∧ i = .int .i64 (k : Int) ∧ ((l.take k).any fun a => decide (100 < a.key.size) || decide (100 < a.to.size)) = false ∧ Below w.heap.size w wr) (fun i _ => n - (intOf i).toNat)
  case atStart => exact ⟨0, by omega, rfl, by simp, Below.refl _ _⟩
  case round =>
    obtain ⟨k, hk, rfl, hall, hbel⟩ := hrel
    have HA := Lib.hid hall
    have HB := Lib.hid hbel
    clear hall hbel
    by_cases hlt : k < n
    · obtain ⟨b, o, rfl, hb⟩ := Hl.out.2 (by omega)
      obtain ⟨g0, g1, g2, g3⟩ := hb k hlt
      have c0 := Keeps.of_below HB.out _ _ g0
      have c1 := Keeps.of_below HB.out _ _ g1
      have c2 := Keeps.of_below HB.out _ _ g2
      have c3 := Keeps.of_below HB.out _ _ g3
      have HS := Lib.hid (List.take_succ_eq_append_getElem (l := l) (i := k) (by rw [Hll.out]; exact hlt))
      have HM := Lib.hid (List.getElem_mem (l := l) (n := k) (by rw [Hll.out]; exact hlt))
      rw [List.getD_eq_getElem?_getD, List.getElem?_eq_getElem (by rw [Hll.out]; exact hlt)] at c0 c1 c2 c3
      simp only [Option.getD_some] at c0 c1 c2 c3
      clear g0 g1 g2 g3 hb
      generalize l[k]'(by rw [Hll.out]; exact hlt) = x at *
      have k0 : (0 : Int) ≤ (k : Int) := by omega
      have k1 : (k : Int) < (n : Int) := by omega
      have HB1 := Lib.hid (HB.out.alloc HB.out.size (.cells #[.int .i64 x.kind, .int .i64 x.n, .string x.key, .string x.to] 32))
      cases hq : (decide (100 < x.key.size) || decide (100 < x.to.size)) with
      | true =>
        have HT : Hid ((l.any fun a => decide (100 < a.key.size) || decide (100 < a.to.size)) = true) := Lib.hid (List.any_eq_true.2 ⟨x, HM.out, hq⟩)
        by_cases h1 : 100 < x.key.size
        · have q1 : decide (100 < (x.key.size : Int)) = true := decide_eq_true (by omega)
          clear hq h1
          go_wp2
          go_ret
          exact ⟨ret_bool HT.out.symm, HB1.out⟩
        · have h2 : 100 < x.to.size := by simpa [h1] using hq
          have q1 : decide (100 < (x.key.size : Int)) = false := decide_eq_false (by omega)
          have q2 : decide (100 < (x.to.size : Int)) = true := decide_eq_true (by omega)
          clear hq h1 h2
          go_wp2
          go_ret
          exact ⟨ret_bool HT.out.symm, HB1.out⟩
      | false =>
        have Hq := Lib.hid hq
        rw [Bool.or_eq_false_iff, decide_eq_false_iff_not, decide_eq_false_iff_not] at hq
        have q1 : decide (100 < (x.key.size : Int)) = false := decide_eq_false (by omega)
        have q2 : decide (100 < (x.to.size : Int)) = false := decide_eq_false (by omega)
        clear hq
        go_wp2
        go_roundw
        case rel => exact ⟨k + 1, by omega, by go_num, by rw [HS.out, List.any_append, HA.out]; simpa using Hq.out, HB1.out⟩
        case measure => simp [intOf]; omega
    · obtain rfl : k = n := by omega
      have HT : Hid ((l.any fun a => decide (100 < a.key.size) || decide (100 < a.to.size)) = false) := Lib.hid (by have := HA.out; rwa [List.take_of_length_le (Nat.le_of_eq Hll.out)] at this)
      go_wp2
      go_ret
      exact ⟨ret_bool HT.out.symm, HB.out⟩
end Go.Proofs.Ytgiaifglkecdjaa
