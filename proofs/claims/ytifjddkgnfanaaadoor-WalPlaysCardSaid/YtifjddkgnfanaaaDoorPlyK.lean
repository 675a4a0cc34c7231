/- WalPlays: its contract over whatever can be read. -/
import Derived.Test.YtifjddkgnfanaaaDoorPlyL
namespace Go.Proofs.YtifjddkgnfanaaaDoor
open Go.RowKit Go.ChangeShapes Go.WideShapes Go.ChangeAt Go.Deep

theorem act_of_in {H : Type} {enc : TypeId × Value → H} {W : World} {held : Bool} {n' : Nat} {V : Nat → Value} (hn : ∀ j T, [3, 3, 3, 46, 28][j]? = some T → ∃ y, DataW.trod enc Tryd.prog W 0 (fun _ => true) held n' T [V j] = some y) :
    ∃ a : Act18, V 0 = .int .i64 a.kind ∧ V 1 = .int .i64 a.n ∧ V 2 = .int .i64 a.torn ∧ V 3 = .int .u64 a.scat ∧ V 4 = a.v ∧ RB W a.A a.bs.length a.bs ∧ a.bs.length ≤ a.c ∧ a.c ≤ maxLen ∧ 0 ≤ a.scat ∧ a.scat ≤ 18446744073709551615 ∧ a.n ≤ 9223372036854775807 := by
  obtain ⟨a, e0, e1, e2, e3, e4, h1, h2, h3, h4, h5⟩ := act_of hn
  obtain ⟨y1, t1⟩ := hn 1 _ rfl
  obtain ⟨k1, e1', _, hw⟩ := DataW.trod_int Tryd.underlying3 t1
  injection e1' with e1' _
  rw [e1] at e1'
  injection e1' with _ e1'
  simp [Lit.wf, IntKind.min, IntKind.max, IntKind.signed, IntKind.bits] at hw
  exact ⟨a, e0, e1, e2, e3, e4, h1, h2, h3, h4, h5, by omega⟩

theorem open_acts_in {H : Type} {enc : TypeId × Value → H} {W : World} {held : Bool} {fuel : Nat} {v : Value} {x : DataW H × List MemPlace} (h : DataW.trod enc Tryd.prog W 0 (fun _ => true) held fuel 23 [v] = some x) :
    ∃ (A : Option Addr) (n c : Nat) (l : List Act18), v = .slice A n c ∧ RActs18 W A n l ∧ (∀ a ∈ l, 0 ≤ a.scat ∧ a.scat ≤ 18446744073709551615 ∧ a.n ≤ 9223372036854775807) ∧ n ≤ c ∧ c ≤ maxLen := by
  obtain ⟨A, n, c, V, rfl, hnc, hc, hx⟩ := open_structs Tryd.underlying23 fields_act cells_act cells_act1 (by decide) h
  rcases Nat.eq_zero_or_pos n with h0 | h0
  · subst h0
    exact ⟨A, 0, c, [], rfl, ⟨rfl, by simp, fun h => absurd h (by omega)⟩, by simp, hnc, hc⟩
  obtain ⟨b, o, rfl, hx2⟩ := hx h0
  have hx' : ∀ i, i < n → ∃ a : Act18, (W.cell? ⟨b, o + i * 5, none⟩ = some (.int .i64 a.kind) ∧ W.cell? ⟨b, o + i * 5 + 1, none⟩ = some (.int .i64 a.n) ∧ W.cell? ⟨b, o + i * 5 + 2, none⟩ = some (.int .i64 a.torn) ∧
      W.cell? ⟨b, o + i * 5 + 3, none⟩ = some (.int .u64 a.scat) ∧ W.cell? ⟨b, o + i * 5 + 4, none⟩ = some a.v) ∧ (RB W a.A a.bs.length a.bs ∧ a.bs.length ≤ a.c ∧ a.c ≤ maxLen) ∧ 0 ≤ a.scat ∧ a.scat ≤ 18446744073709551615 ∧ a.n ≤ 9223372036854775807 := by
    intro i hi
    obtain ⟨n', hn'⟩ := hx2 i hi
    obtain ⟨a, e0, e1, e2, e3, e4, h6, h7, h8, h9, h10, h11⟩ := act_of_in (V := V i) fun j T hj => (hn' j T hj).2
    have g := fun j T hj => (hn' j T hj).1
    refine ⟨a, ⟨?_, ?_, ?_, ?_, ?_⟩, ⟨h6, h7, h8⟩, h9, h10, h11⟩
    · rw [← e0]; exact g 0 _ rfl
    · rw [← e1]; exact g 1 _ rfl
    · rw [← e2]; exact g 2 _ rfl
    · rw [← e3]; exact g 3 _ rfl
    · rw [← e4]; exact g 4 _ rfl
  obtain ⟨f, hf⟩ := choose_lt hx'
  refine ⟨some ⟨b, o, none⟩, n, c, (List.range n).map f, rfl, ⟨by simp, fun a ha => ?_, fun _ => ⟨b, o, rfl, fun k hk => ?_⟩⟩, fun a ha => ?_, hnc, hc⟩
  · obtain ⟨k, hk, rfl⟩ := List.mem_map.1 ha
    exact (hf k (List.mem_range.1 hk)).2.1
  · have e : ((List.range n).map f).getD k default = f k := by simp [hk]
    rw [e]
    exact (hf k hk).1
  · obtain ⟨k, hk, rfl⟩ := List.mem_map.1 ha
    exact (hf k (List.mem_range.1 hk)).2.2

set_option maxRecDepth 100000 in
theorem walPlays_contract {H : Type} {enc : TypeId × Value → H} {W : World} {base : Nat} {args : Array Value} {ds : List (DataW H)} {p : List MemPlace}
    (hval : ∀ (j : Nat) t v, Tryd.f3.params[j]? = some t → args[j]? = some v → Value.okWide Tryd.prog W .any base t v)
    (hA : DataW.TrodAll enc Tryd.prog W 0 (fun _ => true) true Tryd.f3.params.toList args.toList ds p) (hL : laidMetH Tryd.prog Rows.walPlaysRow.laid W) :
    Calls Tryd.prog 3 args W fun e w' => e = .returned (.bool true) ∧ Below W.heap.size W w' := by
  rw [Tryd.params3] at hA hval
  obtain ⟨v0, v1, d0, d1, p0, p1, rfl, rfl, rfl, ⟨f0, h0⟩, ⟨f1, h1⟩⟩ := trodAll_two hA
  obtain ⟨a0, n0, c0, rfl⟩ := okWide_slice Tryd.underlying22 (hval 0 _ v0 rfl rfl)
  obtain ⟨a1, n1, c1, rfl⟩ := okWide_slice Tryd.underlying23 (hval 1 _ v1 rfl rfl)
  obtain ⟨A, n, c, ls, e, hl, _, _⟩ := open_sbl h0
  obtain ⟨B, m, d, l, e', ha, hin, hc', hm'⟩ := open_acts_in h1
  obtain ⟨ea, he⟩ := Errs.of_laid hL (by kernel_rfl) (by kernel_rfl)
  have hs := ShaTabs.of_laid hL (by kernel_rfl) (by simp [Rows.walPlaysRow]) (by simp [Rows.walPlaysRow])
  rw [e, e']
  exact WalPlays_any A B n c m d ls l W hl ha hin (Nat.le_trans hc' hm') (EW.of_errs he hs) he
end Go.Proofs.YtifjddkgnfanaaaDoor
