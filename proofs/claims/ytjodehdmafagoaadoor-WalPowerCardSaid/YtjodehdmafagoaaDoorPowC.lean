/- WalPower: its contract over whatever can be read. -/
import Derived.Test.YtjodehdmafagoaaDoorPowL
import Derived.Test.YtjodehdmafagoaaDoorErrsL
namespace Go.Proofs.YtjodehdmafagoaaDoor
open Go.RowKit Go.ChangeShapes Go.WideShapes Go.ChangeAt Go.Deep

theorem open_act18 {H : Type} {enc : TypeId × Value → H} {W : World} {held : Bool} {fuel : Nat} {cs : Array Value} {x : DataW H × List MemPlace} (h : DataW.trod enc Tryd.prog W 0 (fun _ => true) held fuel 38 cs.toList = some x) :
    ∃ a : Act18, cs = #[.int .i64 a.kind, .int .i64 a.n, .int .i64 a.torn, .int .u64 a.scat, a.v] ∧ 0 ≤ a.scat ∧ a.scat ≤ 18446744073709551615 := by
  obtain ⟨hl, n, hf⟩ := open_fields fields_act cells_act1 h
  rw [cells_act] at hl
  obtain ⟨a, e0, e1, e2, e3, e4, _, _, _, h1, h2⟩ := act_of (V := fun j => cs.toList.getD j undef) fun j T hj => hf j T hj (by have : j < 5 := (List.getElem?_eq_some_iff.1 hj).1; omega)
  refine ⟨a, ?_, h1, h2⟩
  have hs : cs.size = 5 := by simpa using hl
  apply Array.ext
  · exact hs
  · intro i hi _
    have hi6 : i < 5 := by omega
    have hg : cs[i] = cs.toList.getD i undef := by simp [List.getD_eq_getElem?_getD, hi]
    rw [hg]
    have : i = 0 ∨ i = 1 ∨ i = 2 ∨ i = 3 ∨ i = 4 := by omega
    rcases this with rfl | rfl | rfl | rfl | rfl
    · exact e0
    · exact e1
    · exact e2
    · exact e3
    · exact e4

set_option maxRecDepth 100000 in
theorem walPower_contract {H : Type} {enc : TypeId × Value → H} {W : World} {base : Nat} {args : Array Value} {ds : List (DataW H)} {p : List MemPlace}
    (hval : ∀ (j : Nat) t v, Tryd.f4.params[j]? = some t → args[j]? = some v → Value.okWide Tryd.prog W .any base t v)
    (hA : DataW.TrodAll enc Tryd.prog W 0 (fun _ => true) true Tryd.f4.params.toList args.toList ds p) (hL : laidMetH Tryd.prog Rows.walPowerRow.laid W) :
    Calls Tryd.prog 4 args W fun e w' => e = .returned (.bool true) ∧ Below W.heap.size W w' := by
  rw [Tryd.params4] at hA hval
  obtain ⟨v0, v1, v2, d0, d1, d2, p0, p1, p2, rfl, rfl, rfl, ⟨f0, h0⟩, ⟨f1, h1⟩, ⟨f2, h2⟩⟩ := trodAll_three hA
  obtain ⟨a0, n0, c0, rfl⟩ := okWide_slice Tryd.underlying23 (hval 0 _ v0 rfl rfl)
  obtain ⟨power, rfl⟩ := okWide_int Tryd.underlying3 (hval 1 _ v1 rfl rfl)
  obtain ⟨cs, rfl, hcs⟩ := okWide_struct Tryd.underlying38 (hval 2 _ v2 rfl rfl)
  obtain ⟨B, m, d, l, e', ha, hc', hm'⟩ := open_acts h0
  obtain ⟨cr, rfl, hs0, hs1⟩ := open_act18 h2
  obtain ⟨ea, he⟩ := Errs.of_laid hL (by kernel_rfl) (by kernel_rfl)
  have hs := ShaTabs.of_laid hL (by kernel_rfl) (by simp [Rows.walPowerRow]) (by simp [Rows.walPowerRow])
  rw [e']
  exact WalPower_any B m d l power cr W ha (Nat.le_trans hc' hm') hs0 hs1 (EW.of_errs he hs) he
end Go.Proofs.YtjodehdmafagoaaDoor
