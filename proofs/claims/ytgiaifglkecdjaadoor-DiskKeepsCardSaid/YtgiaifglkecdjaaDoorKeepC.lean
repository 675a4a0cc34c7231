/- DiskKeeps: its contract over whatever can be read. -/
import Derived.Test.YtgiaifglkecdjaaDoorKeepL
import Derived.Test.YtgiaifglkecdjaaDoorErrsL
namespace Go.Proofs.YtgiaifglkecdjaaDoor
open Go.RowKit Go.ChangeShapes Go.WideShapes Go.ChangeAt Go.Deep

theorem DErrs.of_laid {L : List (String × DataW Unit)} {W : World} (h : laidMetH Tryd.prog L W) (hp : (L.all fun x => x.2.handleName?.isNone) = true) (m1 : ("bulla/api.ErrRange", Rows.laid_bulla_api_ErrRange) ∈ L) (m2 : ("bulla/api.ErrDown", Rows.laid_bulla_api_ErrDown) ∈ L) (m3 : ("bulla/api.ErrFull", Rows.laid_bulla_api_ErrFull) ∈ L) : ∃ ea, DErrs W ea := by
  obtain ⟨a1, h1⟩ := err_of_laid (g := 1) h hp m1 (isErr_of rfl) (by kernel_rfl) (by kernel_rfl)
  obtain ⟨a2, h2⟩ := err_of_laid (g := 24) h hp m2 (isErr_of rfl) (by kernel_rfl) (by kernel_rfl)
  obtain ⟨a3, h3⟩ := err_of_laid (g := 25) h hp m3 (isErr_of rfl) (by kernel_rfl) (by kernel_rfl)
  exact ⟨fun k => if k = 1 then a1 else if k = 25 then a2 else a3, h1.cell, h2.cell, h3.cell⟩

theorem open_act {H : Type} {enc : TypeId × Value → H} {W : World} {held : Bool} {fuel : Nat} {cs : Array Value} {x : DataW H × List MemPlace} (h : DataW.trod enc Tryd.prog W 0 (fun _ => true) held fuel 38 cs.toList = some x) :
    ∃ a : Act17, cs = #[.int .i64 a.kind, .int .i64 a.area, .int .i64 a.n, .int .i64 a.torn, .int .u64 a.scat, a.v] ∧ 0 ≤ a.scat ∧ a.scat ≤ 18446744073709551615 := by
  obtain ⟨hl, n, hf⟩ := open_fields fields_act cells_act1 h
  rw [cells_act] at hl
  obtain ⟨a, e0, e1, e2, e3, e4, e5, _, _, _, h1, h2⟩ := act_of (V := fun j => cs.toList.getD j undef) fun j T hj => hf j T hj (by have : j < 6 := (List.getElem?_eq_some_iff.1 hj).1; omega)
  refine ⟨a, ?_, h1, h2⟩
  have hs : cs.size = 6 := by simpa using hl
  apply Array.ext
  · exact hs
  · intro i hi _
    have hi6 : i < 6 := by omega
    have hg : cs[i] = cs.toList.getD i undef := by simp [List.getD_eq_getElem?_getD, hi]
    rw [hg]
    have : i = 0 ∨ i = 1 ∨ i = 2 ∨ i = 3 ∨ i = 4 ∨ i = 5 := by omega
    rcases this with rfl | rfl | rfl | rfl | rfl | rfl
    · exact e0
    · exact e1
    · exact e2
    · exact e3
    · exact e4
    · exact e5

set_option maxRecDepth 100000 in
theorem diskKeeps_contract {H : Type} {enc : TypeId × Value → H} {W : World} {base : Nat} {args : Array Value} {ds : List (DataW H)} {p : List MemPlace}
    (hval : ∀ (j : Nat) t v, Tryd.f4.params[j]? = some t → args[j]? = some v → Value.okWide Tryd.prog W .any base t v)
    (hA : DataW.TrodAll enc Tryd.prog W 0 (fun _ => true) true Tryd.f4.params.toList args.toList ds p) (hL : laidMetH Tryd.prog Rows.diskKeepsRow.laid W) :
    Calls Tryd.prog 4 args W fun e w' => e = .returned (.bool true) ∧ Below W.heap.size W w' := by
  rw [Tryd.params4] at hA hval
  obtain ⟨v0, v1, d0, d1, p0, p1, rfl, rfl, rfl, ⟨f0, h0⟩, ⟨f1, h1⟩⟩ := trodAll_two hA
  obtain ⟨a0, n0, c0, rfl⟩ := okWide_slice Tryd.underlying35 (hval 0 _ v0 rfl rfl)
  obtain ⟨cs, rfl, hcs⟩ := okWide_struct Tryd.underlying38 (hval 1 _ v1 rfl rfl)
  obtain ⟨A, n, c, l, e, hl, hc, hm⟩ := open_acts h0
  obtain ⟨cr, rfl, hs0, hs1⟩ := open_act h1
  obtain ⟨ea, he⟩ := DErrs.of_laid hL (by kernel_rfl) (by simp [Rows.diskKeepsRow]) (by simp [Rows.diskKeepsRow]) (by simp [Rows.diskKeepsRow])
  rw [e]
  exact DiskKeeps_any A n c l cr W hl (Nat.le_trans hc hm) hs0 hs1 he
end Go.Proofs.YtgiaifglkecdjaaDoor
