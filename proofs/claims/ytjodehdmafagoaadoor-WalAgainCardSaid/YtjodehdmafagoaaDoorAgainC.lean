/- WalAgain: its contract over whatever can be read. -/
import Derived.Test.YtjodehdmafagoaaDoorAgainL
import Derived.Test.YtjodehdmafagoaaDoorErrsL
namespace Go.Proofs.YtjodehdmafagoaaDoor
open Go.RowKit Go.ChangeShapes Go.WideShapes Go.ChangeAt Go.Deep

theorem EW.of_laid {L : List (String × DataW Unit)} {W : World} (h : laidMetH Tryd.prog L W) (hp : (L.all fun x => x.2.handleName?.isNone) = true) (m1 : ("bulla/api.ErrRange", Rows.laid_bulla_api_ErrRange) ∈ L) (m2 : ("bulla/api.ErrDown", Rows.laid_bulla_api_ErrDown) ∈ L) (m3 : ("bulla/api.ErrFull", Rows.laid_bulla_api_ErrFull) ∈ L) (m4 : ("bulla/api.ErrLong", Rows.laid_bulla_api_ErrLong) ∈ L)
    (mk : ("bulla/sha.constants", Rows.laid_bulla_sha_constants) ∈ L) (mf : ("bulla/sha.first", Rows.laid_bulla_sha_first) ∈ L) : ∃ ea, EW W ea := by
  obtain ⟨a1, h1⟩ := err_of_laid (g := 0) h hp m1 (isErr_of rfl) (by kernel_rfl) (by kernel_rfl)
  obtain ⟨a2, h2⟩ := err_of_laid (g := 3) h hp m2 (isErr_of rfl) (by kernel_rfl) (by kernel_rfl)
  obtain ⟨a3, h3⟩ := err_of_laid (g := 1) h hp m3 (isErr_of rfl) (by kernel_rfl) (by kernel_rfl)
  obtain ⟨a4, h4⟩ := err_of_laid (g := 4) h hp m4 (isErr_of rfl) (by kernel_rfl) (by kernel_rfl)
  have hs := ShaTabs.of_laid h hp mk mf
  exact ⟨fun k => if k = 1 then a1 else if k = 25 then a2 else if k = 3 then a4 else a3, hs, ⟨h1.cell, h2.cell, h3.cell⟩, h4.cell, Nat.le_trans (by decide) hs.lt⟩

set_option maxRecDepth 100000 in
theorem walAgain_contract {H : Type} {enc : TypeId × Value → H} {W : World} {base : Nat} {args : Array Value} {ds : List (DataW H)} {p : List MemPlace}
    (hval : ∀ (j : Nat) t v, Tryd.f3.params[j]? = some t → args[j]? = some v → Value.okWide Tryd.prog W .any base t v)
    (hA : DataW.TrodAll enc Tryd.prog W 0 (fun _ => true) true Tryd.f3.params.toList args.toList ds p) (hL : laidMetH Tryd.prog Rows.walAgainRow.laid W) :
    Calls Tryd.prog 3 args W fun e w' => e = .returned (.bool true) ∧ Below W.heap.size W w' := by
  rw [Tryd.params3] at hA hval
  obtain ⟨v0, v1, d0, d1, p0, p1, rfl, rfl, rfl, ⟨f0, h0⟩, ⟨f1, h1⟩⟩ := trodAll_two hA
  obtain ⟨a0, n0, c0, rfl⟩ := okWide_slice Tryd.underlying22 (hval 0 _ v0 rfl rfl)
  obtain ⟨a1, n1, c1, rfl⟩ := okWide_slice Tryd.underlying23 (hval 1 _ v1 rfl rfl)
  obtain ⟨A, n, c, ls, e, hl, _, _⟩ := open_sbl h0
  obtain ⟨B, m, d, l, e', ha, hc', hm'⟩ := open_acts h1
  obtain ⟨ea, he⟩ := EW.of_laid hL (by kernel_rfl) (by simp [Rows.walAgainRow]) (by simp [Rows.walAgainRow]) (by simp [Rows.walAgainRow]) (by simp [Rows.walAgainRow]) (by simp [Rows.walAgainRow]) (by simp [Rows.walAgainRow])
  rw [e, e']
  exact WalAgain_any A B n c m d ls l W hl ha (Nat.le_trans hc' hm') he
end Go.Proofs.YtjodehdmafagoaaDoor
