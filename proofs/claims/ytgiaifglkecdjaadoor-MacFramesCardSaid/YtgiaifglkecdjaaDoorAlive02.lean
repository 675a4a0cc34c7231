/- Layer 2's law: alive; Same's two answers. -/
import Derived.Test.YtgiaifglkecdjaaDoorFrame
import Derived.Test.YtgiaifglkecdjaaDoorLaw
namespace Go.Proofs.YtgiaifglkecdjaaDoor
open Go.RowKit Go.ChangeShapes Go.WideShapes Go.ChangeAt Go.Deep

set_option maxRecDepth 100000 in
theorem alive02_any (w : World) :
    Calls Tryd.prog 13 #[] w fun e w' => e = .returned (.bool true) ∧ Below w.heap.size w w' := by
  go_enter Tryd.func13, Tryd.ntmps13
  go_wp2_with fail
  refine (Frame_ok _ none 0 0 [] w (RBL.nil _ _) (by decide) (by decide)).mono ?_
  rintro e w' ⟨v, rfl, hown, hb⟩
  obtain ⟨A', cap, rfl, h1, h2, hrb⟩ := hown.form
  have hc := run_bytes_string (P := Tryd.prog) Tryd.underlying22 Tryd.underlying5 Tryd.underlying9 (c := cap) hrb
  rw [show frameB _ [] = [1, 97, 0] from by decide] at hc ⊢
  change (convert 22 9 (.slice A' 3 cap)).run Tryd.prog w' = _ at hc
  clear hown hrb h1 h2
  go_wp2
  go_ret
  exact ⟨rfl, hb⟩

theorem same_true (A B : Option Addr) (n c d : Nat) (w : World) (l : List UInt8) (hl : RB w A n l) (hr : RB w B n l) (hn : n ≤ maxLen) :
    Calls Tryd.prog 88 #[.slice A n c, .slice B n d] w fun e w' => e = .returned (.bool true) ∧ ∃ k, w' = w.drewN k :=
  (Same_eq A B n c d w l l hl hr hn).mono fun _ _ ⟨h1, h2⟩ => ⟨by rw [h1]; simp, h2⟩
theorem same_false (A B : Option Addr) (n m c d : Nat) (w : World) (l r : List UInt8) (hl : RB w A n l) (hr : RB w B m r) (hn : n ≤ maxLen) (hne : l ≠ r) :
    Calls Tryd.prog 88 #[.slice A n c, .slice B m d] w fun e w' => e = .returned (.bool false) ∧ ∃ k, w' = w.drewN k := by
  by_cases h : n = m
  · subst h
    exact (Same_eq A B n c d w l r hl hr hn).mono fun _ _ ⟨h1, h2⟩ => ⟨by rw [h1]; simp [hne], h2⟩
  · exact (Same_ne A B n m c d w h).mono fun _ _ ⟨h1, h2⟩ => ⟨h1, 0, h2.symm⟩
end Go.Proofs.YtgiaifglkecdjaaDoor
