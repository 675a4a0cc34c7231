/- MacSame: which bytes are the same: the walk. -/
import Derived.Test.YtbpmigcbfbdnjaaDoorFrame
import Derived.Test.YtbpmigcbfbdnjaaDoorLaw
namespace Go.Proofs.YtbpmigcbfbdnjaaDoor
open Go.RowKit Go.ChangeShapes Go.WideShapes Go.ChangeAt Go.Deep

set_option maxRecDepth 100000 in
theorem alive02_any (w : World) :
    Calls Tryd.prog 12 #[] w fun e w' => e = .returned (.bool true) ∧ Below w.heap.size w w' := by
  go_enter Tryd.func12, Tryd.ntmps12
  go_wp2_with fail
  refine (Frame_ok _ none 0 0 [] w (RBL.nil _ _) (by decide) (by decide)).mono ?_
  rintro e w' ⟨v, rfl, hown, hb⟩
  obtain ⟨A', cap, rfl, h1, h2, hrb⟩ := hown.form
  have hc := run_bytes_string (P := Tryd.prog) Tryd.underlying27 Tryd.underlying5 Tryd.underlying9 (c := cap) hrb
  rw [show frameB _ [] = [1, 97, 0] from by decide] at hc ⊢
  change (convert 27 9 (.slice A' 3 cap)).run Tryd.prog w' = _ at hc
  clear hown hrb h1 h2
  go_wp2
  go_ret
  exact ⟨rfl, hb⟩

theorem same_true (A B : Option Addr) (n c d : Nat) (w : World) (l : List UInt8) (hl : RB w A n l) (hr : RB w B n l) (hn : n ≤ maxLen) :
    Calls Tryd.prog 16 #[.slice A n c, .slice B n d] w fun e w' => e = .returned (.bool true) ∧ ∃ k, w' = w.drewN k :=
  (Same_eq A B n c d w l l hl hr hn).mono fun _ _ ⟨h1, h2⟩ => ⟨by rw [h1]; simp, h2⟩
theorem same_false (A B : Option Addr) (n m c d : Nat) (w : World) (l r : List UInt8) (hl : RB w A n l) (hr : RB w B m r) (hn : n ≤ maxLen) (hne : l ≠ r) :
    Calls Tryd.prog 16 #[.slice A n c, .slice B m d] w fun e w' => e = .returned (.bool false) ∧ ∃ k, w' = w.drewN k := by
  by_cases h : n = m
  · subst h
    exact (Same_eq A B n c d w l r hl hr hn).mono fun _ _ ⟨h1, h2⟩ => ⟨by rw [h1]; simp [hne], h2⟩
  · exact (Same_ne A B n m c d w h).mono fun _ _ ⟨h1, h2⟩ => ⟨h1, 0, h2.symm⟩
set_option maxRecDepth 100000 in
theorem MacSame_any (A B : Option Addr) (n m c d : Nat) (w : World) (l r : List UInt8) (hl : RB w A n l) (hr : RB w B m r) :
    Calls Tryd.prog 4 #[.slice A n c, .slice B m d] w fun e w' => e = .returned (.bool true) ∧ Below w.heap.size w w' := by
  by_cases h1 : 1000 < n
  · have k1 : decide (1000 < (n : Int)) = true := decide_eq_true (by omega)
    go_enter Tryd.func4, Tryd.ntmps4
    go_wp2_with (go_at_call 12; refine (alive02_any _).mono ?_; rintro e w1 ⟨rfl, hb⟩)
    go_ret
    exact ⟨rfl, hb⟩
  have k1 : decide (1000 < (n : Int)) = false := decide_eq_false (by omega)
  by_cases h2 : 1000 < m
  · have k2 : decide (1000 < (m : Int)) = true := decide_eq_true (by omega)
    go_enter Tryd.func4, Tryd.ntmps4
    go_wp2_with (go_at_call 12; refine (alive02_any _).mono ?_; rintro e w1 ⟨rfl, hb⟩)
    go_ret
    exact ⟨rfl, hb⟩
  have k2 : decide (1000 < (m : Int)) = false := decide_eq_false (by omega)
  have hnx : n ≤ maxLen := by unfold maxLen; omega
  have Hl := Lib.hid hl
  have Hr := Lib.hid hr
  clear hl hr
  go_enter Tryd.func4, Tryd.ntmps4
  go_wp2_with (go_at_call 12; refine (alive02_any _).mono ?_; rintro e w1 ⟨rfl, hb⟩)
  have hl1 := Hl.out.keep (Keeps.of_below hb)
  have hr1 := Hr.out.keep (Keeps.of_below hb)
  have ca := fun q => run_bytes_string (P := Tryd.prog) Tryd.underlying27 Tryd.underlying5 Tryd.underlying9 (c := c) (hl1.keep (Keeps.drewN w1 q))
  have cb := fun q => run_bytes_string (P := Tryd.prog) Tryd.underlying27 Tryd.underlying5 Tryd.underlying9 (c := d) (hr1.keep (Keeps.drewN w1 q))
  have sl := str_list l
  have sr := str_list r
  by_cases hnm : n = m
  · subst hnm
    by_cases hlr : l = r
    · subst hlr
      go_quiet (first
        | (go_at_call 16; with_reducible exact Calls.quiet_of (same_true A B n c d _ l (hl1.keep (Keeps.drewN w1 _)) (hr1.keep (Keeps.drewN w1 _)) hnx))
        | (go_at_call 16; with_reducible exact Calls.quiet_of (same_true A A n c c _ l (hl1.keep (Keeps.drewN w1 _)) (hl1.keep (Keeps.drewN w1 _)) hnx)))
      go_wp2
      go_ret
      exact ⟨rfl, below_drewN hb _⟩
    · have hne : (l == r) = false := by simpa using hlr
      go_quiet (first
        | (go_at_call 16; with_reducible exact Calls.quiet_of (same_false A B n n c d _ l r (hl1.keep (Keeps.drewN w1 _)) (hr1.keep (Keeps.drewN w1 _)) hnx hlr))
        | (go_at_call 16; with_reducible exact Calls.quiet_of (same_true A A n c c _ l (hl1.keep (Keeps.drewN w1 _)) (hl1.keep (Keeps.drewN w1 _)) hnx)))
      go_wp2
      go_ret
      exact ⟨rfl, below_drewN hb _⟩
  · have hlr : l ≠ r := by rintro rfl; exact hnm (hl1.1.symm.trans hr1.1)
    have hne : (l == r) = false := by simpa using hlr
    go_quiet (first
      | (go_at_call 16; with_reducible exact Calls.quiet_of (same_false A B n m c d _ l r (hl1.keep (Keeps.drewN w1 _)) (hr1.keep (Keeps.drewN w1 _)) hnx hlr))
      | (go_at_call 16; with_reducible exact Calls.quiet_of (same_true A A n c c _ l (hl1.keep (Keeps.drewN w1 _)) (hl1.keep (Keeps.drewN w1 _)) hnx)))
    go_wp2
    go_ret
    exact ⟨rfl, below_drewN hb _⟩

set_option maxRecDepth 100000 in
theorem macSame_contract {H : Type} {enc : TypeId × Value → H} {W : World} {base : Nat} {args : Array Value} {ds : List (DataW H)} {p : List MemPlace}
    (hval : ∀ (j : Nat) t v, Tryd.f4.params[j]? = some t → args[j]? = some v → Value.okWide Tryd.prog W .any base t v)
    (hA : DataW.TrodAll enc Tryd.prog W 0 (fun _ => true) true Tryd.f4.params.toList args.toList ds p) (_hL : laidMetH Tryd.prog Rows.macSameRow.laid W) :
    Calls Tryd.prog 4 args W fun e w' => e = .returned (.bool true) ∧ Below W.heap.size W w' := by
  rw [Tryd.params4] at hA hval
  obtain ⟨v0, v1, d0, d1, p0, p1, rfl, rfl, rfl, ⟨f0, h0⟩, ⟨f1, h1⟩⟩ := trodAll_two hA
  obtain ⟨a0, n0, c0, rfl⟩ := okWide_slice Tryd.underlying27 (hval 0 _ v0 rfl rfl)
  obtain ⟨a1, n1, c1, rfl⟩ := okWide_slice Tryd.underlying27 (hval 1 _ v1 rfl rfl)
  obtain ⟨l, A, c, e, hc, hm, hl⟩ := open_sb h0
  obtain ⟨r, B, d, e', hd, hm', hr⟩ := open_sb h1
  rw [e, e']
  exact MacSame_any _ _ _ _ _ _ W l r hl hr
end Go.Proofs.YtbpmigcbfbdnjaaDoor
