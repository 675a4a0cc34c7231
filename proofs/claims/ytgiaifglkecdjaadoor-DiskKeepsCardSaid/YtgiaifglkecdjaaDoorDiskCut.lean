/- disk: Cut. -/
import Derived.Test.YtgiaifglkecdjaaDoorDiskWrite
namespace Go.Proofs.YtgiaifglkecdjaaDoor
open Go.RowKit
section
variable {w w' : World} {O O' : Nat → Prop} {g : Nat} {m m' : DM} {ea : Nat → Addr}

theorem DCut_any (area at_ : Int) (hV : DiskAt w O g m) (hok : m.Ok) (hE : DErrs w ea) (hg : 26 ≤ g) (hw : m.waits.length ≤ 1000) :
    Calls Tryd.prog 22 #[.pointer (some ⟨g, 0, none⟩), .int .i64 area, .int .i64 at_] w fun e w' => e = .returned (dErr ea (m.cutE area at_)) ∧ DiskAt w' (ext O w w') g (m.cut area at_) ∧ Fr O w w' := by
  obtain ⟨bv, wv, ws, h⟩ := hV
  have c1 := hE.range
  have HV := Lib.hid h
  by_cases hr : 0 ≤ area ∧ area < 3
  · have HD : Hid (decide (0 ≤ area ∧ area < 3) = true) := Lib.hid (decide_eq_true hr)
    by_cases h1 : at_ < 0
    · have q1 : decide (at_ < 0) = true := decide_eq_true h1
      have hW : m.cutE area at_ = 1 := by unfold DM.cutE; rw [if_pos (.inr (.inl h1))]
      rw [DM.cut_of hW (by decide) (by decide), hW]
      clear hE h hok hr hW h1
      go_enter Tryd.func22, Tryd.ntmps22
      go_wp2_with (go_at_call 74; refine (is_any _ _).mono ?_; rw [HD.out]; rintro e w' ⟨rfl, rfl⟩)
      go_ret
      exact ⟨rfl, HV.out.ofSame, Fr.refl _ _⟩
    · obtain ⟨a, rfl⟩ : ∃ a : Nat, area = a := ⟨area.toNat, by omega⟩
      have ha : a < 3 := by omega
      have hsz := hok.len (3 + a) (by omega)
      have q1 : decide (at_ < 0) = false := decide_eq_false h1
      have HS := Lib.hid (Size_in a ha h)
      obtain ⟨sz, hs⟩ : ∃ sz, sz = (m.b (3 + a)).length := ⟨_, rfl⟩
      rw [← hs] at hsz HS
      by_cases h2 : (sz : Int) < at_
      · have q2 : decide ((sz : Int) < at_) = true := decide_eq_true h2
        have hW : m.cutE a at_ = 1 := by unfold DM.cutE; rw [if_pos (.inr (.inr (by rw [Int.toNat_natCast, ← hs]; exact h2)))]
        rw [DM.cut_of hW (by decide) (by decide), hW]
        clear hE h hok hr hW h1 hs
        go_enter Tryd.func22, Tryd.ntmps22
        go_wp2_with (first
          | (go_at_call 74; refine (is_any _ _).mono ?_; rw [HD.out]; rintro e w' ⟨rfl, rfl⟩)
          | (go_at_call 27; refine HS.out.mono ?_; rintro e w' ⟨rfl, rfl⟩))
        go_ret
        exact ⟨rfl, HV.out.ofSame, Fr.refl _ _⟩
      · have q2 : decide ((sz : Int) < at_) = false := decide_eq_false h2
        have hcond : ¬ (¬ (0 ≤ (a : Int) ∧ (a : Int) < 3) ∨ at_ < 0 ∨ ((m.b (3 + (a : Int).toNat)).length : Int) < at_) := by rw [Int.toNat_natCast, ← hs]; omega
        obtain ⟨p, rfl⟩ : ∃ p : Nat, at_ = p := ⟨at_.toNat, by omega⟩
        cases hd : m.dead with
        | true =>
          have hW : m.cutE a p = 25 := by unfold DM.cutE; rw [if_neg hcond, hd]; rfl
          have HM : Hid (m.cut a p = m.unit) := Lib.hid (by unfold DM.cut; rw [hW]; rfl)
          have HX := Lib.hid (wait_dead (w := w) ⟨a, p, [], true⟩ (.slice none 0 0) h hE hd hg)
          dsimp only at HX
          rw [hW]
          have HG := Lib.hid h.ownG
          clear hE h hok hr hW hs hcond hd
          go_enter Tryd.func22, Tryd.ntmps22
          go_wp2_with (first
            | (go_at_call 74; refine (is_any _ _).mono ?_; rw [HD.out]; rintro e w' ⟨rfl, rfl⟩)
            | (go_at_call 27; refine HS.out.mono ?_; rintro e w' ⟨rfl, rfl⟩)
            | (go_at_call 75; refine HX.out.mono ?_; rintro e w2 ⟨rfl, hv2, hf2⟩))
          go_ret
          rw [HM.out]
          exact ⟨rfl, ⟨_, _, _, hv2.mono fun _ _ ho => .inl ho⟩, hf2.mono fun q _ e => by subst e; exact HG.out⟩
        | false =>
          have hW : m.cutE a p = 0 := by unfold DM.cutE; rw [if_neg hcond, hd]; rfl
          have HM : Hid (m.cut a p = m.unit.wait ⟨a, p, [], true⟩) := Lib.hid (by unfold DM.cut; rw [hW]; rfl)
          have HX := Lib.hid (wait_live (O := O) (w := w) ⟨a, p, [], true⟩ none 0 0 h hok hd hw ha (by show p + 0 ≤ _; omega) (OB.nil _ _) (fun q hq => (by cases hq)) (fun i hi q hq => (by cases hq)))
          dsimp only at HX
          rw [hW]
          clear hE h hok hr hW hs hcond hd
          go_enter Tryd.func22, Tryd.ntmps22
          go_wp2_with (first
            | (go_at_call 74; refine (is_any _ _).mono ?_; rw [HD.out]; rintro e w' ⟨rfl, rfl⟩)
            | (go_at_call 27; refine HS.out.mono ?_; rintro e w' ⟨rfl, rfl⟩)
            | (go_at_call 75; refine HX.out.mono ?_; rintro e w2 ⟨rfl, hv2, hf2⟩))
          go_ret
          rw [HM.out]
          exact ⟨rfl, hv2, hf2⟩
  · have HD : Hid (decide (0 ≤ area ∧ area < 3) = false) := Lib.hid (decide_eq_false hr)
    have hW : m.cutE area at_ = 1 := by unfold DM.cutE; rw [if_pos (.inl hr)]
    rw [DM.cut_of hW (by decide) (by decide), hW]
    clear hE h hok hr hW
    go_enter Tryd.func22, Tryd.ntmps22
    go_wp2_with (go_at_call 74; refine (is_any _ _).mono ?_; rw [HD.out]; rintro e w' ⟨rfl, rfl⟩)
    go_ret
    exact ⟨rfl, HV.out.ofSame, Fr.refl _ _⟩
end
end Go.Proofs.YtgiaifglkecdjaaDoor
