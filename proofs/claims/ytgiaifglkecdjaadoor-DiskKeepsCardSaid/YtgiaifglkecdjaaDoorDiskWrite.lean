/- disk: Write, Cut. -/
import Derived.Test.YtgiaifglkecdjaaDoorDiskWait
namespace Go.Proofs.YtgiaifglkecdjaaDoor
open Go.RowKit

/-- The error that a number names. -/
def dErr (ea : Nat → Addr) : Nat → Value
  | 0 => .nilIface
  | k + 1 => .iface 221 (.pointer (some (ea (k + 1))))

section
variable {w w' : World} {O O' : Nat → Prop} {g : Nat} {m m' : DM} {bv : Nat → Value} {wv : Value} {ws : List (DChg × Value)} {ea : Nat → Addr}

theorem DiskV.drewN (h : DiskV w O g m bv wv ws) (k : Nat) : DiskV (w.drewN k) O g m bv wv ws := h.below (below_drewN (Below.refl _ _) k)
theorem DiskV.ofSame (h : DiskV w O g m bv wv ws) : DiskAt w (ext O w w) g m := ⟨bv, wv, ws, h.mono fun _ _ ho => .inl ho⟩
theorem DM.write_of {m : DM} {area at_ : Int} {bs : List UInt8} {k : Nat} (h : m.writeE area at_ bs.length = k) (h0 : k ≠ 0) (h1 : k ≠ 25) : m.write area at_ bs = m := by
  unfold DM.write
  rw [h, if_neg h0, if_neg h1]
theorem DM.cut_of {m : DM} {area n : Int} {k : Nat} (h : m.cutE area n = k) (h0 : k ≠ 0) (h1 : k ≠ 25) : m.cut area n = m := by
  unfold DM.cut
  rw [h, if_neg h0, if_neg h1]

theorem DWrite_any (area at_ : Int) (A : Option Addr) (n k : Nat) (bs : List UInt8) (hV : DiskAt w O g m) (hok : m.Ok) (hE : DErrs w ea) (hg : 26 ≤ g) (hb : RB w A n bs) (hn : n ≤ 1048576) (hw : m.waits.length ≤ 1000) :
    Calls Tryd.prog 23 #[.pointer (some ⟨g, 0, none⟩), .int .i64 area, .int .i64 at_, .slice A n k] w fun e w' => e = .returned (dErr ea (m.writeE area at_ bs.length)) ∧ DiskAt w' (ext O w w') g (m.write area at_ bs) ∧ Fr O w w' := by
  obtain ⟨bv, wv, ws, h⟩ := hV
  have hbl := hb.1
  have c1 := hE.range
  have c26 := hE.full
  have HV := Lib.hid h
  by_cases hr : 0 ≤ area ∧ area < 3
  · have HD : Hid (decide (0 ≤ area ∧ area < 3) = true) := Lib.hid (decide_eq_true hr)
    by_cases h1 : at_ < 0
    · have q1 : decide (at_ < 0) = true := decide_eq_true h1
      have hW : m.writeE area at_ bs.length = 1 := by unfold DM.writeE; rw [if_pos (.inr (.inl h1))]
      rw [DM.write_of hW (by decide) (by decide), hW]
      clear hb hE h hok hr hbl hW h1
      go_enter Tryd.func23, Tryd.ntmps23
      go_wp2_with (go_at_call 74; refine (is_any _ _).mono ?_; rw [HD.out]; rintro e w' ⟨rfl, rfl⟩)
      go_ret
      exact ⟨rfl, HV.out.ofSame, Fr.refl _ _⟩
    · obtain ⟨a, rfl⟩ : ∃ a : Nat, area = a := ⟨area.toNat, by omega⟩
      have ha : a < 3 := by omega
      have hsz := hok.len (3 + a) (by omega)
      have q1 : decide (at_ < 0) = false := decide_eq_false h1
      have HS := Lib.hid (Size_in a ha h)
      obtain ⟨sz, hs⟩ : ∃ sz, sz = (m.b (3 + a)).length := ⟨_, rfl⟩
      rw [← hs] at hsz HS
      by_cases h2 : (sz : Int) < at_
      · have q2 : decide ((sz : Int) < at_) = true := decide_eq_true h2
        have hW : m.writeE a at_ bs.length = 1 := by unfold DM.writeE; rw [if_pos (.inr (.inr (by rw [Int.toNat_natCast, ← hs]; exact h2)))]
        rw [DM.write_of hW (by decide) (by decide), hW]
        clear hb hE h hok hr hbl hW h1 hs
        go_enter Tryd.func23, Tryd.ntmps23
        go_wp2_with (first
          | (go_at_call 74; refine (is_any _ _).mono ?_; rw [HD.out]; rintro e w' ⟨rfl, rfl⟩)
          | (go_at_call 27; refine HS.out.mono ?_; rintro e w' ⟨rfl, rfl⟩))
        go_ret
        exact ⟨rfl, HV.out.ofSame, Fr.refl _ _⟩
      · have q2 : decide ((sz : Int) < at_) = false := decide_eq_false h2
        have hcond : ¬ (¬ (0 ≤ (a : Int) ∧ (a : Int) < 3) ∨ at_ < 0 ∨ ((m.b (3 + (a : Int).toNat)).length : Int) < at_) := by rw [Int.toNat_natCast, ← hs]; omega
        have HF := Lib.hid (Free_any hok h)
        have hf1 : m.free ≤ 1048576 := by have := hok.room1; unfold DM.free; omega
        have hf0 : -3145728 ≤ m.free := by have := hok.room0; have := hok.len 3 (by omega); have := hok.len 4 (by omega); have := hok.len 5 (by omega); unfold DM.free; omega
        obtain ⟨fr, hfr⟩ : ∃ fr, fr = m.free := ⟨_, rfl⟩
        rw [← hfr] at HF hf0 hf1
        by_cases h3 : fr < at_ + n - sz
        · have q3 : decide (fr < at_ + n - sz) = true := decide_eq_true h3
          have hW : m.writeE a at_ bs.length = 26 := by unfold DM.writeE; rw [if_neg hcond, Int.toNat_natCast, ← hs, ← hfr, hbl, if_pos h3]
          rw [DM.write_of hW (by decide) (by decide), hW]
          clear hb hE h hok hr hbl hW hs hcond hfr
          go_enter Tryd.func23, Tryd.ntmps23
          go_wp2_with (first
            | (go_at_call 74; refine (is_any _ _).mono ?_; rw [HD.out]; rintro e w' ⟨rfl, rfl⟩)
            | (go_at_call 27; refine HS.out.mono ?_; rintro e w' ⟨rfl, rfl⟩)
            | (go_at_call 28; refine HF.out.mono ?_; rintro e w' ⟨rfl, rfl⟩))
          go_ret
          exact ⟨rfl, HV.out.ofSame, Fr.refl _ _⟩
        · have q3 : decide (fr < at_ + n - sz) = false := decide_eq_false h3
          obtain ⟨p, rfl⟩ : ∃ p : Nat, at_ = p := ⟨at_.toNat, by omega⟩
          have hc := Clone_any A n k bs w hb (by omega)
          rw [hbl] at hc
          have HC := Lib.hid hc
          cases hd : m.dead with
          | true =>
            have hW : m.writeE a p bs.length = 25 := by unfold DM.writeE; rw [if_neg hcond, Int.toNat_natCast, ← hs, ← hfr, hbl, if_neg h3, hd]; rfl
            have HM : Hid (m.write a p bs = m.unit) := Lib.hid (by unfold DM.write; rw [hW]; rfl)
            have HX := Lib.hid (fun (W : World) (A2 : Option Addr) (c2 : Nat) (hb : Below w.heap.size w W) => wait_dead (w := W) ⟨a, p, bs, false⟩ (.slice A2 n c2) (h.below hb) (hE.keep (Keeps.of_below hb)) hd hg)
            dsimp only at HX
            rw [hW]
            have HG := Lib.hid h.ownG
            clear hb hE h hok hr hW hs hcond hfr hd hc
            go_enter Tryd.func23, Tryd.ntmps23
            go_wp2_with (first
              | (go_at_call 74; refine (is_any _ _).mono ?_; rw [HD.out]; rintro e w' ⟨rfl, rfl⟩)
              | (go_at_call 27; refine HS.out.mono ?_; rintro e w' ⟨rfl, rfl⟩)
              | (go_at_call 28; refine HF.out.mono ?_; rintro e w' ⟨rfl, rfl⟩)
              | (go_at_call 76; refine HC.out.mono ?_; rintro e w1 ⟨A2, c2, rfl, hx1, hb1⟩; replace hb1 := Lib.hid hb1)
              | (go_at_call 75; refine (HX.out w1 A2 c2 hb1.out).mono ?_; rintro e w2 ⟨rfl, hv2, hf2⟩))
            go_ret
            rw [HM.out]
            exact ⟨rfl, ⟨_, _, _, hv2.mono fun _ _ ho => .inl ho⟩, (Fr.of_below hb1.out).trans hf2 fun q _ e => by subst e; exact HG.out⟩
          | false =>
            have hW : m.writeE a p bs.length = 0 := by unfold DM.writeE; rw [if_neg hcond, Int.toNat_natCast, ← hs, ← hfr, hbl, if_neg h3, hd]; rfl
            have HM : Hid (m.write a p bs = m.unit.wait ⟨a, p, bs, false⟩) := Lib.hid (by unfold DM.write; rw [hW]; rfl)
            have hpl : p + bs.length ≤ 1048576 := by
              have z0 := hok.room1
              have z3 := hok.len 3 (by omega)
              have z4 := hok.len 4 (by omega)
              have z5 := hok.len 5 (by omega)
              have zz : a = 0 ∨ a = 1 ∨ a = 2 := by omega
              unfold DM.free at hfr
              rcases zz with rfl | rfl | rfl
              · change sz = (m.b 3).length at hs; omega
              · change sz = (m.b 4).length at hs; omega
              · change sz = (m.b 5).length at hs; omega
            have HX := Lib.hid (fun (W : World) (A2 : Option Addr) (c2 : Nat) (hb : Below w.heap.size w W) (hx : OB W w.heap.size (.slice A2 n c2) bs) => wait_live (O := ext O w W) (w := W) ⟨a, p, bs, false⟩ A2 n c2 ((h.below hb).mono fun _ _ ho => .inl ho) hok hd hw ha hpl (OwnS.mono hx fun _ _ => Nat.zero_le _) (fun q hq => .inr (OB.lt hx q hq)) (fun i hi q hq e => by
              have := (OB.lt hx q hq).1
              have := (OB.lt (h.areas i hi) q e).2
              omega))
            dsimp only at HX
            rw [hW]
            clear hb hE h hok hr hW hs hcond hfr hd hpl hc
            go_enter Tryd.func23, Tryd.ntmps23
            go_wp2_with (first
              | (go_at_call 74; refine (is_any _ _).mono ?_; rw [HD.out]; rintro e w' ⟨rfl, rfl⟩)
              | (go_at_call 27; refine HS.out.mono ?_; rintro e w' ⟨rfl, rfl⟩)
              | (go_at_call 28; refine HF.out.mono ?_; rintro e w' ⟨rfl, rfl⟩)
              | (go_at_call 76; refine HC.out.mono ?_; rintro e w1 ⟨A2, c2, rfl, hx1, hb1⟩; replace hb1 := Lib.hid hb1; replace hx1 := Lib.hid hx1)
              | (go_at_call 75; refine (HX.out w1 A2 c2 hb1.out hx1.out).mono ?_; rintro e w2 ⟨rfl, ⟨bv2, wv2, ws2, hv2⟩, hf2⟩))
            go_ret
            rw [HM.out]
            have z1 := hb1.out.size
            have z2 := hf2.size
            refine ⟨rfl, ⟨_, _, _, hv2.mono fun q hq ho => ?_⟩, (Fr.of_below hb1.out).trans hf2 fun q hq ho => ?_⟩
            · rcases ho with (ho | ho) | ho
              · exact .inl ho
              · exact .inr ⟨ho.1, hq⟩
              · exact .inr ⟨Nat.le_trans z1 ho.1, hq⟩
            · rcases ho with ho | ho
              · exact ho
              · exact absurd ho.1 (Nat.not_le_of_lt hq)
  · have HD : Hid (decide (0 ≤ area ∧ area < 3) = false) := Lib.hid (decide_eq_false hr)
    have hW : m.writeE area at_ bs.length = 1 := by unfold DM.writeE; rw [if_pos (.inl hr)]
    rw [DM.write_of hW (by decide) (by decide), hW]
    clear hb hE h hok hr hbl hW
    go_enter Tryd.func23, Tryd.ntmps23
    go_wp2_with (go_at_call 74; refine (is_any _ _).mono ?_; rw [HD.out]; rintro e w' ⟨rfl, rfl⟩)
    go_ret
    exact ⟨rfl, HV.out.ofSame, Fr.refl _ _⟩
end
end Go.Proofs.YtgiaifglkecdjaaDoor
