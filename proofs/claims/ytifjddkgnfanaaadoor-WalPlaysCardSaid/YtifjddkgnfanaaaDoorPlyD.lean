/- WalPlays: the player opens the log. -/
import Derived.Test.YtifjddkgnfanaaaDoorPlyC
import Derived.Test.YtifjddkgnfanaaaDoorRlR
namespace Go.Proofs.YtifjddkgnfanaaaDoor
open Go.RowKit

section
variable {w w1 w' w0 : World} {S P O T : Nat → Prop} {gl glr g gr x : Nat} {m m' mr : DM} {L L' : LM} {ea : Nat → Addr} {tv rv lv : Value} {lo lr : Option (Nat × LM)} {bo : Option (Nat × Obj)}

theorem ROpenP_gone (h : PL w0 w x bo g gr m mr lo none lv rv) (hg : mr.gone = true) : Calls Tryd.prog 31 #[.pointer (some ⟨gr, 0, none⟩)] w fun e w' => e = .returned (.tuple #[.pointer none, .int .i64 25]) ∧ PL w0 w' x bo g gr m mr lo none lv rv := by
  obtain ⟨T, h1, hu⟩ := h.ref
  refine (ROpen_gone h1.rd hg).mono ?_
  rintro e w' ⟨rfl, rfl⟩
  exact ⟨rfl, h⟩
theorem ROpenP_ok (h : PL w0 w x bo g gr m mr lo none lv rv) (hG : mr.Gd) (hg : mr.gone = false) (hR : Reads (fun i => mr.b (3 + i)) L) (hd : L.dead = false) (h0 : opE mr (endOf L.recs) = 0) :
    Calls Tryd.prog 31 #[.pointer (some ⟨gr, 0, none⟩)] w fun e w' => ∃ gl, e = .returned (.tuple #[.pointer (some ⟨gl, 0, none⟩), .int .i64 0]) ∧ PL w0 w' x bo g gr m (opM mr (endOf L.recs)) lo (some (gl, L)) lv rv := by
  obtain ⟨T, h1, hu⟩ := h.ref
  refine (Open_R h1.rd hG.ok (by have := hG.one; omega) hG.fold hg).mono ?_
  rintro e w' ⟨L', hR', hd', hf, ho⟩
  obtain rfl := hR.eq hR' hd hd' (hG.ok.len 5 (by decide))
  rcases ho with ⟨_, gl, rfl, k1⟩ | ⟨hne, _⟩
  · exact ⟨gl, rfl, hu _ _ (some (gl, L')) k1 hf⟩
  · exact absurd h0 hne
theorem ROpenP_err (h : PL w0 w x bo g gr m mr lo none lv rv) (hG : mr.Gd) (hg : mr.gone = false) (hR : Reads (fun i => mr.b (3 + i)) L) (hd : L.dead = false) (h0 : opE mr (endOf L.recs) ≠ 0) :
    Calls Tryd.prog 31 #[.pointer (some ⟨gr, 0, none⟩)] w fun e w' => e = .returned (.tuple #[.pointer none, .int .i64 (opE mr (endOf L.recs) : Int)]) ∧ PL w0 w' x bo g gr m (opM mr (endOf L.recs)) lo none lv rv := by
  obtain ⟨T, h1, hu⟩ := h.ref
  refine (Open_R h1.rd hG.ok (by have := hG.one; omega) hG.fold hg).mono ?_
  rintro e w' ⟨L', hR', hd', hf, ho⟩
  obtain rfl := hR.eq hR' hd hd' (hG.ok.len 5 (by decide))
  rcases ho with ⟨he, _⟩ | ⟨_, rfl, k1⟩
  · exact absurd he h0
  · exact ⟨rfl, hu _ _ none k1 hf⟩
theorem Num_d (he : Errs w0 ea) (n : Nat) (h2 : n ≤ 28) : ∀ W, Below w0.heap.size w0 W → Calls Tryd.prog 32 #[dErr ea n] W fun e w' => e = .returned (.int .i64 (n : Int)) ∧ Below W.heap.size W w' := fun W hW => by
  rw [← errOf_dErr]
  exact Num_any (he.below hW) n h2

/-- The player's state behind so many acts. -/
def PS (w0 w : World) (x g gr : Nat) (m : DM) (k : Nat) : Prop :=
  m.Gd ∧ ∃ lo lr lv rv, PL w0 w x none g gr m m lo lr lv rv ∧ ((lo = none ∧ lr = none ∧ lv = .pointer none ∧ rv = .pointer none) ∨
    ∃ gl glr L, L.In k ∧ lo = some (gl, L) ∧ lr = some (glr, L) ∧ lv = .pointer (some ⟨gl, 0, none⟩) ∧ rv = .pointer (some ⟨glr, 0, none⟩))

set_option maxHeartbeats 2000000 in
set_option maxRecDepth 100000 in
theorem play_open (h : PL w0 w x none g gr m m lo lr lv rv) (hG : m.Gd) (hE : EW w0 ea) (hR : Errs w0 ea) : Calls Tryd.prog 11 #[.pointer (some ⟨x, 0, none⟩)] w fun e w' => e = .returned (.bool true) ∧ ∃ m', PS w0 w' x g gr m' 0 := by
  have hP := h.drop
  obtain ⟨a0, a1, a2, a3⟩ := h.at
  clear h
  cases hg : m.gone with
  | true =>
    have HO := Lib.hid (OpenP_gone hP hE hg)
    have HRO : Hid (∀ W (m1 : DM), PL w0 W x none g gr m1 m none none lv rv → Calls Tryd.prog 31 #[.pointer (some ⟨gr, 0, none⟩)] W fun e w' => e = .returned (.tuple #[.pointer none, .int .i64 25]) ∧ PL w0 w' x none g gr m1 m none none lv rv) := Lib.hid fun W m1 hW => ROpenP_gone hW hg
    have HNum : Hid (∀ W, Below w0.heap.size w0 W → Calls Tryd.prog 32 #[.iface 141 (.pointer (some (ea 25)))] W fun e w' => e = .returned (.int .i64 25) ∧ Below W.heap.size W w') := Lib.hid (Num_d hR 25 (by decide))
    have HG := Lib.hid hG
    clear hg hP hG hE hR
    go_enter Tryd.func11, Tryd.ntmps11
    go_wp2_with (first
    | (go_at_call 16; go_loud ((with_reducible refine HO.out.mono ?_); rintro e w1 ⟨rfl, h1⟩; have P1 := Lib.hid h1; obtain ⟨b0, b1, b2, b3⟩ := h1.at; clear h1))
    | (go_at_call 31; go_loud ((with_reducible refine (HRO.out w1 _ P1.out).mono ?_); rintro e w2 ⟨rfl, h2⟩; have P2 := Lib.hid h2; obtain ⟨d0, d1, d2, d3⟩ := h2.at; have z2 := h2.fz 2; have z3 := h2.fz 3; clear h2))
    | (go_at_call 32; go_loud ((with_reducible refine (HNum.out _ (P2.out.store _ _).bel).mono ?_); rintro e w3 ⟨rfl, hb3⟩; have B3 := Lib.hid hb3; clear hb3))
    | fail)
    go_ret
    exact ⟨rfl, m, HG.out, none, none, .pointer none, .pointer none, (P2.out.store _ _).below B3.out, .inl ⟨rfl, rfl, rfl, rfl⟩⟩
  | false =>
    obtain ⟨L, hRd, hd⟩ := reads_ex (fun i => m.b (3 + i))
    have HIn := Lib.hid (LM.In.opened hG hRd)
    have HGo := Lib.hid (Gd.opM hG (endOf L.recs))
    have hle := opE_le m (endOf L.recs)
    by_cases h0 : opE m (endOf L.recs) = 0
    · have HO := Lib.hid (OpenP_ok hP hE hG hg hRd hd h0)
      have HRO : Hid (∀ W (x1 : DM × Option (Nat × LM)), PL w0 W x none g gr x1.1 m x1.2 none lv rv → Calls Tryd.prog 31 #[.pointer (some ⟨gr, 0, none⟩)] W fun e w' => ∃ gl, e = .returned (.tuple #[.pointer (some ⟨gl, 0, none⟩), .int .i64 0]) ∧ PL w0 w' x none g gr x1.1 (opM m (endOf L.recs)) x1.2 (some (gl, L)) lv rv) := Lib.hid fun W x1 hW => ROpenP_ok hW hG hg hRd hd h0
      have HNum : Hid (∀ W, Below w0.heap.size w0 W → Calls Tryd.prog 32 #[.nilIface] W fun e w' => e = .returned (.int .i64 0) ∧ Below W.heap.size W w') := Lib.hid (Num_d hR 0 (by decide))
      clear hg hP hG hE hR hRd hd h0 hle
      generalize opM m (endOf L.recs) = m1 at *
      go_enter Tryd.func11, Tryd.ntmps11
      go_wp2_with (first
    | (go_at_call 16; go_loud ((with_reducible refine HO.out.mono ?_); rintro e w1 ⟨gl, rfl, h1⟩; have P1 := Lib.hid h1; obtain ⟨b0, b1, b2, b3⟩ := h1.at; clear h1))
    | (go_at_call 31; go_loud ((with_reducible refine (HRO.out w1 (m1, some (gl, L)) P1.out).mono ?_); rintro e w2 ⟨glr, rfl, h2⟩; have P2 := Lib.hid h2; obtain ⟨d0, d1, d2, d3⟩ := h2.at; have z2 := h2.fz 2; have z3 := h2.fz 3; clear h2))
    | (go_at_call 32; go_loud ((with_reducible refine (HNum.out _ (P2.out.store _ _).bel).mono ?_); rintro e w3 ⟨rfl, hb3⟩; have B3 := Lib.hid hb3; clear hb3))
    | fail)
      go_ret
      exact ⟨rfl, m1, HGo.out, _, _, _, _, (P2.out.store _ _).below B3.out, .inr ⟨gl, glr, L, HIn.out, rfl, rfl, rfl, rfl⟩⟩
    · have HO := Lib.hid (OpenP_err hP hE hG hg hRd hd h0)
      have HRO : Hid (∀ W (m1 : DM), PL w0 W x none g gr m1 m none none lv rv → Calls Tryd.prog 31 #[.pointer (some ⟨gr, 0, none⟩)] W fun e w' => e = .returned (.tuple #[.pointer none, .int .i64 (opE m (endOf L.recs) : Int)]) ∧ PL w0 w' x none g gr m1 (opM m (endOf L.recs)) none none lv rv) := Lib.hid fun W m1 hW => ROpenP_err hW hG hg hRd hd h0
      have HNum := Lib.hid (Num_d hR (opE m (endOf L.recs)) (by omega))
      have q1 : ((opE m (endOf L.recs) : Int) == 0) = false := beq_eq_false_iff_ne.2 (by omega)
      have q2 : ((opE m (endOf L.recs) : Int) != 0) = true := by rw [bne_iff_ne]; omega
      have q3 : (opE m (endOf L.recs) == 0) = false := beq_eq_false_iff_ne.2 h0
      clear hg hP hG hE hR hRd hd h0 hle HIn
      generalize opM m (endOf L.recs) = m1 at *
      generalize opE m (endOf L.recs) = n at *
      generalize dErr ea n = ev at *
      go_enter Tryd.func11, Tryd.ntmps11
      go_wp2_with (first
    | (go_at_call 16; go_loud ((with_reducible refine HO.out.mono ?_); rintro e w1 ⟨rfl, h1⟩; have P1 := Lib.hid h1; obtain ⟨b0, b1, b2, b3⟩ := h1.at; clear h1))
    | (go_at_call 31; go_loud ((with_reducible refine (HRO.out w1 _ P1.out).mono ?_); rintro e w2 ⟨rfl, h2⟩; have P2 := Lib.hid h2; obtain ⟨d0, d1, d2, d3⟩ := h2.at; have z2 := h2.fz 2; have z3 := h2.fz 3; clear h2))
    | (go_at_call 32; go_loud ((with_reducible refine (HNum.out _ (P2.out.store _ _).bel).mono ?_); rintro e w3 ⟨rfl, hb3⟩; have B3 := Lib.hid hb3; clear hb3))
    | fail)
      go_ret
      exact ⟨rfl, m1, HGo.out, none, none, .pointer none, .pointer none, (P2.out.store _ _).below B3.out, .inl ⟨rfl, rfl, rfl, rfl⟩⟩
end
end Go.Proofs.YtifjddkgnfanaaaDoor
