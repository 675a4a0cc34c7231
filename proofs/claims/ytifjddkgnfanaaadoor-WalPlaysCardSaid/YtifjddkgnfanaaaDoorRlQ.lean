/- The document's log (layer 18): Open, the loop over the records. -/
import Derived.Test.YtifjddkgnfanaaaDoorRlP
import Derived.Deep.RegionHeld3
import Derived.Deep.RegionLaw
namespace Go.Proofs.YtifjddkgnfanaaaDoor
open Go.RowKit

section
variable {w2 : World} {n0 gl g : Nat} {b : Nat → List UInt8} {B : Nat → Option Addr} {d : Nat → Nat}
set_option maxHeartbeats 4000000 in
set_option maxRecDepth 100000 in
theorem opn_short (fr : Act) (w : World) (Q : Exit → Act → World → Prop) (G sl : Nat) (tx : List UInt8) (rs : List (List UInt8)) (l r : List UInt8) (hl2 : b 2 = l) (hJ : QK w2 n0 gl g ⟨G, sl, tx, rs, false⟩ fr w) (hA : QA w2 n0 b B d) (hrec : l = recsB G 0 rs ++ r) (hr20 : r.length < 20) (hX : ∀ (fr' : Act) (w' : World), QK w2 n0 gl g ⟨G, sl, tx, rs, false⟩ fr' w' → Q (.exit 2) fr' w') :
    Code.wp Tryd.prog (lpC Tryd.f31.body 1) Q fr w := by
  have HX := Lib.hid hX
  clear hX
  obtain ⟨h0, hs0, h4, h5, hL, hB⟩ := hJ
  have HQL := Lib.hid (show QL w2 w gl g ⟨G, sl, tx, rs, false⟩ from ⟨hL, hB⟩)
  obtain ⟨tv, rv, ws, hV⟩ := hL
  have HV := Lib.hid hV
  have HB := Lib.hid hB
  have HS0 := Lib.hid hs0
  have c2 := Keeps.of_below hB _ _ (hA.cell 2 (by decide))
  have hrb := (hA.rb 2 (by decide)).keep (Keeps.of_below hB)
  have hcap := hA.cap 2 (by decide)
  have hlen := hA.len 2 (by decide)
  rw [hl2] at c2 hrb hcap hlen
  have hnum := hV.num
  have hle : l.length = endOf rs + r.length := by rw [hrec, List.length_append, recsB_length]
  have hge := endOf_ge rs
  have HDR : Hid (l.drop (endOf rs) = r) := Lib.hid (by rw [hrec, ← recsB_length G rs 0, List.drop_left])
  have HEn : Hid (∀ W, Below w.heap.size w W → Calls Tryd.prog 52 #[.pointer (some ⟨gl, 0, none⟩)] W fun e w' => e = .returned (.int .i64 (endOf rs : Int)) ∧ W = w') := Lib.hid fun W hW => REnd_L (L := ⟨G, sl, tx, rs, false⟩) (HV.out.below hW) (by show endOf rs ≤ _; omega)
  obtain ⟨AV, cV, eV, _, _⟩ := hV.recs.form
  have c1 : w.cell? ⟨gl, 1, none⟩ = some (.int .i64 (G : Int)) := hV.cell 1
  have c4 : w.cell? ⟨gl, 4, none⟩ = some (.slice AV rs.length cV) := by rw [show rs.length = ws.length from hnum.symm, ← eV]; exact hV.cell 4
  have HRN : Hid (rs.length ≤ 1000000) := Lib.hid (by omega)
  generalize endOf rs = E at *
  obtain ⟨AE, hsl, hrE⟩ := run_tail hrb hcap.1 (E := E) (by omega)
  have qE : l.length - E = r.length := by omega
  rw [qE] at hsl hrE
  rw [HDR.out] at hrE
  have hcE : r.length ≤ d 2 - E ∧ d 2 - E ≤ maxLen := by omega
  have e0 : (0 : Int) ≤ (E : Int) := by omega
  have e1 : (E : Int) ≤ (l.length : Int) := by omega
  have hr1 : r.length ≤ 1048576 := by omega
  generalize d 2 - E = cE at *
  generalize B 2 = A at *
  generalize d 2 = c at *
  have RE := Lib.hid hrE
  have HCE := Lib.hid hcE
  have HR1 := Lib.hid hr1
  have HEV := Lib.hid eV
  have HNM := Lib.hid hnum
  have HK : Hid (∀ W, Below w.heap.size w W → W.cell? ⟨gl, 1, none⟩ = some (.int .i64 (G : Int)) ∧ W.cell? ⟨gl, 4, none⟩ = some (.slice AV rs.length cV)) := Lib.hid fun W hW => ⟨Keeps.of_below hW _ _ c1, Keeps.of_below hW _ _ c4⟩
  clear hV hB hA hs0 hrb hcap hlen hnum hle hge hrE hcE hr1 eV hrec hl2 qE c1 c4
  have q20 : decide ((r.length : Int) < 20) = true := decide_eq_true (by omega)
  have q20n : decide (r.length < 20) = true := decide_eq_true hr20
  clear hr20
  unfold IsQ at h0
  generalize slotQ fr = f at *
  subst h0
  unfold QF
  rw [h4, h5]
  conv => arg 2; whnf
  clear h4 h5
  go_wp2_with fail
  go_region_held3 (fun w' => w'.cell? ⟨n0, 2, none⟩ = some (.slice A l.length c)) (first | assumption | go_keep)
    (first
      | (go_at_call 52; go_loud ((with_reducible refine (HEn.out w.drew (below_d1 (Below.refl _ _))).mono ?_); rintro e wa ⟨rfl, rfl⟩))
      | fail)
  all_goals
    go_wp2
    exact HX.out _ _ ⟨rfl, HS0.out, rfl, rfl, HQL.out.below (below_d1 (Below.refl _ _))⟩
set_option maxHeartbeats 4000000 in
set_option maxRecDepth 100000 in
theorem opn_great (fr : Act) (w : World) (Q : Exit → Act → World → Prop) (G sl : Nat) (tx : List UInt8) (rs : List (List UInt8)) (l r : List UInt8) (hl2 : b 2 = l) (hJ : QK w2 n0 gl g ⟨G, sl, tx, rs, false⟩ fr w) (hA : QA w2 n0 b B d) (hrec : l = recsB G 0 rs ++ r) (hr20 : 20 ≤ r.length) (hn : 16384 < numAt r 8) (hX : ∀ (fr' : Act) (w' : World), QK w2 n0 gl g ⟨G, sl, tx, rs, false⟩ fr' w' → Q (.exit 2) fr' w') :
    Code.wp Tryd.prog (lpC Tryd.f31.body 1) Q fr w := by
  have HX := Lib.hid hX
  clear hX
  obtain ⟨h0, hs0, h4, h5, hL, hB⟩ := hJ
  have HQL := Lib.hid (show QL w2 w gl g ⟨G, sl, tx, rs, false⟩ from ⟨hL, hB⟩)
  obtain ⟨tv, rv, ws, hV⟩ := hL
  have HV := Lib.hid hV
  have HB := Lib.hid hB
  have HS0 := Lib.hid hs0
  have c2 := Keeps.of_below hB _ _ (hA.cell 2 (by decide))
  have hrb := (hA.rb 2 (by decide)).keep (Keeps.of_below hB)
  have hcap := hA.cap 2 (by decide)
  have hlen := hA.len 2 (by decide)
  rw [hl2] at c2 hrb hcap hlen
  have hnum := hV.num
  have hle : l.length = endOf rs + r.length := by rw [hrec, List.length_append, recsB_length]
  have hge := endOf_ge rs
  have HDR : Hid (l.drop (endOf rs) = r) := Lib.hid (by rw [hrec, ← recsB_length G rs 0, List.drop_left])
  have HEn : Hid (∀ W, Below w.heap.size w W → Calls Tryd.prog 52 #[.pointer (some ⟨gl, 0, none⟩)] W fun e w' => e = .returned (.int .i64 (endOf rs : Int)) ∧ W = w') := Lib.hid fun W hW => REnd_L (L := ⟨G, sl, tx, rs, false⟩) (HV.out.below hW) (by show endOf rs ≤ _; omega)
  obtain ⟨AV, cV, eV, _, _⟩ := hV.recs.form
  have c1 : w.cell? ⟨gl, 1, none⟩ = some (.int .i64 (G : Int)) := hV.cell 1
  have c4 : w.cell? ⟨gl, 4, none⟩ = some (.slice AV rs.length cV) := by rw [show rs.length = ws.length from hnum.symm, ← eV]; exact hV.cell 4
  have HRN : Hid (rs.length ≤ 1000000) := Lib.hid (by omega)
  generalize endOf rs = E at *
  obtain ⟨AE, hsl, hrE⟩ := run_tail hrb hcap.1 (E := E) (by omega)
  have qE : l.length - E = r.length := by omega
  rw [qE] at hsl hrE
  rw [HDR.out] at hrE
  have hcE : r.length ≤ d 2 - E ∧ d 2 - E ≤ maxLen := by omega
  have e0 : (0 : Int) ≤ (E : Int) := by omega
  have e1 : (E : Int) ≤ (l.length : Int) := by omega
  have hr1 : r.length ≤ 1048576 := by omega
  generalize d 2 - E = cE at *
  generalize B 2 = A at *
  generalize d 2 = c at *
  have RE := Lib.hid hrE
  have HCE := Lib.hid hcE
  have HR1 := Lib.hid hr1
  have HEV := Lib.hid eV
  have HNM := Lib.hid hnum
  have HK : Hid (∀ W, Below w.heap.size w W → W.cell? ⟨gl, 1, none⟩ = some (.int .i64 (G : Int)) ∧ W.cell? ⟨gl, 4, none⟩ = some (.slice AV rs.length cV)) := Lib.hid fun W hW => ⟨Keeps.of_below hW _ _ c1, Keeps.of_below hW _ _ c4⟩
  clear hV hB hA hs0 hrb hcap hlen hnum hle hge hrE hcE hr1 eV hrec hl2 qE c1 c4
  have h20 : 20 ≤ r.length := hr20
  have q20 : decide ((r.length : Int) < 20) = false := decide_eq_false (by omega)
  have q20n : decide (r.length < 20) = false := decide_eq_false (by omega)
  obtain ⟨A8, hA8, hr8⟩ := run_tail (E := 8) RE.out HCE.out.1 (by omega)
  have hA8' : ∀ W, (Instr.slice 28 (.slice AE r.length cE) (some (.int .i64 8)) none none).run Tryd.prog W = .ok (.slice A8 (r.length - 8) (cE - 8)) W := hA8
  have R8 := Lib.hid hr8
  have N8 : Hid (∀ W : World, RB W A8 (r.length - 8) (r.drop 8) → Calls Tryd.prog 53 #[.slice A8 (r.length - 8) (cE - 8)] W fun e w' => e = .returned (.int .i64 (numAt r 8 : Int)) ∧ ∃ k, w' = W.drewN k) := Lib.hid fun W h => by
    rw [numAt_drop]
    exact Rat_any _ (r.length - 8) (cE - 8) _ W h (by omega) (by have := HR1.out; omega)
  have z1 : (20 : Int) ≤ (r.length : Int) := by omega
  have z2 : (r.length : Int) ≤ (cE : Int) := by have := HCE.out; omega
  have z3 : (r.length : Int) ≤ 1048576 := by have := HR1.out; omega
  have HNlt : Hid (numAt r 8 < 4294967296) := Lib.hid (numAt_lt _ _)
  clear hA8 hr8 h20
  have qn : decide ((numAt r 8 : Int) > 16384) = true := decide_eq_true (by omega)
  have qn' : decide (16384 < (numAt r 8 : Int)) = true := decide_eq_true (by omega)
  have qnn : decide (16384 < numAt r 8) = true := decide_eq_true (by omega)
  have HN4 : Hid (numAt r 8 < 4294967296) := HNlt
  have n0' : (0 : Int) ≤ (numAt r 8 : Int) := by omega
  have n1' : (numAt r 8 : Int) < 4294967296 := by have := HNlt.out; omega
  generalize numAt r 8 = n at *
  clear hn hr20
  unfold IsQ at h0
  generalize slotQ fr = f at *
  subst h0
  unfold QF
  rw [h4, h5]
  conv => arg 2; whnf
  clear h4 h5
  go_wp2_with fail
  go_region_held3 (fun w' => w'.cell? ⟨n0, 2, none⟩ = some (.slice A l.length c)) (first | assumption | go_keep)
    (first
      | (go_at_call 52; go_loud ((with_reducible refine (HEn.out w.drew (below_d1 (Below.refl _ _))).mono ?_); rintro e wa ⟨rfl, rfl⟩))
      | fail)
  all_goals
    go_wp2_with (first
      | (go_at_call 53; go_loud ((with_reducible refine (N8.out _ (R8.out.keep (Keeps.drew w))).mono ?_); rintro e wb ⟨rfl, k1, rfl⟩))
      | fail)
    refine wp_region_noPanic ?_
    refine wp_region_held_drew (S := (fun _ => True)) (by kernel_rfl) ?_ (fun hHeld => ?_)
    · trivial
    refine wpAnyH_take (i := 0) (v := ?_) rfl (by kernel_rfl) (by kernel_rfl) (by kernel_rfl) (fun _ _ _ h => h) (Or.inl ⟨by rfl, ?_⟩) hHeld ?_
    rotate_left
    · intro w hSw
      (try dsimp only at hSw)
      go_simp
      first | done | (with_reducible rfl)
    try simp only [Act.put, List.setIfInBounds_toArray, List.set_cons_zero, List.set_cons_succ, List.getElem_toArray, List.getElem_cons_zero]
    refine wpAnyH_take (i := 1) (v := ?_) rfl (by kernel_rfl) (by kernel_rfl) (by kernel_rfl) (fun _ _ _ h => h) (Or.inl ⟨by rfl, ?_⟩) hHeld ?_
    rotate_left
    · intro w hSw
      (try dsimp only at hSw)
      go_simp
      first | done | (with_reducible rfl)
    try simp only [Act.put, List.setIfInBounds_toArray, List.set_cons_zero, List.set_cons_succ, List.getElem_toArray, List.getElem_cons_succ, List.getElem_cons_zero]
    refine wpAnyH_take (i := 2) (v := ?_) rfl (by kernel_rfl) (by kernel_rfl) (by kernel_rfl) (fun _ _ _ h => h) (Or.inl ⟨by rfl, ?_⟩) hHeld ?_
    rotate_left
    · intro w hSw
      (try dsimp only at hSw)
      go_simp
      first | done | (with_reducible rfl)
    try simp only [Act.put, List.setIfInBounds_toArray, List.set_cons_zero, List.set_cons_succ, List.getElem_toArray, List.getElem_cons_succ, List.getElem_cons_zero]
    refine wpAnyH_take (i := 3) (v := _) rfl (by kernel_rfl) (by kernel_rfl) (by kernel_rfl) (fun _ _ _ h => h) (Or.inr ⟨by rfl, rfl⟩) hHeld ?_
    try simp only [Act.put, List.setIfInBounds_toArray, List.set_cons_zero, List.set_cons_succ, List.getElem_toArray, List.getElem_cons_succ, List.getElem_cons_zero]
    refine wpAnyH_take (i := 4) (v := _) rfl (by kernel_rfl) (by kernel_rfl) (by kernel_rfl) (fun _ _ _ h => h) (Or.inr ⟨by rfl, rfl⟩) hHeld ?_
    try simp only [Act.put, List.setIfInBounds_toArray, List.set_cons_zero, List.set_cons_succ, List.getElem_toArray, List.getElem_cons_succ, List.getElem_cons_zero]
    refine wpAnyH_take (i := 5) (v := _) rfl (by kernel_rfl) (by kernel_rfl) (by kernel_rfl) (fun _ _ _ h => h) (Or.inr ⟨by rfl, rfl⟩) hHeld ?_
    try simp only [Act.put, List.setIfInBounds_toArray, List.set_cons_zero, List.set_cons_succ, List.getElem_toArray, List.getElem_cons_succ, List.getElem_cons_zero]
    refine wpAnyH_take (i := 6) (v := _) rfl (by kernel_rfl) (by kernel_rfl) (by kernel_rfl) (fun _ _ _ h => h) (Or.inr ⟨by rfl, rfl⟩) hHeld ?_
    try simp only [Act.put, List.setIfInBounds_toArray, List.set_cons_zero, List.set_cons_succ, List.getElem_toArray, List.getElem_cons_succ, List.getElem_cons_zero]
    refine wpAnyH_take (i := 7) (v := _) rfl (by kernel_rfl) (by kernel_rfl) (by kernel_rfl) (fun _ _ _ h => h) (Or.inr ⟨by rfl, rfl⟩) hHeld ?_
    try simp only [Act.put, List.setIfInBounds_toArray, List.set_cons_zero, List.set_cons_succ, List.getElem_toArray, List.getElem_cons_succ, List.getElem_cons_zero]
    refine wpAnyH_take (i := 8) (v := ?_) rfl (by kernel_rfl) (by kernel_rfl) (by kernel_rfl) (fun _ _ _ h => h) (Or.inl ⟨by rfl, ?_⟩) hHeld ?_
    rotate_left
    · intro w hSw
      (try dsimp only at hSw)
      go_simp
      first | done | (with_reducible rfl)
    try simp only [Act.put, List.setIfInBounds_toArray, List.set_cons_zero, List.set_cons_succ, List.getElem_toArray, List.getElem_cons_succ, List.getElem_cons_zero]
    refine wpAnyH_take (i := 9) (v := ?_) rfl (by kernel_rfl) (by kernel_rfl) (by kernel_rfl) (fun _ _ _ h => h) (Or.inl ⟨by rfl, ?_⟩) hHeld ?_
    rotate_left
    · intro w hSw
      (try dsimp only at hSw)
      go_simp
      first | done | (with_reducible rfl)
    try simp only [Act.put, List.setIfInBounds_toArray, List.set_cons_zero, List.set_cons_succ, List.getElem_toArray, List.getElem_cons_succ, List.getElem_cons_zero]
    refine wpAnyH_take (i := 10) (v := _) rfl (by kernel_rfl) (by kernel_rfl) (by kernel_rfl) (fun _ _ _ h => h) (Or.inr ⟨by rfl, rfl⟩) hHeld ?_
    try simp only [Act.put, List.setIfInBounds_toArray, List.set_cons_zero, List.set_cons_succ, List.getElem_toArray, List.getElem_cons_succ, List.getElem_cons_zero]
    refine wpAnyH_take (i := 11) (v := _) rfl (by kernel_rfl) (by kernel_rfl) (by kernel_rfl) (fun _ _ _ h => h) (Or.inr ⟨by rfl, rfl⟩) hHeld ?_
    try simp only [Act.put, List.setIfInBounds_toArray, List.set_cons_zero, List.set_cons_succ, List.getElem_toArray, List.getElem_cons_succ, List.getElem_cons_zero]
    refine wpAnyH_take (i := 12) (v := _) rfl (by kernel_rfl) (by kernel_rfl) (by kernel_rfl) (fun _ _ _ h => h) (Or.inr ⟨by rfl, rfl⟩) hHeld ?_
    try simp only [Act.put, List.setIfInBounds_toArray, List.set_cons_zero, List.set_cons_succ, List.getElem_toArray, List.getElem_cons_succ, List.getElem_cons_zero]
    refine wpAnyH_take (i := 13) (v := _) rfl (by kernel_rfl) (by kernel_rfl) (by kernel_rfl) (fun _ _ _ h => h) (Or.inr ⟨by rfl, rfl⟩) hHeld ?_
    try simp only [Act.put, List.setIfInBounds_toArray, List.set_cons_zero, List.set_cons_succ, List.getElem_toArray, List.getElem_cons_succ, List.getElem_cons_zero]
    refine wpAnyH_take (i := 14) (v := _) rfl (by kernel_rfl) (by kernel_rfl) (by kernel_rfl) (fun _ _ _ h => h) (Or.inr ⟨by rfl, rfl⟩) hHeld ?_
    try simp only [Act.put, List.setIfInBounds_toArray, List.set_cons_zero, List.set_cons_succ, List.getElem_toArray, List.getElem_cons_succ, List.getElem_cons_zero]
    refine wpAnyH_take (i := 15) (v := _) rfl (by kernel_rfl) (by kernel_rfl) (by kernel_rfl) (fun _ _ _ h => h) (Or.inr ⟨by rfl, rfl⟩) hHeld ?_
    try simp only [Act.put, List.setIfInBounds_toArray, List.set_cons_zero, List.set_cons_succ, List.getElem_toArray, List.getElem_cons_succ, List.getElem_cons_zero]
    refine wpAnyH_take (i := 16) (v := _) rfl (by kernel_rfl) (by kernel_rfl) (by kernel_rfl) (fun _ _ _ h => h) (Or.inr ⟨by rfl, rfl⟩) hHeld ?_
    try simp only [Act.put, List.setIfInBounds_toArray, List.set_cons_zero, List.set_cons_succ, List.getElem_toArray, List.getElem_cons_succ, List.getElem_cons_zero]
    refine wpAnyH_take (i := 17) (v := _) rfl (by kernel_rfl) (by kernel_rfl) (by kernel_rfl) (fun _ _ _ h => h) (Or.inr ⟨by rfl, rfl⟩) hHeld ?_
    try simp only [Act.put, List.setIfInBounds_toArray, List.set_cons_zero, List.set_cons_succ, List.getElem_toArray, List.getElem_cons_succ, List.getElem_cons_zero]
    refine wpAnyH_take (i := 18) (v := _) rfl (by kernel_rfl) (by kernel_rfl) (by kernel_rfl) (fun _ _ _ h => h) (Or.inr ⟨by rfl, rfl⟩) hHeld ?_
    try simp only [Act.put, List.setIfInBounds_toArray, List.set_cons_zero, List.set_cons_succ, List.getElem_toArray, List.getElem_cons_succ, List.getElem_cons_zero]
    refine wpAnyH_take (i := 19) (v := _) rfl (by kernel_rfl) (by kernel_rfl) (by kernel_rfl) (fun _ _ _ h => h) (Or.inr ⟨by rfl, rfl⟩) hHeld ?_
    try simp only [Act.put, List.setIfInBounds_toArray, List.set_cons_zero, List.set_cons_succ, List.getElem_toArray, List.getElem_cons_succ, List.getElem_cons_zero]
    refine wpAnyH_take (i := 20) (v := _) rfl (by kernel_rfl) (by kernel_rfl) (by kernel_rfl) (fun _ _ _ h => h) (Or.inr ⟨by rfl, rfl⟩) hHeld ?_
    try simp only [Act.put, List.setIfInBounds_toArray, List.set_cons_zero, List.set_cons_succ, List.getElem_toArray, List.getElem_cons_succ, List.getElem_cons_zero]
    refine wpAnyH_take (i := 21) (v := _) rfl (by kernel_rfl) (by kernel_rfl) (by kernel_rfl) (fun _ _ _ h => h) (Or.inr ⟨by rfl, rfl⟩) hHeld ?_
    try simp only [Act.put, List.setIfInBounds_toArray, List.set_cons_zero, List.set_cons_succ, List.getElem_toArray, List.getElem_cons_succ, List.getElem_cons_zero]
    refine wpAnyH_take (i := 22) (v := _) rfl (by kernel_rfl) (by kernel_rfl) (by kernel_rfl) (fun _ _ _ h => h) (Or.inr ⟨by rfl, rfl⟩) hHeld ?_
    try simp only [Act.put, List.setIfInBounds_toArray, List.set_cons_zero, List.set_cons_succ, List.getElem_toArray, List.getElem_cons_succ, List.getElem_cons_zero]
    refine wpAnyH_take (i := 23) (v := _) rfl (by kernel_rfl) (by kernel_rfl) (by kernel_rfl) (fun _ _ _ h => h) (Or.inr ⟨by rfl, rfl⟩) hHeld ?_
    try simp only [Act.put, List.setIfInBounds_toArray, List.set_cons_zero, List.set_cons_succ, List.getElem_toArray, List.getElem_cons_succ, List.getElem_cons_zero]
    refine wpAnyH_take (i := 24) (v := _) rfl (by kernel_rfl) (by kernel_rfl) (by kernel_rfl) (fun _ _ _ h => h) (Or.inr ⟨by rfl, rfl⟩) hHeld ?_
    try simp only [Act.put, List.setIfInBounds_toArray, List.set_cons_zero, List.set_cons_succ, List.getElem_toArray, List.getElem_cons_succ, List.getElem_cons_zero]
    refine wpAnyH_take (i := 25) (v := _) rfl (by kernel_rfl) (by kernel_rfl) (by kernel_rfl) (fun _ _ _ h => h) (Or.inr ⟨by rfl, rfl⟩) hHeld ?_
    try simp only [Act.put, List.setIfInBounds_toArray, List.set_cons_zero, List.set_cons_succ, List.getElem_toArray, List.getElem_cons_succ, List.getElem_cons_zero]
    refine wpAnyH_take (i := 26) (v := _) rfl (by kernel_rfl) (by kernel_rfl) (by kernel_rfl) (fun _ _ _ h => h) (Or.inr ⟨by rfl, rfl⟩) hHeld ?_
    try simp only [Act.put, List.setIfInBounds_toArray, List.set_cons_zero, List.set_cons_succ, List.getElem_toArray, List.getElem_cons_succ, List.getElem_cons_zero]
    refine wpAnyH_take (i := 27) (v := ?_) rfl (by kernel_rfl) (by kernel_rfl) (by kernel_rfl) (fun _ _ _ h => h) (Or.inl ⟨by rfl, ?_⟩) hHeld ?_
    rotate_left
    · intro w hSw
      (try dsimp only at hSw)
      go_simp
      first | done | (with_reducible rfl)
    try simp only [Act.put, List.setIfInBounds_toArray, List.set_cons_zero, List.set_cons_succ, List.getElem_toArray, List.getElem_cons_succ, List.getElem_cons_zero]
    refine wpAnyH_done (by kernel_rfl) ?_ _
    refine NoPanic.normal ?_
    go_wp2
    exact HX.out _ _ ⟨rfl, HS0.out, rfl, rfl, HQL.out.below (below_d1 (below_drewN (Below.refl _ _) _))⟩
set_option maxHeartbeats 4000000 in
set_option maxRecDepth 100000 in
theorem opn_over (fr : Act) (w : World) (Q : Exit → Act → World → Prop) (G sl : Nat) (tx : List UInt8) (rs : List (List UInt8)) (l r : List UInt8) (hl2 : b 2 = l) (hJ : QK w2 n0 gl g ⟨G, sl, tx, rs, false⟩ fr w) (hA : QA w2 n0 b B d) (hrec : l = recsB G 0 rs ++ r) (hr20 : 20 ≤ r.length) (hn : numAt r 8 ≤ 16384) (hn2 : r.length - 20 < numAt r 8) (hX : ∀ (fr' : Act) (w' : World), QK w2 n0 gl g ⟨G, sl, tx, rs, false⟩ fr' w' → Q (.exit 2) fr' w') :
    Code.wp Tryd.prog (lpC Tryd.f31.body 1) Q fr w := by
  have HX := Lib.hid hX
  clear hX
  obtain ⟨h0, hs0, h4, h5, hL, hB⟩ := hJ
  have HQL := Lib.hid (show QL w2 w gl g ⟨G, sl, tx, rs, false⟩ from ⟨hL, hB⟩)
  obtain ⟨tv, rv, ws, hV⟩ := hL
  have HV := Lib.hid hV
  have HB := Lib.hid hB
  have HS0 := Lib.hid hs0
  have c2 := Keeps.of_below hB _ _ (hA.cell 2 (by decide))
  have hrb := (hA.rb 2 (by decide)).keep (Keeps.of_below hB)
  have hcap := hA.cap 2 (by decide)
  have hlen := hA.len 2 (by decide)
  rw [hl2] at c2 hrb hcap hlen
  have hnum := hV.num
  have hle : l.length = endOf rs + r.length := by rw [hrec, List.length_append, recsB_length]
  have hge := endOf_ge rs
  have HDR : Hid (l.drop (endOf rs) = r) := Lib.hid (by rw [hrec, ← recsB_length G rs 0, List.drop_left])
  have HEn : Hid (∀ W, Below w.heap.size w W → Calls Tryd.prog 52 #[.pointer (some ⟨gl, 0, none⟩)] W fun e w' => e = .returned (.int .i64 (endOf rs : Int)) ∧ W = w') := Lib.hid fun W hW => REnd_L (L := ⟨G, sl, tx, rs, false⟩) (HV.out.below hW) (by show endOf rs ≤ _; omega)
  obtain ⟨AV, cV, eV, _, _⟩ := hV.recs.form
  have c1 : w.cell? ⟨gl, 1, none⟩ = some (.int .i64 (G : Int)) := hV.cell 1
  have c4 : w.cell? ⟨gl, 4, none⟩ = some (.slice AV rs.length cV) := by rw [show rs.length = ws.length from hnum.symm, ← eV]; exact hV.cell 4
  have HRN : Hid (rs.length ≤ 1000000) := Lib.hid (by omega)
  generalize endOf rs = E at *
  obtain ⟨AE, hsl, hrE⟩ := run_tail hrb hcap.1 (E := E) (by omega)
  have qE : l.length - E = r.length := by omega
  rw [qE] at hsl hrE
  rw [HDR.out] at hrE
  have hcE : r.length ≤ d 2 - E ∧ d 2 - E ≤ maxLen := by omega
  have e0 : (0 : Int) ≤ (E : Int) := by omega
  have e1 : (E : Int) ≤ (l.length : Int) := by omega
  have hr1 : r.length ≤ 1048576 := by omega
  generalize d 2 - E = cE at *
  generalize B 2 = A at *
  generalize d 2 = c at *
  have RE := Lib.hid hrE
  have HCE := Lib.hid hcE
  have HR1 := Lib.hid hr1
  have HEV := Lib.hid eV
  have HNM := Lib.hid hnum
  have HK : Hid (∀ W, Below w.heap.size w W → W.cell? ⟨gl, 1, none⟩ = some (.int .i64 (G : Int)) ∧ W.cell? ⟨gl, 4, none⟩ = some (.slice AV rs.length cV)) := Lib.hid fun W hW => ⟨Keeps.of_below hW _ _ c1, Keeps.of_below hW _ _ c4⟩
  clear hV hB hA hs0 hrb hcap hlen hnum hle hge hrE hcE hr1 eV hrec hl2 qE c1 c4
  have h20 : 20 ≤ r.length := hr20
  have q20 : decide ((r.length : Int) < 20) = false := decide_eq_false (by omega)
  have q20n : decide (r.length < 20) = false := decide_eq_false (by omega)
  obtain ⟨A8, hA8, hr8⟩ := run_tail (E := 8) RE.out HCE.out.1 (by omega)
  have hA8' : ∀ W, (Instr.slice 28 (.slice AE r.length cE) (some (.int .i64 8)) none none).run Tryd.prog W = .ok (.slice A8 (r.length - 8) (cE - 8)) W := hA8
  have R8 := Lib.hid hr8
  have N8 : Hid (∀ W : World, RB W A8 (r.length - 8) (r.drop 8) → Calls Tryd.prog 53 #[.slice A8 (r.length - 8) (cE - 8)] W fun e w' => e = .returned (.int .i64 (numAt r 8 : Int)) ∧ ∃ k, w' = W.drewN k) := Lib.hid fun W h => by
    rw [numAt_drop]
    exact Rat_any _ (r.length - 8) (cE - 8) _ W h (by omega) (by have := HR1.out; omega)
  have z1 : (20 : Int) ≤ (r.length : Int) := by omega
  have z2 : (r.length : Int) ≤ (cE : Int) := by have := HCE.out; omega
  have z3 : (r.length : Int) ≤ 1048576 := by have := HR1.out; omega
  have HNlt : Hid (numAt r 8 < 4294967296) := Lib.hid (numAt_lt _ _)
  clear hA8 hr8 h20
  have hw1 : IntKind.i64.wrap ((r.length : Int) - 20) = (r.length : Int) - 20 := IntWalk.i64_in _ (by omega)
  have qn : decide ((numAt r 8 : Int) > 16384) = false := decide_eq_false (by omega)
  have qn' : decide (16384 < (numAt r 8 : Int)) = false := decide_eq_false (by omega)
  have qnn : decide (16384 < numAt r 8) = false := decide_eq_false (by omega)
  have qm : decide ((numAt r 8 : Int) > (r.length : Int) - 20) = true := decide_eq_true (by omega)
  have qm' : decide ((r.length : Int) - 20 < (numAt r 8 : Int)) = true := decide_eq_true (by omega)
  have HN4 : Hid (numAt r 8 < 4294967296) := HNlt
  have n0' : (0 : Int) ≤ (numAt r 8 : Int) := by omega
  have n1' : (numAt r 8 : Int) < 4294967296 := by have := HNlt.out; omega
  generalize numAt r 8 = n at *
  clear hn hr20 hn2
  unfold IsQ at h0
  generalize slotQ fr = f at *
  subst h0
  unfold QF
  rw [h4, h5]
  conv => arg 2; whnf
  clear h4 h5
  go_wp2_with fail
  go_region_held3 (fun w' => w'.cell? ⟨n0, 2, none⟩ = some (.slice A l.length c)) (first | assumption | go_keep)
    (first
      | (go_at_call 52; go_loud ((with_reducible refine (HEn.out w.drew (below_d1 (Below.refl _ _))).mono ?_); rintro e wa ⟨rfl, rfl⟩))
      | fail)
  all_goals
    go_wp2_with (first
      | (go_at_call 53; go_loud ((with_reducible refine (N8.out _ (R8.out.keep (Keeps.drew w))).mono ?_); rintro e wb ⟨rfl, k1, rfl⟩))
      | fail)
    refine wp_region_noPanic ?_
    refine wp_region_held_drew (S := (fun _ => True)) (by kernel_rfl) ?_ (fun hHeld => ?_)
    · trivial
    refine wpAnyH_take (i := 0) (v := ?_) rfl (by kernel_rfl) (by kernel_rfl) (by kernel_rfl) (fun _ _ _ h => h) (Or.inl ⟨by rfl, ?_⟩) hHeld ?_
    rotate_left
    · intro w hSw
      (try dsimp only at hSw)
      go_simp
      first | done | (with_reducible rfl)
    try simp only [Act.put, List.setIfInBounds_toArray, List.set_cons_zero, List.set_cons_succ, List.getElem_toArray, List.getElem_cons_zero]
    refine wpAnyH_take (i := 1) (v := ?_) rfl (by kernel_rfl) (by kernel_rfl) (by kernel_rfl) (fun _ _ _ h => h) (Or.inl ⟨by rfl, ?_⟩) hHeld ?_
    rotate_left
    · intro w hSw
      (try dsimp only at hSw)
      go_simp
      first | done | (with_reducible rfl)
    try simp only [Act.put, List.setIfInBounds_toArray, List.set_cons_zero, List.set_cons_succ, List.getElem_toArray, List.getElem_cons_succ, List.getElem_cons_zero]
    refine wpAnyH_take (i := 2) (v := ?_) rfl (by kernel_rfl) (by kernel_rfl) (by kernel_rfl) (fun _ _ _ h => h) (Or.inl ⟨by rfl, ?_⟩) hHeld ?_
    rotate_left
    · intro w hSw
      (try dsimp only at hSw)
      go_simp
      first | done | (with_reducible rfl)
    try simp only [Act.put, List.setIfInBounds_toArray, List.set_cons_zero, List.set_cons_succ, List.getElem_toArray, List.getElem_cons_succ, List.getElem_cons_zero]
    refine wpAnyH_take (i := 3) (v := ?_) rfl (by kernel_rfl) (by kernel_rfl) (by kernel_rfl) (fun _ _ _ h => h) (Or.inl ⟨by rfl, ?_⟩) hHeld ?_
    rotate_left
    · intro w hSw
      (try dsimp only at hSw)
      go_simp
      first | done | (with_reducible rfl)
    try simp only [Act.put, List.setIfInBounds_toArray, List.set_cons_zero, List.set_cons_succ, List.getElem_toArray, List.getElem_cons_succ, List.getElem_cons_zero]
    refine wpAnyH_take (i := 4) (v := ?_) rfl (by kernel_rfl) (by kernel_rfl) (by kernel_rfl) (fun _ _ _ h => h) (Or.inl ⟨by rfl, ?_⟩) hHeld ?_
    rotate_left
    · intro w hSw
      (try dsimp only at hSw)
      go_simp
      first | done | (with_reducible rfl)
    try simp only [Act.put, List.setIfInBounds_toArray, List.set_cons_zero, List.set_cons_succ, List.getElem_toArray, List.getElem_cons_succ, List.getElem_cons_zero]
    refine wpAnyH_take (i := 5) (v := ?_) rfl (by kernel_rfl) (by kernel_rfl) (by kernel_rfl) (fun _ _ _ h => h) (Or.inl ⟨by rfl, ?_⟩) hHeld ?_
    rotate_left
    · intro w hSw
      (try dsimp only at hSw)
      go_simp
      first | done | (with_reducible rfl)
    try simp only [Act.put, List.setIfInBounds_toArray, List.set_cons_zero, List.set_cons_succ, List.getElem_toArray, List.getElem_cons_succ, List.getElem_cons_zero]
    refine wpAnyH_take (i := 6) (v := ?_) rfl (by kernel_rfl) (by kernel_rfl) (by kernel_rfl) (fun _ _ _ h => h) (Or.inl ⟨by rfl, ?_⟩) hHeld ?_
    rotate_left
    · intro w hSw
      (try dsimp only at hSw)
      go_simp
      first | done | (with_reducible rfl)
    try simp only [Act.put, List.setIfInBounds_toArray, List.set_cons_zero, List.set_cons_succ, List.getElem_toArray, List.getElem_cons_succ, List.getElem_cons_zero]
    refine wpAnyH_take (i := 7) (v := ?_) rfl (by kernel_rfl) (by kernel_rfl) (by kernel_rfl) (fun _ _ _ h => h) (Or.inl ⟨by rfl, ?_⟩) hHeld ?_
    rotate_left
    · intro w hSw
      (try dsimp only at hSw)
      go_simp
      first | done | (with_reducible rfl)
    try simp only [Act.put, List.setIfInBounds_toArray, List.set_cons_zero, List.set_cons_succ, List.getElem_toArray, List.getElem_cons_succ, List.getElem_cons_zero]
    refine wpAnyH_take (i := 8) (v := ?_) rfl (by kernel_rfl) (by kernel_rfl) (by kernel_rfl) (fun _ _ _ h => h) (Or.inl ⟨by rfl, ?_⟩) hHeld ?_
    rotate_left
    · intro w hSw
      (try dsimp only at hSw)
      go_simp
      first | done | (with_reducible rfl)
    try simp only [Act.put, List.setIfInBounds_toArray, List.set_cons_zero, List.set_cons_succ, List.getElem_toArray, List.getElem_cons_succ, List.getElem_cons_zero]
    refine wpAnyH_take (i := 9) (v := ?_) rfl (by kernel_rfl) (by kernel_rfl) (by kernel_rfl) (fun _ _ _ h => h) (Or.inl ⟨by rfl, ?_⟩) hHeld ?_
    rotate_left
    · intro w hSw
      (try dsimp only at hSw)
      go_simp
      first | done | (with_reducible rfl)
    try simp only [Act.put, List.setIfInBounds_toArray, List.set_cons_zero, List.set_cons_succ, List.getElem_toArray, List.getElem_cons_succ, List.getElem_cons_zero]
    refine wpAnyH_take (i := 10) (v := _) rfl (by kernel_rfl) (by kernel_rfl) (by kernel_rfl) (fun _ _ _ h => h) (Or.inr ⟨by rfl, rfl⟩) hHeld ?_
    try simp only [Act.put, List.setIfInBounds_toArray, List.set_cons_zero, List.set_cons_succ, List.getElem_toArray, List.getElem_cons_succ, List.getElem_cons_zero]
    refine wpAnyH_take (i := 11) (v := _) rfl (by kernel_rfl) (by kernel_rfl) (by kernel_rfl) (fun _ _ _ h => h) (Or.inr ⟨by rfl, rfl⟩) hHeld ?_
    try simp only [Act.put, List.setIfInBounds_toArray, List.set_cons_zero, List.set_cons_succ, List.getElem_toArray, List.getElem_cons_succ, List.getElem_cons_zero]
    refine wpAnyH_take (i := 12) (v := _) rfl (by kernel_rfl) (by kernel_rfl) (by kernel_rfl) (fun _ _ _ h => h) (Or.inr ⟨by rfl, rfl⟩) hHeld ?_
    try simp only [Act.put, List.setIfInBounds_toArray, List.set_cons_zero, List.set_cons_succ, List.getElem_toArray, List.getElem_cons_succ, List.getElem_cons_zero]
    refine wpAnyH_take (i := 13) (v := _) rfl (by kernel_rfl) (by kernel_rfl) (by kernel_rfl) (fun _ _ _ h => h) (Or.inr ⟨by rfl, rfl⟩) hHeld ?_
    try simp only [Act.put, List.setIfInBounds_toArray, List.set_cons_zero, List.set_cons_succ, List.getElem_toArray, List.getElem_cons_succ, List.getElem_cons_zero]
    refine wpAnyH_take (i := 14) (v := _) rfl (by kernel_rfl) (by kernel_rfl) (by kernel_rfl) (fun _ _ _ h => h) (Or.inr ⟨by rfl, rfl⟩) hHeld ?_
    try simp only [Act.put, List.setIfInBounds_toArray, List.set_cons_zero, List.set_cons_succ, List.getElem_toArray, List.getElem_cons_succ, List.getElem_cons_zero]
    refine wpAnyH_take (i := 15) (v := _) rfl (by kernel_rfl) (by kernel_rfl) (by kernel_rfl) (fun _ _ _ h => h) (Or.inr ⟨by rfl, rfl⟩) hHeld ?_
    try simp only [Act.put, List.setIfInBounds_toArray, List.set_cons_zero, List.set_cons_succ, List.getElem_toArray, List.getElem_cons_succ, List.getElem_cons_zero]
    refine wpAnyH_take (i := 16) (v := _) rfl (by kernel_rfl) (by kernel_rfl) (by kernel_rfl) (fun _ _ _ h => h) (Or.inr ⟨by rfl, rfl⟩) hHeld ?_
    try simp only [Act.put, List.setIfInBounds_toArray, List.set_cons_zero, List.set_cons_succ, List.getElem_toArray, List.getElem_cons_succ, List.getElem_cons_zero]
    refine wpAnyH_take (i := 17) (v := _) rfl (by kernel_rfl) (by kernel_rfl) (by kernel_rfl) (fun _ _ _ h => h) (Or.inr ⟨by rfl, rfl⟩) hHeld ?_
    try simp only [Act.put, List.setIfInBounds_toArray, List.set_cons_zero, List.set_cons_succ, List.getElem_toArray, List.getElem_cons_succ, List.getElem_cons_zero]
    refine wpAnyH_take (i := 18) (v := _) rfl (by kernel_rfl) (by kernel_rfl) (by kernel_rfl) (fun _ _ _ h => h) (Or.inr ⟨by rfl, rfl⟩) hHeld ?_
    try simp only [Act.put, List.setIfInBounds_toArray, List.set_cons_zero, List.set_cons_succ, List.getElem_toArray, List.getElem_cons_succ, List.getElem_cons_zero]
    refine wpAnyH_take (i := 19) (v := _) rfl (by kernel_rfl) (by kernel_rfl) (by kernel_rfl) (fun _ _ _ h => h) (Or.inr ⟨by rfl, rfl⟩) hHeld ?_
    try simp only [Act.put, List.setIfInBounds_toArray, List.set_cons_zero, List.set_cons_succ, List.getElem_toArray, List.getElem_cons_succ, List.getElem_cons_zero]
    refine wpAnyH_take (i := 20) (v := _) rfl (by kernel_rfl) (by kernel_rfl) (by kernel_rfl) (fun _ _ _ h => h) (Or.inr ⟨by rfl, rfl⟩) hHeld ?_
    try simp only [Act.put, List.setIfInBounds_toArray, List.set_cons_zero, List.set_cons_succ, List.getElem_toArray, List.getElem_cons_succ, List.getElem_cons_zero]
    refine wpAnyH_take (i := 21) (v := _) rfl (by kernel_rfl) (by kernel_rfl) (by kernel_rfl) (fun _ _ _ h => h) (Or.inr ⟨by rfl, rfl⟩) hHeld ?_
    try simp only [Act.put, List.setIfInBounds_toArray, List.set_cons_zero, List.set_cons_succ, List.getElem_toArray, List.getElem_cons_succ, List.getElem_cons_zero]
    refine wpAnyH_take (i := 22) (v := _) rfl (by kernel_rfl) (by kernel_rfl) (by kernel_rfl) (fun _ _ _ h => h) (Or.inr ⟨by rfl, rfl⟩) hHeld ?_
    try simp only [Act.put, List.setIfInBounds_toArray, List.set_cons_zero, List.set_cons_succ, List.getElem_toArray, List.getElem_cons_succ, List.getElem_cons_zero]
    refine wpAnyH_take (i := 23) (v := _) rfl (by kernel_rfl) (by kernel_rfl) (by kernel_rfl) (fun _ _ _ h => h) (Or.inr ⟨by rfl, rfl⟩) hHeld ?_
    try simp only [Act.put, List.setIfInBounds_toArray, List.set_cons_zero, List.set_cons_succ, List.getElem_toArray, List.getElem_cons_succ, List.getElem_cons_zero]
    refine wpAnyH_take (i := 24) (v := _) rfl (by kernel_rfl) (by kernel_rfl) (by kernel_rfl) (fun _ _ _ h => h) (Or.inr ⟨by rfl, rfl⟩) hHeld ?_
    try simp only [Act.put, List.setIfInBounds_toArray, List.set_cons_zero, List.set_cons_succ, List.getElem_toArray, List.getElem_cons_succ, List.getElem_cons_zero]
    refine wpAnyH_take (i := 25) (v := _) rfl (by kernel_rfl) (by kernel_rfl) (by kernel_rfl) (fun _ _ _ h => h) (Or.inr ⟨by rfl, rfl⟩) hHeld ?_
    try simp only [Act.put, List.setIfInBounds_toArray, List.set_cons_zero, List.set_cons_succ, List.getElem_toArray, List.getElem_cons_succ, List.getElem_cons_zero]
    refine wpAnyH_take (i := 26) (v := _) rfl (by kernel_rfl) (by kernel_rfl) (by kernel_rfl) (fun _ _ _ h => h) (Or.inr ⟨by rfl, rfl⟩) hHeld ?_
    try simp only [Act.put, List.setIfInBounds_toArray, List.set_cons_zero, List.set_cons_succ, List.getElem_toArray, List.getElem_cons_succ, List.getElem_cons_zero]
    refine wpAnyH_take (i := 27) (v := ?_) rfl (by kernel_rfl) (by kernel_rfl) (by kernel_rfl) (fun _ _ _ h => h) (Or.inl ⟨by rfl, ?_⟩) hHeld ?_
    rotate_left
    · intro w hSw
      (try dsimp only at hSw)
      go_simp
      first | done | (with_reducible rfl)
    try simp only [Act.put, List.setIfInBounds_toArray, List.set_cons_zero, List.set_cons_succ, List.getElem_toArray, List.getElem_cons_succ, List.getElem_cons_zero]
    refine wpAnyH_done (by kernel_rfl) ?_ _
    refine NoPanic.normal ?_
    go_wp2
    exact HX.out _ _ ⟨rfl, HS0.out, rfl, rfl, HQL.out.below (below_d1 (below_drewN (Below.refl _ _) _))⟩
set_option maxHeartbeats 4000000 in
set_option maxRecDepth 100000 in
theorem opn_other (fr : Act) (w : World) (Q : Exit → Act → World → Prop) (G sl : Nat) (tx : List UInt8) (rs : List (List UInt8)) (l r : List UInt8) (hl2 : b 2 = l) (hJ : QK w2 n0 gl g ⟨G, sl, tx, rs, false⟩ fr w) (hA : QA w2 n0 b B d) (hrec : l = recsB G 0 rs ++ r) (hG : G < 4294967296) (hr20 : 20 ≤ r.length) (hn : numAt r 8 ≤ 16384) (hn2 : numAt r 8 ≤ r.length - 20) (hq : r.take (20 + numAt r 8) ≠ recB G rs.length ((r.drop 20).take (numAt r 8))) (hX : ∀ (fr' : Act) (w' : World), QK w2 n0 gl g ⟨G, sl, tx, rs, false⟩ fr' w' → Q (.exit 2) fr' w') :
    Code.wp Tryd.prog (lpC Tryd.f31.body 1) Q fr w := by
  have HX := Lib.hid hX
  clear hX
  obtain ⟨h0, hs0, h4, h5, hL, hB⟩ := hJ
  have HQL := Lib.hid (show QL w2 w gl g ⟨G, sl, tx, rs, false⟩ from ⟨hL, hB⟩)
  obtain ⟨tv, rv, ws, hV⟩ := hL
  have HV := Lib.hid hV
  have HB := Lib.hid hB
  have HS0 := Lib.hid hs0
  have c2 := Keeps.of_below hB _ _ (hA.cell 2 (by decide))
  have hrb := (hA.rb 2 (by decide)).keep (Keeps.of_below hB)
  have hcap := hA.cap 2 (by decide)
  have hlen := hA.len 2 (by decide)
  rw [hl2] at c2 hrb hcap hlen
  have hnum := hV.num
  have hle : l.length = endOf rs + r.length := by rw [hrec, List.length_append, recsB_length]
  have hge := endOf_ge rs
  have HDR : Hid (l.drop (endOf rs) = r) := Lib.hid (by rw [hrec, ← recsB_length G rs 0, List.drop_left])
  have HEn : Hid (∀ W, Below w.heap.size w W → Calls Tryd.prog 52 #[.pointer (some ⟨gl, 0, none⟩)] W fun e w' => e = .returned (.int .i64 (endOf rs : Int)) ∧ W = w') := Lib.hid fun W hW => REnd_L (L := ⟨G, sl, tx, rs, false⟩) (HV.out.below hW) (by show endOf rs ≤ _; omega)
  obtain ⟨AV, cV, eV, _, _⟩ := hV.recs.form
  have c1 : w.cell? ⟨gl, 1, none⟩ = some (.int .i64 (G : Int)) := hV.cell 1
  have c4 : w.cell? ⟨gl, 4, none⟩ = some (.slice AV rs.length cV) := by rw [show rs.length = ws.length from hnum.symm, ← eV]; exact hV.cell 4
  have HRN : Hid (rs.length ≤ 1000000) := Lib.hid (by omega)
  generalize endOf rs = E at *
  obtain ⟨AE, hsl, hrE⟩ := run_tail hrb hcap.1 (E := E) (by omega)
  have qE : l.length - E = r.length := by omega
  rw [qE] at hsl hrE
  rw [HDR.out] at hrE
  have hcE : r.length ≤ d 2 - E ∧ d 2 - E ≤ maxLen := by omega
  have e0 : (0 : Int) ≤ (E : Int) := by omega
  have e1 : (E : Int) ≤ (l.length : Int) := by omega
  have hr1 : r.length ≤ 1048576 := by omega
  generalize d 2 - E = cE at *
  generalize B 2 = A at *
  generalize d 2 = c at *
  have RE := Lib.hid hrE
  have HCE := Lib.hid hcE
  have HR1 := Lib.hid hr1
  have HEV := Lib.hid eV
  have HNM := Lib.hid hnum
  have HK : Hid (∀ W, Below w.heap.size w W → W.cell? ⟨gl, 1, none⟩ = some (.int .i64 (G : Int)) ∧ W.cell? ⟨gl, 4, none⟩ = some (.slice AV rs.length cV)) := Lib.hid fun W hW => ⟨Keeps.of_below hW _ _ c1, Keeps.of_below hW _ _ c4⟩
  clear hV hB hA hs0 hrb hcap hlen hnum hle hge hrE hcE hr1 eV hrec hl2 qE c1 c4
  have h20 : 20 ≤ r.length := hr20
  have q20 : decide ((r.length : Int) < 20) = false := decide_eq_false (by omega)
  have q20n : decide (r.length < 20) = false := decide_eq_false (by omega)
  obtain ⟨A8, hA8, hr8⟩ := run_tail (E := 8) RE.out HCE.out.1 (by omega)
  have hA8' : ∀ W, (Instr.slice 28 (.slice AE r.length cE) (some (.int .i64 8)) none none).run Tryd.prog W = .ok (.slice A8 (r.length - 8) (cE - 8)) W := hA8
  have R8 := Lib.hid hr8
  have N8 : Hid (∀ W : World, RB W A8 (r.length - 8) (r.drop 8) → Calls Tryd.prog 53 #[.slice A8 (r.length - 8) (cE - 8)] W fun e w' => e = .returned (.int .i64 (numAt r 8 : Int)) ∧ ∃ k, w' = W.drewN k) := Lib.hid fun W h => by
    rw [numAt_drop]
    exact Rat_any _ (r.length - 8) (cE - 8) _ W h (by omega) (by have := HR1.out; omega)
  have z1 : (20 : Int) ≤ (r.length : Int) := by omega
  have z2 : (r.length : Int) ≤ (cE : Int) := by have := HCE.out; omega
  have z3 : (r.length : Int) ≤ 1048576 := by have := HR1.out; omega
  have HNlt : Hid (numAt r 8 < 4294967296) := Lib.hid (numAt_lt _ _)
  clear hA8 hr8 h20
  have hw1 : IntKind.i64.wrap ((r.length : Int) - 20) = (r.length : Int) - 20 := IntWalk.i64_in _ (by omega)
  have qn : decide ((numAt r 8 : Int) > 16384) = false := decide_eq_false (by omega)
  have qn' : decide (16384 < (numAt r 8 : Int)) = false := decide_eq_false (by omega)
  have qnn : decide (16384 < numAt r 8) = false := decide_eq_false (by omega)
  have qm : decide ((numAt r 8 : Int) > (r.length : Int) - 20) = false := decide_eq_false (by omega)
  have qm' : decide ((r.length : Int) - 20 < (numAt r 8 : Int)) = false := decide_eq_false (by omega)
  obtain ⟨t, ht⟩ : ∃ t, t = (r.drop 20).take (numAt r 8) := ⟨_, rfl⟩
  obtain ⟨A20, hA20, hr20'⟩ := run_mid RE.out HCE.out.1 20 (numAt r 8) (by omega) 20 (20 + (numAt r 8 : Int)) rfl rfl
  rw [← ht] at hr20'
  have R20 := Lib.hid hr20'
  have HT := Lib.hid ht
  have HNX := Lib.hid (nextB_begins (b := r) (t := t) (G := G) (k := rs.length) rfl hn (by omega) ht hG (by have := HRN.out; omega))
  have HRe : Hid (∀ W, Below w.heap.size w W → Calls Tryd.prog 55 #[.int .i64 (G : Int), .int .i64 (rs.length : Int), .slice A20 (numAt r 8) (cE - 20)] W fun e w' => ∃ A' c', e = .returned (.slice A' (20 + numAt r 8) c') ∧ OB w' W.heap.size (.slice A' (20 + numAt r 8) c') (recB G rs.length t) ∧ Below W.heap.size W w') := Lib.hid fun W hW =>
    RRecord_any G rs.length A20 (numAt r 8) (cE - 20) t W (R20.out.keep (Keeps.of_below hW)) hG (by have := HRN.out; omega) (by omega)
  have HBe : Hid (∀ W A' c', Below w.heap.size w W → RB W A' (20 + numAt r 8) (recB G rs.length t) → Calls Tryd.prog 54 #[.slice AE r.length cE, .slice A' (20 + numAt r 8) c'] W fun e w' => e = .returned (.bool (decide (r.take (20 + numAt r 8) = recB G rs.length t))) ∧ ∃ k, w' = W.drewN k) := Lib.hid fun W A' c' hW hr' =>
    Rbegins_any AE A' r.length (20 + numAt r 8) cE c' W r _ (RE.out.keep (Keeps.of_below hW)) HCE.out.1 hr'
  have n0' : (0 : Int) ≤ (numAt r 8 : Int) := by omega
  have n1' : (numAt r 8 : Int) ≤ 16384 := by omega
  have n2' : 20 + (numAt r 8 : Int) ≤ (r.length : Int) := by omega
  have HN4 : Hid (numAt r 8 ≤ 16384) := Lib.hid hn
  have hw2 : IntKind.i64.wrap (20 + (numAt r 8 : Int)) = 20 + (numAt r 8 : Int) := IntWalk.i64_in _ (by omega)
  clear hr20'
  rw [← ht] at hq
  rw [decide_eq_false hq] at HBe
  clear hq HNX ht
  generalize numAt r 8 = n at *
  clear hn hn2 hr20
  unfold IsQ at h0
  generalize slotQ fr = f at *
  subst h0
  unfold QF
  rw [h4, h5]
  conv => arg 2; whnf
  clear h4 h5
  go_wp2_with fail
  go_region_held3 (fun w' => w'.cell? ⟨n0, 2, none⟩ = some (.slice A l.length c)) (first | assumption | go_keep)
    (first
      | (go_at_call 52; go_loud ((with_reducible refine (HEn.out w.drew (below_d1 (Below.refl _ _))).mono ?_); rintro e wa ⟨rfl, rfl⟩))
      | fail)
  all_goals
    go_wp2_with (first
      | (go_at_call 53; go_loud ((with_reducible refine (N8.out _ (R8.out.keep (Keeps.drew w))).mono ?_); rintro e wb ⟨rfl, k1, rfl⟩))
      | fail)
    obtain ⟨y1, y4⟩ := HK.out _ (below_drewN (Below.refl _ w) (1 + k1))
    go_region_held3 (fun w' => w'.cell? ⟨gl, 1, none⟩ = some (.int .i64 (G : Int)) ∧ w'.cell? ⟨gl, 4, none⟩ = some (.slice AV rs.length cV)) (first | exact ⟨by assumption, by assumption⟩ | go_keep)
      (first
        | (go_at_call 55; go_loud ((with_reducible refine (HRe.out _ (below_drewN (Below.refl _ _) (1 + k1 + 1))).mono ?_); rintro e wd ⟨A3, c3, rfl, ho3, hb3⟩; have B3 : Hid (Below w.heap.size w wd) := Lib.hid ((below_drewN (Below.refl _ _) (1 + k1 + 1)).trans hb3); have O3 := Lib.hid (OB.rbB ho3); obtain ⟨x1, x4⟩ := HK.out wd B3.out; clear ho3 hb3))
        | (go_at_call 54; go_loud ((with_reducible refine (HBe.out wd A3 c3 B3.out O3.out).mono ?_); rintro e we ⟨rfl, k4, rfl⟩))
        | fail)
    all_goals
      go_wp2
      exact HX.out _ _ ⟨rfl, HS0.out, rfl, rfl, HQL.out.below (below_drewN B3.out _)⟩
set_option maxHeartbeats 4000000 in
set_option maxRecDepth 100000 in
theorem opn_rec (fr : Act) (w : World) (Q : Exit → Act → World → Prop) (G sl : Nat) (tx : List UInt8) (rs : List (List UInt8)) (l r : List UInt8) (hl2 : b 2 = l) (hJ : QK w2 n0 gl g ⟨G, sl, tx, rs, false⟩ fr w) (hA : QA w2 n0 b B d) (hrec : l = recsB G 0 rs ++ r) (hG : G < 4294967296) (hr20 : 20 ≤ r.length) (hn : numAt r 8 ≤ 16384) (hn2 : numAt r 8 ≤ r.length - 20) (hq : r.take (20 + numAt r 8) = recB G rs.length ((r.drop 20).take (numAt r 8))) (hN : ∀ (fr' : Act) (w' : World), QK w2 n0 gl g ⟨G, sl, tx, rs ++ [(r.drop 20).take (numAt r 8)], false⟩ fr' w' → Q .normal fr' w') :
    Code.wp Tryd.prog (lpC Tryd.f31.body 1) Q fr w := by
  have HN := Lib.hid hN
  clear hN
  obtain ⟨h0, hs0, h4, h5, hL, hB⟩ := hJ
  have HQL := Lib.hid (show QL w2 w gl g ⟨G, sl, tx, rs, false⟩ from ⟨hL, hB⟩)
  obtain ⟨tv, rv, ws, hV⟩ := hL
  have HV := Lib.hid hV
  have HB := Lib.hid hB
  have HS0 := Lib.hid hs0
  have c2 := Keeps.of_below hB _ _ (hA.cell 2 (by decide))
  have hrb := (hA.rb 2 (by decide)).keep (Keeps.of_below hB)
  have hcap := hA.cap 2 (by decide)
  have hlen := hA.len 2 (by decide)
  rw [hl2] at c2 hrb hcap hlen
  have hnum := hV.num
  have hle : l.length = endOf rs + r.length := by rw [hrec, List.length_append, recsB_length]
  have hge := endOf_ge rs
  have HDR : Hid (l.drop (endOf rs) = r) := Lib.hid (by rw [hrec, ← recsB_length G rs 0, List.drop_left])
  have HEn : Hid (∀ W, Below w.heap.size w W → Calls Tryd.prog 52 #[.pointer (some ⟨gl, 0, none⟩)] W fun e w' => e = .returned (.int .i64 (endOf rs : Int)) ∧ W = w') := Lib.hid fun W hW => REnd_L (L := ⟨G, sl, tx, rs, false⟩) (HV.out.below hW) (by show endOf rs ≤ _; omega)
  obtain ⟨AV, cV, eV, _, _⟩ := hV.recs.form
  have c1 : w.cell? ⟨gl, 1, none⟩ = some (.int .i64 (G : Int)) := hV.cell 1
  have c4 : w.cell? ⟨gl, 4, none⟩ = some (.slice AV rs.length cV) := by rw [show rs.length = ws.length from hnum.symm, ← eV]; exact hV.cell 4
  have HRN : Hid (rs.length ≤ 1000000) := Lib.hid (by omega)
  generalize endOf rs = E at *
  obtain ⟨AE, hsl, hrE⟩ := run_tail hrb hcap.1 (E := E) (by omega)
  have qE : l.length - E = r.length := by omega
  rw [qE] at hsl hrE
  rw [HDR.out] at hrE
  have hcE : r.length ≤ d 2 - E ∧ d 2 - E ≤ maxLen := by omega
  have e0 : (0 : Int) ≤ (E : Int) := by omega
  have e1 : (E : Int) ≤ (l.length : Int) := by omega
  have hr1 : r.length ≤ 1048576 := by omega
  generalize d 2 - E = cE at *
  generalize B 2 = A at *
  generalize d 2 = c at *
  have RE := Lib.hid hrE
  have HCE := Lib.hid hcE
  have HR1 := Lib.hid hr1
  have HEV := Lib.hid eV
  have HNM := Lib.hid hnum
  have HK : Hid (∀ W, Below w.heap.size w W → W.cell? ⟨gl, 1, none⟩ = some (.int .i64 (G : Int)) ∧ W.cell? ⟨gl, 4, none⟩ = some (.slice AV rs.length cV)) := Lib.hid fun W hW => ⟨Keeps.of_below hW _ _ c1, Keeps.of_below hW _ _ c4⟩
  clear hV hB hA hs0 hrb hcap hlen hnum hle hge hrE hcE hr1 eV hrec hl2 qE c1 c4
  have h20 : 20 ≤ r.length := hr20
  have q20 : decide ((r.length : Int) < 20) = false := decide_eq_false (by omega)
  have q20n : decide (r.length < 20) = false := decide_eq_false (by omega)
  obtain ⟨A8, hA8, hr8⟩ := run_tail (E := 8) RE.out HCE.out.1 (by omega)
  have hA8' : ∀ W, (Instr.slice 28 (.slice AE r.length cE) (some (.int .i64 8)) none none).run Tryd.prog W = .ok (.slice A8 (r.length - 8) (cE - 8)) W := hA8
  have R8 := Lib.hid hr8
  have N8 : Hid (∀ W : World, RB W A8 (r.length - 8) (r.drop 8) → Calls Tryd.prog 53 #[.slice A8 (r.length - 8) (cE - 8)] W fun e w' => e = .returned (.int .i64 (numAt r 8 : Int)) ∧ ∃ k, w' = W.drewN k) := Lib.hid fun W h => by
    rw [numAt_drop]
    exact Rat_any _ (r.length - 8) (cE - 8) _ W h (by omega) (by have := HR1.out; omega)
  have z1 : (20 : Int) ≤ (r.length : Int) := by omega
  have z2 : (r.length : Int) ≤ (cE : Int) := by have := HCE.out; omega
  have z3 : (r.length : Int) ≤ 1048576 := by have := HR1.out; omega
  have HNlt : Hid (numAt r 8 < 4294967296) := Lib.hid (numAt_lt _ _)
  clear hA8 hr8 h20
  have hw1 : IntKind.i64.wrap ((r.length : Int) - 20) = (r.length : Int) - 20 := IntWalk.i64_in _ (by omega)
  have qn : decide ((numAt r 8 : Int) > 16384) = false := decide_eq_false (by omega)
  have qn' : decide (16384 < (numAt r 8 : Int)) = false := decide_eq_false (by omega)
  have qnn : decide (16384 < numAt r 8) = false := decide_eq_false (by omega)
  have qm : decide ((numAt r 8 : Int) > (r.length : Int) - 20) = false := decide_eq_false (by omega)
  have qm' : decide ((r.length : Int) - 20 < (numAt r 8 : Int)) = false := decide_eq_false (by omega)
  obtain ⟨t, ht⟩ : ∃ t, t = (r.drop 20).take (numAt r 8) := ⟨_, rfl⟩
  obtain ⟨A20, hA20, hr20'⟩ := run_mid RE.out HCE.out.1 20 (numAt r 8) (by omega) 20 (20 + (numAt r 8 : Int)) rfl rfl
  rw [← ht] at hr20'
  have R20 := Lib.hid hr20'
  have HT := Lib.hid ht
  have HNX := Lib.hid (nextB_begins (b := r) (t := t) (G := G) (k := rs.length) rfl hn (by omega) ht hG (by have := HRN.out; omega))
  have HRe : Hid (∀ W, Below w.heap.size w W → Calls Tryd.prog 55 #[.int .i64 (G : Int), .int .i64 (rs.length : Int), .slice A20 (numAt r 8) (cE - 20)] W fun e w' => ∃ A' c', e = .returned (.slice A' (20 + numAt r 8) c') ∧ OB w' W.heap.size (.slice A' (20 + numAt r 8) c') (recB G rs.length t) ∧ Below W.heap.size W w') := Lib.hid fun W hW =>
    RRecord_any G rs.length A20 (numAt r 8) (cE - 20) t W (R20.out.keep (Keeps.of_below hW)) hG (by have := HRN.out; omega) (by omega)
  have HBe : Hid (∀ W A' c', Below w.heap.size w W → RB W A' (20 + numAt r 8) (recB G rs.length t) → Calls Tryd.prog 54 #[.slice AE r.length cE, .slice A' (20 + numAt r 8) c'] W fun e w' => e = .returned (.bool (decide (r.take (20 + numAt r 8) = recB G rs.length t))) ∧ ∃ k, w' = W.drewN k) := Lib.hid fun W A' c' hW hr' =>
    Rbegins_any AE A' r.length (20 + numAt r 8) cE c' W r _ (RE.out.keep (Keeps.of_below hW)) HCE.out.1 hr'
  have n0' : (0 : Int) ≤ (numAt r 8 : Int) := by omega
  have n1' : (numAt r 8 : Int) ≤ 16384 := by omega
  have n2' : 20 + (numAt r 8 : Int) ≤ (r.length : Int) := by omega
  have HN4 : Hid (numAt r 8 ≤ 16384) := Lib.hid hn
  have hw2 : IntKind.i64.wrap (20 + (numAt r 8 : Int)) = 20 + (numAt r 8 : Int) := IntWalk.i64_in _ (by omega)
  clear hr20'
  rw [← ht] at hq HN
  rw [decide_eq_true hq] at HBe
  have HTL : Hid (t.length = numAt r 8) := Lib.hid R20.out.1
  clear hq HNX ht
  generalize numAt r 8 = n at *
  clear hn hn2 hr20
  unfold IsQ at h0
  generalize slotQ fr = f at *
  subst h0
  unfold QF
  rw [h4, h5]
  conv => arg 2; whnf
  clear h4 h5
  go_wp2_with fail
  go_region_held3 (fun w' => w'.cell? ⟨n0, 2, none⟩ = some (.slice A l.length c)) (first | assumption | go_keep)
    (first
      | (go_at_call 52; go_loud ((with_reducible refine (HEn.out w.drew (below_d1 (Below.refl _ _))).mono ?_); rintro e wa ⟨rfl, rfl⟩))
      | fail)
  all_goals
    go_wp2_with (first
      | (go_at_call 53; go_loud ((with_reducible refine (N8.out _ (R8.out.keep (Keeps.drew w))).mono ?_); rintro e wb ⟨rfl, k1, rfl⟩))
      | fail)
    obtain ⟨y1, y4⟩ := HK.out _ (below_drewN (Below.refl _ w) (1 + k1))
    go_region_held3 (fun w' => w'.cell? ⟨gl, 1, none⟩ = some (.int .i64 (G : Int)) ∧ w'.cell? ⟨gl, 4, none⟩ = some (.slice AV rs.length cV)) (first | exact ⟨by assumption, by assumption⟩ | go_keep)
      (first
        | (go_at_call 55; go_loud ((with_reducible refine (HRe.out _ (below_drewN (Below.refl _ _) (1 + k1 + 1))).mono ?_); rintro e wd ⟨A3, c3, rfl, ho3, hb3⟩; have B3 : Hid (Below w.heap.size w wd) := Lib.hid ((below_drewN (Below.refl _ _) (1 + k1 + 1)).trans hb3); have O3 := Lib.hid (OB.rbB ho3); obtain ⟨x1, x4⟩ := HK.out wd B3.out; clear ho3 hb3))
        | (go_at_call 54; go_loud ((with_reducible refine (HBe.out wd A3 c3 B3.out O3.out).mono ?_); rintro e we ⟨rfl, k4, rfl⟩))
        | fail)
    all_goals
      go_wp2_with fail
      obtain ⟨wf, hwf⟩ : ∃ W, W = wd.drewN k4 := ⟨_, rfl⟩
      have BF : Hid (Below w.heap.size w wf) := Lib.hid (by rw [hwf]; exact below_drewN B3.out _)
      rw [← hwf]
      clear hwf x1 x4 y1 y4 O3 B3
      have VF := Lib.hid (HV.out.below BF.out)
      have R20F := Lib.hid (R20.out.keep (Keeps.of_below BF.out))
      obtain ⟨x1, x4⟩ := HK.out wf BF.out
      have x4o : ∀ o, (wf.alloc o).cell? ⟨gl, 4, none⟩ = some (.slice AV rs.length cV) := fun o => (HK.out _ (BF.out.alloc BF.out.size o)).2
      refine wp_region_noPanic ?_
      go_region_law (first
        | (refine step_append_b rfl (.tmp 94) (.tmp 98) 28 (by rfl) (own_emptyB (w := (wf.alloc (.cells #[] 5)).drew) (q := wf.heap.size) (base := wf.heap.size) (heap_alloc_new wf _) (Nat.le_refl _)) (by rfl) (RB.src Tryd.underlying28 (c := cE - 20) (R20F.out.keep (Keeps.of_below (below_d1 ((Below.refl _ wf).alloc (Nat.le_refl _) _))))) (by rfl) (by have := R20F.out.1; have := HN4.out; simp; omega) (by show _ ≤ (wf.heap.push _).size; simp) ?_; intro v7 w7 hown7 hgr7 hat7; rw [List.nil_append] at hown7; obtain ⟨A7, c7, e7, -, -, -⟩ := hown7.form; subst e7; have O7 := Lib.hid hown7; have B7 : Hid (Below wf.heap.size wf w7) := Lib.hid (grown_new (below_d1 ((Below.refl _ wf).alloc (Nat.le_refl _) _)) hgr7 (Nat.le_refl _)); have u4 := (HK.out w7 (BF.out.trans (B7.out.mono BF.out.size))).2; have u4o : ∀ o, (w7.alloc o).cell? ⟨gl, 4, none⟩ = some (.slice AV rs.length cV) := (fun o => (HK.out _ ((BF.out.trans (B7.out.mono BF.out.size)).alloc (Nat.le_trans BF.out.size B7.out.size) o)).2); clear hown7 hgr7 hat7)
        | (go_loud (refine step_append_r rfl (.tmp 93) (.tmp 100) (by rfl) (v := .slice AV rs.length cV) (n := rs.length) (ws := ws.map fun x => x.2) (by rw [← HNM.out, ← HEV.out]; exact VF.out.recs.below ((B7.out.alloc B7.out.size _))) (by rfl) (Src.one w7 _ A7 t.length c7 1 (fun _ _ h => h)) (by rfl) HRN.out ?_; intro v8 w8 hown8 hgr8 hat8; obtain ⟨A8', c8, e8, -, -⟩ := OwnS.form hown8; subst e8; have X8 := Lib.hid (Rpush_done VF.out (B7.out.alloc B7.out.size _) (by rw [HEV.out, HNM.out]; exact hgr8) (by rw [HEV.out, HNM.out]; exact hat8) (by rw [HNM.out]; exact hown8) (O7.out.alloc _)); have P8 := Rpush_facts (v3 := .slice A8' (rs.length + 1) c8) VF.out (B7.out.alloc B7.out.size _) (by rw [HEV.out, HNM.out]; exact hgr8) (by rw [HEV.out, HNM.out]; exact hat8); have m4 := cell_of_row _ _ 4 _ _ _ P8.1; have f4 : w8.frozen? ⟨gl, 4, none⟩ = false := frozen_of_row _ _ _ _ _ P8.1; have m4' : w8.cell? ⟨gl, 4, none⟩ = some rv := m4; clear hown8 hgr8 hat8 P8 m4))
        | fail)
      all_goals
        go_wp2
        exact HN.out _ _ ⟨rfl, HS0.out, rfl, rfl, QL.of (HB.out.trans (BF.out.mono HB.out.size)) X8.out⟩
end
end Go.Proofs.YtifjddkgnfanaaaDoor
