/- WalPlays: the player's acts. -/
import Derived.Test.YtifjddkgnfanaaaDoorPlyD
import Derived.Deep.RegionHeld3
import Derived.Deep.RegionLaw
namespace Go.Proofs.YtifjddkgnfanaaaDoor
open Go.RowKit

section
variable {w w1 w' w0 : World} {S P O T : Nat → Prop} {gl glr g gr x k : Nat} {m m' mr : DM} {L L' : LM} {ea : Nat → Addr} {tv rv lv : Value} {lo lr : Option (Nat × LM)} {bo : Option (Nat × Obj)} {a : Act18}
set_option maxHeartbeats 4000000 in
set_option maxRecDepth 100000 in
theorem do_arm (h : PL w0 w x none g gr m m lo lr lv rv) (hk : a.kind = 2) (hn : 0 ≤ a.n) :
    Calls Tryd.prog 12 #[.pointer (some ⟨x, 0, none⟩), .agg #[.int .i64 a.kind, .int .i64 a.n, .int .i64 a.torn, .int .u64 a.scat, .slice a.A a.bs.length a.c]] w fun e w' => e = .returned (.bool true) ∧ PL w0 w' x none g gr (m.arm a.n) (m.arm a.n) lo lr lv rv := by
  obtain ⟨wb, hwb⟩ : ∃ W, W = w.alloc (.cells #[.int .i64 a.kind, .int .i64 a.n, .int .i64 a.torn, .int .u64 a.scat, .slice a.A a.bs.length a.c] 48) := ⟨_, rfl⟩
  have hPB := h.alloc #[.int .i64 a.kind, .int .i64 a.n, .int .i64 a.torn, .int .u64 a.scat, .slice a.A a.bs.length a.c] 48
  rw [← hwb] at hPB
  have PB := Lib.hid hPB
  obtain ⟨a0, a1, a2, a3⟩ := hPB.at
  have k0 : wb.cell? ⟨w.heap.size, 0, none⟩ = some (.int .i64 a.kind) := hPB.boxed 0
  have k1 : wb.cell? ⟨w.heap.size, 1, none⟩ = some (.int .i64 a.n) := hPB.boxed 1
  have k2 : wb.cell? ⟨w.heap.size, 2, none⟩ = some (.int .i64 a.torn) := hPB.boxed 2
  have k3 : wb.cell? ⟨w.heap.size, 3, none⟩ = some (.int .u64 a.scat) := hPB.boxed 3
  have k4 : wb.cell? ⟨w.heap.size, 4, none⟩ = some (.slice a.A a.bs.length a.c) := hPB.boxed 4
  obtain ⟨-, r5, r6, r7, rf⟩ := hPB.rcell
  obtain ⟨hgx, hgb⟩ := hPB.ne
  have hgb := hgb _ _ rfl
  have hxg : x ≠ gr := fun e => hgx e.symm
  have hbg : w.heap.size ≠ gr := fun e => hgb e.symm
  have rf5 := rf 5
  have rf6 := rf 6
  have qk : (a.kind == 2) = true := by rw [hk]; rfl
  have qn : decide (0 ≤ a.n) = true := decide_eq_true hn
  have qn' : decide (a.n ≥ 0) = true := decide_eq_true hn
  have HArm := Lib.hid (fun W (hW : PL w0 W x (some (w.heap.size, .cells #[.int .i64 a.kind, .int .i64 a.n, .int .i64 a.torn, .int .u64 a.scat, .slice a.A a.bs.length a.c] 48 (0, 0))) g gr m (m.arm a.n) lo lr lv rv) => Arm_P a.n hW hn)
  have HAr : Hid (PL w0 ((wb.setCell ⟨gr, 5, none⟩ (.bool true)).setCell ⟨gr, 6, none⟩ (.int .i64 a.n)).drew x (some (w.heap.size, .cells #[.int .i64 a.kind, .int .i64 a.n, .int .i64 a.torn, .int .u64 a.scat, .slice a.A a.bs.length a.c] 48 (0, 0))) g gr m (m.arm a.n) lo lr lv rv) := Lib.hid ((hPB.arm a.n).below (below_d1 (Below.refl _ _)))
  clear h hPB hk hn rf
  go_enter Tryd.func12, Tryd.ntmps12
  go_wp2_with fail
  rw [← hwb]
  clear hwb
  go_region_held3 (fun w' => w'.cell? ⟨x, 1, none⟩ = some (.pointer (some ⟨gr, 0, none⟩)) ∧ w'.cell? ⟨w.heap.size, 1, none⟩ = some (.int .i64 a.n)) (first | exact ⟨by assumption, by assumption⟩ | go_keep) (fail)
  all_goals
    have hP1 := HAr.out
    obtain ⟨w1, hw1⟩ : ∃ W, W = ((wb.setCell ⟨gr, 5, none⟩ (.bool true)).setCell ⟨gr, 6, none⟩ (.int .i64 a.n)).drew := ⟨_, rfl⟩
    rw [← hw1] at hP1 ⊢
    have P1 := Lib.hid hP1
    have b0 := hP1.at.1
    have j1 : w1.cell? ⟨w.heap.size, 1, none⟩ = some (.int .i64 a.n) := hP1.boxed 1
    clear hP1 hw1 HAr PB rf5 rf6 r5 r6 r7
    go_wp2_with fail
    go_region_held3 (fun w' => w'.cell? ⟨x, 0, none⟩ = some (.pointer (some ⟨g, 0, none⟩)) ∧ w'.cell? ⟨w.heap.size, 1, none⟩ = some (.int .i64 a.n)) (first | exact ⟨by assumption, by assumption⟩ | go_keep)
      (first
        | (go_at_call 33; go_loud ((with_reducible refine (HArm.out w1.drew (P1.out.below (below_d1 (Below.refl _ _)))).mono ?_); rintro e w2 ⟨rfl, h2⟩; have P2 := Lib.hid h2; have e0 := h2.at.1; have e1 : w2.cell? ⟨w.heap.size, 1, none⟩ = some (.int .i64 a.n) := h2.boxed 1; clear h2))
        | fail)
    all_goals
      go_wp2
      go_ret
      exact ⟨rfl, P2.out.unbox⟩
set_option maxHeartbeats 4000000 in
set_option maxRecDepth 100000 in
theorem do_armN (h : PL w0 w x none g gr m m lo lr lv rv) (hE : EW w0 ea) (hk : a.kind = 2) (hn : a.n < 0) :
    Calls Tryd.prog 12 #[.pointer (some ⟨x, 0, none⟩), .agg #[.int .i64 a.kind, .int .i64 a.n, .int .i64 a.torn, .int .u64 a.scat, .slice a.A a.bs.length a.c]] w fun e w' => e = .returned (.bool true) ∧ PL w0 w' x none g gr m m lo lr lv rv := by
  obtain ⟨wb, hwb⟩ : ∃ W, W = w.alloc (.cells #[.int .i64 a.kind, .int .i64 a.n, .int .i64 a.torn, .int .u64 a.scat, .slice a.A a.bs.length a.c] 48) := ⟨_, rfl⟩
  have hPB := h.alloc #[.int .i64 a.kind, .int .i64 a.n, .int .i64 a.torn, .int .u64 a.scat, .slice a.A a.bs.length a.c] 48
  rw [← hwb] at hPB
  have PB := Lib.hid hPB
  obtain ⟨a0, a1, a2, a3⟩ := hPB.at
  have k0 : wb.cell? ⟨w.heap.size, 0, none⟩ = some (.int .i64 a.kind) := hPB.boxed 0
  have k1 : wb.cell? ⟨w.heap.size, 1, none⟩ = some (.int .i64 a.n) := hPB.boxed 1
  have k2 : wb.cell? ⟨w.heap.size, 2, none⟩ = some (.int .i64 a.torn) := hPB.boxed 2
  have k3 : wb.cell? ⟨w.heap.size, 3, none⟩ = some (.int .u64 a.scat) := hPB.boxed 3
  have k4 : wb.cell? ⟨w.heap.size, 4, none⟩ = some (.slice a.A a.bs.length a.c) := hPB.boxed 4
  have qk : (a.kind == 2) = true := by rw [hk]; rfl
  have qn : decide (0 ≤ a.n) = false := decide_eq_false (by omega)
  have qn' : decide (a.n ≥ 0) = false := decide_eq_false (by omega)
  have HArm := Lib.hid (fun W (hW : Below w0.heap.size w0 W) => Arm_neg (w := W) (g := g) a.n (hE.d.keep (Keeps.of_below hW)) hn)
  clear h hPB hk hn hE
  go_enter Tryd.func12, Tryd.ntmps12
  go_wp2_with fail
  rw [← hwb]
  clear hwb
  go_region_held3 (fun w' => w'.cell? ⟨x, 0, none⟩ = some (.pointer (some ⟨g, 0, none⟩)) ∧ w'.cell? ⟨w.heap.size, 1, none⟩ = some (.int .i64 a.n)) (first | exact ⟨by assumption, by assumption⟩ | go_keep)
    (first
      | (go_at_call 33; go_loud ((with_reducible refine (HArm.out wb.drew (below_d1 PB.out.bel)).mono ?_); rintro e w2 ⟨rfl, rfl⟩))
      | fail)
  all_goals
    go_wp2
    go_ret
    exact ⟨rfl, (PB.out.below (below_d1 (Below.refl _ _))).unbox⟩
set_option maxHeartbeats 4000000 in
set_option maxRecDepth 100000 in
theorem do_crash (h : PL w0 w x none g gr m m lo lr lv rv) (hG : m.Gd) (hE : EW w0 ea) (hR : Errs w0 ea) (hk : a.kind = 3) (hs0 : 0 ≤ a.scat) (hs1 : a.scat ≤ 18446744073709551615) :
    Calls Tryd.prog 12 #[.pointer (some ⟨x, 0, none⟩), .agg #[.int .i64 a.kind, .int .i64 a.n, .int .i64 a.torn, .int .u64 a.scat, .slice a.A a.bs.length a.c]] w fun e w' => e = .returned (.bool true) ∧ ∃ m', PS w0 w' x g gr m' 0 := by
  obtain ⟨wb, hwb⟩ : ∃ W, W = w.alloc (.cells #[.int .i64 a.kind, .int .i64 a.n, .int .i64 a.torn, .int .u64 a.scat, .slice a.A a.bs.length a.c] 48) := ⟨_, rfl⟩
  have hPB := h.alloc #[.int .i64 a.kind, .int .i64 a.n, .int .i64 a.torn, .int .u64 a.scat, .slice a.A a.bs.length a.c] 48
  rw [← hwb] at hPB
  have PB := Lib.hid hPB
  obtain ⟨a0, a1, a2, a3⟩ := hPB.at
  have k0 : wb.cell? ⟨w.heap.size, 0, none⟩ = some (.int .i64 a.kind) := hPB.boxed 0
  have k1 : wb.cell? ⟨w.heap.size, 1, none⟩ = some (.int .i64 a.n) := hPB.boxed 1
  have k2 : wb.cell? ⟨w.heap.size, 2, none⟩ = some (.int .i64 a.torn) := hPB.boxed 2
  have k3 : wb.cell? ⟨w.heap.size, 3, none⟩ = some (.int .u64 a.scat) := hPB.boxed 3
  have k4 : wb.cell? ⟨w.heap.size, 4, none⟩ = some (.slice a.A a.bs.length a.c) := hPB.boxed 4
  have qk : (a.kind == 2) = false := by rw [hk]; rfl
  have qk3 : (a.kind == 3) = true := by rw [hk]; rfl
  have HC := Lib.hid (fun W (hW : PL w0 W x (some (w.heap.size, .cells #[.int .i64 a.kind, .int .i64 a.n, .int .i64 a.torn, .int .u64 a.scat, .slice a.A a.bs.length a.c] 48 (0, 0))) g gr m m lo lr lv rv) => Crash_P hW hG.ok (by have := hG.one; omega) a.n a.scat a.torn hs0 hs1)
  have HCR := Lib.hid (fun W (hW : PL w0 W x (some (w.heap.size, .cells #[.int .i64 a.kind, .int .i64 a.n, .int .i64 a.torn, .int .u64 a.scat, .slice a.A a.bs.length a.c] 48 (0, 0))) g gr (m.crash a.n a.scat a.torn) m lo lr lv rv) => RCrash_P hW hG.ok (by have := hG.one; omega) a.n a.scat a.torn hs0)
  have HG' := Lib.hid (Gd.crash hG a.n a.scat a.torn)
  have HOp : Hid (∀ W, PL w0 W x none g gr (m.crash a.n a.scat a.torn) (m.crash a.n a.scat a.torn) lo lr lv rv → Calls Tryd.prog 11 #[.pointer (some ⟨x, 0, none⟩)] W fun e w' => e = .returned (.bool true) ∧ ∃ m', PS w0 w' x g gr m' 0) := Lib.hid fun W hW => play_open hW HG'.out hE hR
  clear h hPB hk hG hE hR
  generalize m.crash a.n a.scat a.torn = m1 at *
  go_enter Tryd.func12, Tryd.ntmps12
  go_wp2_with fail
  rw [← hwb]
  clear hwb
  go_region_held3 (fun w' => w'.cell? ⟨x, 0, none⟩ = some (.pointer (some ⟨g, 0, none⟩)) ∧ w'.cell? ⟨w.heap.size, 1, none⟩ = some (.int .i64 a.n) ∧ w'.cell? ⟨w.heap.size, 2, none⟩ = some (.int .i64 a.torn) ∧ w'.cell? ⟨w.heap.size, 3, none⟩ = some (.int .u64 a.scat)) (first | exact ⟨by assumption, by assumption, by assumption, by assumption⟩ | go_keep)
    (first
      | (go_at_call 18; go_loud ((with_reducible refine (HC.out wb.drew (PB.out.below (below_d1 (Below.refl _ _)))).mono ?_); rintro e w2 ⟨rfl, h2⟩; have P2 := Lib.hid h2; obtain ⟨e0, e1, -, -⟩ := h2.at; have j1 : w2.cell? ⟨w.heap.size, 1, none⟩ = some (.int .i64 a.n) := h2.boxed 1; have j2 : w2.cell? ⟨w.heap.size, 2, none⟩ = some (.int .i64 a.torn) := h2.boxed 2; have j3 : w2.cell? ⟨w.heap.size, 3, none⟩ = some (.int .u64 a.scat) := h2.boxed 3; clear h2))
      | fail)
  all_goals
    go_wp2_with fail
    go_region_held3 (fun w' => w'.cell? ⟨x, 1, none⟩ = some (.pointer (some ⟨gr, 0, none⟩)) ∧ w'.cell? ⟨w.heap.size, 1, none⟩ = some (.int .i64 a.n) ∧ w'.cell? ⟨w.heap.size, 2, none⟩ = some (.int .i64 a.torn) ∧ w'.cell? ⟨w.heap.size, 3, none⟩ = some (.int .u64 a.scat)) (first | exact ⟨by assumption, by assumption, by assumption, by assumption⟩ | go_keep)
      (first
        | (go_at_call 34; go_loud ((with_reducible refine (HCR.out w2.drew (P2.out.below (below_d1 (Below.refl _ _)))).mono ?_); rintro e w3 ⟨rfl, h3⟩; have P3 := Lib.hid h3; obtain ⟨f0, f1, -, -⟩ := h3.at; have i1 : w3.cell? ⟨w.heap.size, 1, none⟩ = some (.int .i64 a.n) := h3.boxed 1; have i2 : w3.cell? ⟨w.heap.size, 2, none⟩ = some (.int .i64 a.torn) := h3.boxed 2; have i3 : w3.cell? ⟨w.heap.size, 3, none⟩ = some (.int .u64 a.scat) := h3.boxed 3; clear h3))
        | fail)
    all_goals
      go_wp2_with (first
        | (go_at_call 11; go_loud ((with_reducible refine (HOp.out w3 P3.out.unbox).mono ?_); rintro e wz ⟨rfl, mz, hz⟩; have Z := Lib.hid hz; clear hz))
        | fail)
      go_ret
      exact ⟨rfl, mz, Z.out⟩
set_option maxHeartbeats 4000000 in
set_option maxRecDepth 100000 in
theorem do_append (h : PL w0 w x none g gr m m (some (gl, L)) (some (glr, L)) (.pointer (some ⟨gl, 0, none⟩)) (.pointer (some ⟨glr, 0, none⟩))) (hG : m.Gd) (hL : L.Ok) (hE : EW w0 ea) (hR : Errs w0 ea) (hk : a.kind = 0) (hb : RB w0 a.A a.bs.length a.bs) (hac : a.bs.length ≤ a.c) (ham : a.c ≤ maxLen) (hle : L.appE m a.bs ≤ 28) :
    Calls Tryd.prog 12 #[.pointer (some ⟨x, 0, none⟩), .agg #[.int .i64 a.kind, .int .i64 a.n, .int .i64 a.torn, .int .u64 a.scat, .slice a.A a.bs.length a.c]] w fun e w' => e = .returned (.bool true) ∧ PL w0 w' x none g gr (L.appM m a.bs) (L.appM m a.bs) (some (gl, L.app m a.bs)) (some (glr, L.app m a.bs)) (.pointer (some ⟨gl, 0, none⟩)) (.pointer (some ⟨glr, 0, none⟩)) := by
  obtain ⟨wb, hwb⟩ : ∃ W, W = w.alloc (.cells #[.int .i64 a.kind, .int .i64 a.n, .int .i64 a.torn, .int .u64 a.scat, .slice a.A a.bs.length a.c] 48) := ⟨_, rfl⟩
  have hPB := h.alloc #[.int .i64 a.kind, .int .i64 a.n, .int .i64 a.torn, .int .u64 a.scat, .slice a.A a.bs.length a.c] 48
  rw [← hwb] at hPB
  have PB := Lib.hid hPB
  obtain ⟨a0, a1, a2, a3⟩ := hPB.at
  have k0 : wb.cell? ⟨w.heap.size, 0, none⟩ = some (.int .i64 a.kind) := hPB.boxed 0
  have k1 : wb.cell? ⟨w.heap.size, 1, none⟩ = some (.int .i64 a.n) := hPB.boxed 1
  have k2 : wb.cell? ⟨w.heap.size, 2, none⟩ = some (.int .i64 a.torn) := hPB.boxed 2
  have k3 : wb.cell? ⟨w.heap.size, 3, none⟩ = some (.int .u64 a.scat) := hPB.boxed 3
  have k4 : wb.cell? ⟨w.heap.size, 4, none⟩ = some (.slice a.A a.bs.length a.c) := hPB.boxed 4
  have qk : (a.kind == 2) = false := by rw [hk]; rfl
  have qk3 : (a.kind == 3) = false := by rw [hk]; rfl
  have qk0 : (a.kind == 0) = true := by rw [hk]; rfl
  have HA := Lib.hid (fun W (hW : PL w0 W x (some (w.heap.size, .cells #[.int .i64 a.kind, .int .i64 a.n, .int .i64 a.torn, .int .u64 a.scat, .slice a.A a.bs.length a.c] 48 (0, 0))) g gr m m (some (gl, L)) (some (glr, L)) (.pointer (some ⟨gl, 0, none⟩)) (.pointer (some ⟨glr, 0, none⟩))) => Append_P a.A a.bs.length a.c a.bs hW hE hG.ok hL hb hac ham (by have := hG.one; omega))
  have HAR := Lib.hid (fun W (hW : PL w0 W x (some (w.heap.size, .cells #[.int .i64 a.kind, .int .i64 a.n, .int .i64 a.torn, .int .u64 a.scat, .slice a.A a.bs.length a.c] 48 (0, 0))) g gr (L.appM m a.bs) m (some (gl, L.app m a.bs)) (some (glr, L)) (.pointer (some ⟨gl, 0, none⟩)) (.pointer (some ⟨glr, 0, none⟩))) => RAppend_P a.A a.bs.length a.c a.bs hW hG hL hb)
  have HNum := Lib.hid (Num_d hR (L.appE m a.bs) hle)
  clear h hPB hk hG hE hR hL hb hac ham hle
  have a2w := a2
  have a3w := a3
  have k4w := k4
  rw [hwb] at a2w a3w k4w
  generalize L.appE m a.bs = n at *
  generalize L.appM m a.bs = m1 at *
  generalize L.app m a.bs = L1 at *
  generalize dErr ea n = ev at *
  go_enter Tryd.func12, Tryd.ntmps12
  go_wp2_with fail
  rw [← hwb]
  clear hwb
  go_wp2_with fail
  go_region_held3 (fun w' => w'.cell? ⟨x, 2, none⟩ = some (.pointer (some ⟨gl, 0, none⟩)) ∧ w'.cell? ⟨x, 3, none⟩ = some (.pointer (some ⟨glr, 0, none⟩)) ∧ w'.cell? ⟨w.heap.size, 4, none⟩ = some (.slice a.A a.bs.length a.c)) (first | exact ⟨by assumption, by assumption, by assumption⟩ | go_keep)
    (first
      | (go_at_call 17; go_loud ((with_reducible refine (HA.out wb.drew (PB.out.below (below_d1 (Below.refl _ _)))).mono ?_); rintro e w2 ⟨rfl, h2⟩; have P2 := Lib.hid h2; obtain ⟨-, -, e2, e3⟩ := h2.at; have j4 : w2.cell? ⟨w.heap.size, 4, none⟩ = some (.slice a.A a.bs.length a.c) := h2.boxed 4; clear h2))
      | (go_at_call 32; go_loud ((with_reducible refine (HNum.out w2 P2.out.bel).mono ?_); rintro e w3 ⟨rfl, hb3⟩; have h3 := P2.out.below hb3; have P3 := Lib.hid h3; obtain ⟨-, -, e2', e3'⟩ := h3.at; have j4' : w3.cell? ⟨w.heap.size, 4, none⟩ = some (.slice a.A a.bs.length a.c) := h3.boxed 4; clear h3 hb3))
      | (go_at_call 35; go_loud ((with_reducible refine (HAR.out w3 P3.out).mono ?_); rintro e w4 ⟨rfl, h4⟩; have P4 := Lib.hid h4; obtain ⟨-, -, e2'', e3''⟩ := h4.at; have j4'' : w4.cell? ⟨w.heap.size, 4, none⟩ = some (.slice a.A a.bs.length a.c) := h4.boxed 4; clear h4))
      | fail)
  all_goals
    go_wp2
    go_ret
    exact ⟨rfl, P4.out.unbox⟩
set_option maxHeartbeats 4000000 in
set_option maxRecDepth 100000 in
theorem do_compact (h : PL w0 w x none g gr m m (some (gl, L)) (some (glr, L)) (.pointer (some ⟨gl, 0, none⟩)) (.pointer (some ⟨glr, 0, none⟩))) (hG : m.Gd) (hL : L.Ok) (hE : EW w0 ea) (hR : Errs w0 ea) (hk : a.kind = 1) (hb : RB w0 a.A a.bs.length a.bs) (hbl : a.bs.length ≤ 200) (hle : L.cpE m a.bs ≤ 28) :
    Calls Tryd.prog 12 #[.pointer (some ⟨x, 0, none⟩), .agg #[.int .i64 a.kind, .int .i64 a.n, .int .i64 a.torn, .int .u64 a.scat, .slice a.A a.bs.length a.c]] w fun e w' => e = .returned (.bool true) ∧ PL w0 w' x none g gr (L.cpM m a.bs) (L.cpM m a.bs) (some (gl, L.cp m a.bs)) (some (glr, L.cp m a.bs)) (.pointer (some ⟨gl, 0, none⟩)) (.pointer (some ⟨glr, 0, none⟩)) := by
  obtain ⟨wb, hwb⟩ : ∃ W, W = w.alloc (.cells #[.int .i64 a.kind, .int .i64 a.n, .int .i64 a.torn, .int .u64 a.scat, .slice a.A a.bs.length a.c] 48) := ⟨_, rfl⟩
  have hPB := h.alloc #[.int .i64 a.kind, .int .i64 a.n, .int .i64 a.torn, .int .u64 a.scat, .slice a.A a.bs.length a.c] 48
  rw [← hwb] at hPB
  have PB := Lib.hid hPB
  obtain ⟨a0, a1, a2, a3⟩ := hPB.at
  have k0 : wb.cell? ⟨w.heap.size, 0, none⟩ = some (.int .i64 a.kind) := hPB.boxed 0
  have k1 : wb.cell? ⟨w.heap.size, 1, none⟩ = some (.int .i64 a.n) := hPB.boxed 1
  have k2 : wb.cell? ⟨w.heap.size, 2, none⟩ = some (.int .i64 a.torn) := hPB.boxed 2
  have k3 : wb.cell? ⟨w.heap.size, 3, none⟩ = some (.int .u64 a.scat) := hPB.boxed 3
  have k4 : wb.cell? ⟨w.heap.size, 4, none⟩ = some (.slice a.A a.bs.length a.c) := hPB.boxed 4
  have qk : (a.kind == 2) = false := by rw [hk]; rfl
  have qk3 : (a.kind == 3) = false := by rw [hk]; rfl
  have qk0 : (a.kind == 0) = false := by rw [hk]; rfl
  have qk1 : (a.kind == 1) = true := by rw [hk]; rfl
  have HA := Lib.hid (fun W (hW : PL w0 W x (some (w.heap.size, .cells #[.int .i64 a.kind, .int .i64 a.n, .int .i64 a.torn, .int .u64 a.scat, .slice a.A a.bs.length a.c] 48 (0, 0))) g gr m m (some (gl, L)) (some (glr, L)) (.pointer (some ⟨gl, 0, none⟩)) (.pointer (some ⟨glr, 0, none⟩))) => Compact_P a.A a.bs.length a.c a.bs hW hE hG.ok hL hb (by omega) (by have := hG.one; omega))
  have HAR := Lib.hid (fun W (hW : PL w0 W x (some (w.heap.size, .cells #[.int .i64 a.kind, .int .i64 a.n, .int .i64 a.torn, .int .u64 a.scat, .slice a.A a.bs.length a.c] 48 (0, 0))) g gr (L.cpM m a.bs) m (some (gl, L.cp m a.bs)) (some (glr, L)) (.pointer (some ⟨gl, 0, none⟩)) (.pointer (some ⟨glr, 0, none⟩))) => RCompact_P a.A a.bs.length a.c a.bs hW hG hL hb (by omega))
  have HNum := Lib.hid (Num_d hR (L.cpE m a.bs) hle)
  clear h hPB hk hG hE hR hL hb hbl hle
  have a2w := a2
  have a3w := a3
  have k4w := k4
  rw [hwb] at a2w a3w k4w
  generalize L.cpE m a.bs = n at *
  generalize L.cpM m a.bs = m1 at *
  generalize L.cp m a.bs = L1 at *
  generalize dErr ea n = ev at *
  go_enter Tryd.func12, Tryd.ntmps12
  go_wp2_with fail
  rw [← hwb]
  clear hwb
  go_wp2_with fail
  go_region_held3 (fun w' => w'.cell? ⟨x, 2, none⟩ = some (.pointer (some ⟨gl, 0, none⟩)) ∧ w'.cell? ⟨x, 3, none⟩ = some (.pointer (some ⟨glr, 0, none⟩)) ∧ w'.cell? ⟨w.heap.size, 4, none⟩ = some (.slice a.A a.bs.length a.c)) (first | exact ⟨by assumption, by assumption, by assumption⟩ | go_keep)
    (first
      | (go_at_call 36; go_loud ((with_reducible refine (HA.out wb.drew (PB.out.below (below_d1 (Below.refl _ _)))).mono ?_); rintro e w2 ⟨rfl, h2⟩; have P2 := Lib.hid h2; obtain ⟨-, -, e2, e3⟩ := h2.at; have j4 : w2.cell? ⟨w.heap.size, 4, none⟩ = some (.slice a.A a.bs.length a.c) := h2.boxed 4; clear h2))
      | (go_at_call 32; go_loud ((with_reducible refine (HNum.out w2 P2.out.bel).mono ?_); rintro e w3 ⟨rfl, hb3⟩; have h3 := P2.out.below hb3; have P3 := Lib.hid h3; obtain ⟨-, -, e2', e3'⟩ := h3.at; have j4' : w3.cell? ⟨w.heap.size, 4, none⟩ = some (.slice a.A a.bs.length a.c) := h3.boxed 4; clear h3 hb3))
      | (go_at_call 37; go_loud ((with_reducible refine (HAR.out w3 P3.out).mono ?_); rintro e w4 ⟨rfl, h4⟩; have P4 := Lib.hid h4; obtain ⟨-, -, e2'', e3''⟩ := h4.at; have j4'' : w4.cell? ⟨w.heap.size, 4, none⟩ = some (.slice a.A a.bs.length a.c) := h4.boxed 4; clear h4))
      | fail)
  all_goals
    go_wp2
    go_ret
    exact ⟨rfl, P4.out.unbox⟩
set_option maxHeartbeats 4000000 in
set_option maxRecDepth 100000 in
theorem do_no0 (h : PL w0 w x none g gr m m lo lr (.pointer none) rv) (hG : m.Gd) (hE : EW w0 ea) (hR : Errs w0 ea) (hk : a.kind = 0) :
    Calls Tryd.prog 12 #[.pointer (some ⟨x, 0, none⟩), .agg #[.int .i64 a.kind, .int .i64 a.n, .int .i64 a.torn, .int .u64 a.scat, .slice a.A a.bs.length a.c]] w fun e w' => e = .returned (.bool true) ∧ ∃ m', PS w0 w' x g gr m' 0 := by
  obtain ⟨wb, hwb⟩ : ∃ W, W = w.alloc (.cells #[.int .i64 a.kind, .int .i64 a.n, .int .i64 a.torn, .int .u64 a.scat, .slice a.A a.bs.length a.c] 48) := ⟨_, rfl⟩
  have hPB := h.alloc #[.int .i64 a.kind, .int .i64 a.n, .int .i64 a.torn, .int .u64 a.scat, .slice a.A a.bs.length a.c] 48
  rw [← hwb] at hPB
  have PB := Lib.hid hPB
  obtain ⟨a0, a1, a2, a3⟩ := hPB.at
  have k0 : wb.cell? ⟨w.heap.size, 0, none⟩ = some (.int .i64 a.kind) := hPB.boxed 0
  have k1 : wb.cell? ⟨w.heap.size, 1, none⟩ = some (.int .i64 a.n) := hPB.boxed 1
  have k2 : wb.cell? ⟨w.heap.size, 2, none⟩ = some (.int .i64 a.torn) := hPB.boxed 2
  have k3 : wb.cell? ⟨w.heap.size, 3, none⟩ = some (.int .u64 a.scat) := hPB.boxed 3
  have k4 : wb.cell? ⟨w.heap.size, 4, none⟩ = some (.slice a.A a.bs.length a.c) := hPB.boxed 4
  have qk : (a.kind == 2) = false := by rw [hk]; rfl
  have qk3 : (a.kind == 3) = false := by rw [hk]; rfl
  have qk0 : (a.kind == 0) = true := by rw [hk]; rfl
  have qk1 : (a.kind == 1) = false := by rw [hk]; rfl
  rw [hwb] at a0 a1 a2 a3 k0 k1
  have HOp : Hid (∀ W, PL w0 W x none g gr m m lo lr (.pointer none) rv → Calls Tryd.prog 11 #[.pointer (some ⟨x, 0, none⟩)] W fun e w' => e = .returned (.bool true) ∧ ∃ m', PS w0 w' x g gr m' 0) := Lib.hid fun W hW => play_open hW hG hE hR
  clear h hPB hG hE hR hk
  go_enter Tryd.func12, Tryd.ntmps12
  go_wp2_with (first
    | (go_at_call 11; go_loud (rw [← hwb]; (with_reducible refine (HOp.out wb PB.out.unbox).mono ?_); rintro e wz ⟨rfl, mz, hz⟩; have Z := Lib.hid hz; clear hz))
    | fail)
  go_ret
  exact ⟨rfl, mz, Z.out⟩
set_option maxHeartbeats 4000000 in
set_option maxRecDepth 100000 in
theorem do_no1 (h : PL w0 w x none g gr m m lo lr (.pointer none) rv) (hG : m.Gd) (hE : EW w0 ea) (hR : Errs w0 ea) (hk : a.kind = 1) :
    Calls Tryd.prog 12 #[.pointer (some ⟨x, 0, none⟩), .agg #[.int .i64 a.kind, .int .i64 a.n, .int .i64 a.torn, .int .u64 a.scat, .slice a.A a.bs.length a.c]] w fun e w' => e = .returned (.bool true) ∧ ∃ m', PS w0 w' x g gr m' 0 := by
  obtain ⟨wb, hwb⟩ : ∃ W, W = w.alloc (.cells #[.int .i64 a.kind, .int .i64 a.n, .int .i64 a.torn, .int .u64 a.scat, .slice a.A a.bs.length a.c] 48) := ⟨_, rfl⟩
  have hPB := h.alloc #[.int .i64 a.kind, .int .i64 a.n, .int .i64 a.torn, .int .u64 a.scat, .slice a.A a.bs.length a.c] 48
  rw [← hwb] at hPB
  have PB := Lib.hid hPB
  obtain ⟨a0, a1, a2, a3⟩ := hPB.at
  have k0 : wb.cell? ⟨w.heap.size, 0, none⟩ = some (.int .i64 a.kind) := hPB.boxed 0
  have k1 : wb.cell? ⟨w.heap.size, 1, none⟩ = some (.int .i64 a.n) := hPB.boxed 1
  have k2 : wb.cell? ⟨w.heap.size, 2, none⟩ = some (.int .i64 a.torn) := hPB.boxed 2
  have k3 : wb.cell? ⟨w.heap.size, 3, none⟩ = some (.int .u64 a.scat) := hPB.boxed 3
  have k4 : wb.cell? ⟨w.heap.size, 4, none⟩ = some (.slice a.A a.bs.length a.c) := hPB.boxed 4
  have qk : (a.kind == 2) = false := by rw [hk]; rfl
  have qk3 : (a.kind == 3) = false := by rw [hk]; rfl
  have qk0 : (a.kind == 0) = false := by rw [hk]; rfl
  have qk1 : (a.kind == 1) = true := by rw [hk]; rfl
  rw [hwb] at a0 a1 a2 a3 k0 k1
  have HOp : Hid (∀ W, PL w0 W x none g gr m m lo lr (.pointer none) rv → Calls Tryd.prog 11 #[.pointer (some ⟨x, 0, none⟩)] W fun e w' => e = .returned (.bool true) ∧ ∃ m', PS w0 w' x g gr m' 0) := Lib.hid fun W hW => play_open hW hG hE hR
  clear h hPB hG hE hR hk
  go_enter Tryd.func12, Tryd.ntmps12
  go_wp2_with (first
    | (go_at_call 11; go_loud (rw [← hwb]; (with_reducible refine (HOp.out wb PB.out.unbox).mono ?_); rintro e wz ⟨rfl, mz, hz⟩; have Z := Lib.hid hz; clear hz))
    | fail)
  go_ret
  exact ⟨rfl, mz, Z.out⟩
set_option maxHeartbeats 4000000 in
set_option maxRecDepth 100000 in
theorem do_else (h : PL w0 w x none g gr m m lo lr lv rv) (hG : m.Gd) (hE : EW w0 ea) (hR : Errs w0 ea) (hk0 : a.kind ≠ 0) (hk1 : a.kind ≠ 1) (hk2 : a.kind ≠ 2) (hk3 : a.kind ≠ 3) :
    Calls Tryd.prog 12 #[.pointer (some ⟨x, 0, none⟩), .agg #[.int .i64 a.kind, .int .i64 a.n, .int .i64 a.torn, .int .u64 a.scat, .slice a.A a.bs.length a.c]] w fun e w' => e = .returned (.bool true) ∧ ∃ m', PS w0 w' x g gr m' 0 := by
  obtain ⟨wb, hwb⟩ : ∃ W, W = w.alloc (.cells #[.int .i64 a.kind, .int .i64 a.n, .int .i64 a.torn, .int .u64 a.scat, .slice a.A a.bs.length a.c] 48) := ⟨_, rfl⟩
  have hPB := h.alloc #[.int .i64 a.kind, .int .i64 a.n, .int .i64 a.torn, .int .u64 a.scat, .slice a.A a.bs.length a.c] 48
  rw [← hwb] at hPB
  have PB := Lib.hid hPB
  obtain ⟨a0, a1, a2, a3⟩ := hPB.at
  have k0 : wb.cell? ⟨w.heap.size, 0, none⟩ = some (.int .i64 a.kind) := hPB.boxed 0
  have k1 : wb.cell? ⟨w.heap.size, 1, none⟩ = some (.int .i64 a.n) := hPB.boxed 1
  have k2 : wb.cell? ⟨w.heap.size, 2, none⟩ = some (.int .i64 a.torn) := hPB.boxed 2
  have k3 : wb.cell? ⟨w.heap.size, 3, none⟩ = some (.int .u64 a.scat) := hPB.boxed 3
  have k4 : wb.cell? ⟨w.heap.size, 4, none⟩ = some (.slice a.A a.bs.length a.c) := hPB.boxed 4
  have qk : (a.kind == 2) = false := beq_eq_false_iff_ne.2 hk2
  have qk3 : (a.kind == 3) = false := beq_eq_false_iff_ne.2 hk3
  have qk0 : (a.kind == 0) = false := beq_eq_false_iff_ne.2 hk0
  have qk1 : (a.kind == 1) = false := beq_eq_false_iff_ne.2 hk1
  rw [hwb] at a0 a1 a2 a3 k0 k1
  have HOp : Hid (∀ W, PL w0 W x none g gr m m lo lr lv rv → Calls Tryd.prog 11 #[.pointer (some ⟨x, 0, none⟩)] W fun e w' => e = .returned (.bool true) ∧ ∃ m', PS w0 w' x g gr m' 0) := Lib.hid fun W hW => play_open hW hG hE hR
  clear h hPB hG hE hR
  go_enter Tryd.func12, Tryd.ntmps12
  go_wp2_with (first
    | (go_at_call 11; go_loud (rw [← hwb]; (with_reducible refine (HOp.out wb PB.out.unbox).mono ?_); rintro e wz ⟨rfl, mz, hz⟩; have Z := Lib.hid hz; clear hz))
    | fail)
  go_ret
  exact ⟨rfl, mz, Z.out⟩
end
end Go.Proofs.YtifjddkgnfanaaaDoor
