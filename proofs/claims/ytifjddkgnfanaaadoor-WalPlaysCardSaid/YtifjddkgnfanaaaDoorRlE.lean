/- The document's log (layer 18): numbers. -/
import Derived.Test.YtifjddkgnfanaaaDoorWalA
import Derived.Test.YtifjddkgnfanaaaDoorRefSum
import Derived.Test.YtifjddkgnfanaaaDoorRdF
import Derived.Test.YtifjddkgnfanaaaDoorSha
namespace Go.Proofs.YtifjddkgnfanaaaDoor
open Go.RowKit

set_option maxHeartbeats 1000000 in
set_option maxRecDepth 100000 in
theorem RNumber_any (n : Nat) (w : World) (hn : n < 4294967296) :
    Calls Tryd.prog 67 #[.int .i64 (n : Int)] w fun e w' => e = .returned (.slice (some ⟨w.heap.size, 0, none⟩) 4 4) ∧ OB w' w.heap.size (.slice (some ⟨w.heap.size, 0, none⟩) 4 4) (num4 n) ∧ Below w.heap.size w w' := by
  have H := Lib.hid (OB.lit w w.heap.size (Nat.le_refl _) (num4 n) 4 rfl (by simp [num4, maxLen]))
  have e : (bcells (num4 n)).toArray = #[.int .u8 ((n : Int) / 16777216), .int .u8 ((n : Int) / 65536 % 256), .int .u8 ((n : Int) / 256 % 256), .int .u8 ((n : Int) % 256)] := by
    simp [bcells, num4]
    omega
  rw [e] at H
  have n0 : (0 : Int) ≤ (n : Int) := by omega
  have n1 : (n : Int) < 4294967296 := by omega
  clear e
  go_enter Tryd.func67, Tryd.ntmps67
  go_wp2
  go_ret
  exact ⟨rfl, H.out, (Below.refl _ w).alloc (Nat.le_refl _) _⟩

set_option maxHeartbeats 1000000 in
set_option maxRecDepth 100000 in
theorem Rat_any (A : Option Addr) (n c : Nat) (l : List UInt8) (w : World) (hb : RB w A n l) (hi : 4 ≤ n) (hn : n ≤ 1000000000) :
    Calls Tryd.prog 53 #[.slice A n c] w fun e w' => e = .returned (.int .i64 (numAt l 0 : Int)) ∧ ∃ k, w' = w.drewN k := by
  obtain ⟨b, o, rfl, hc⟩ := hb.2 (by omega)
  have c0 := hc 0 (by omega)
  have c1 := hc 1 (by omega)
  have c2 := hc 2 (by omega)
  have c3 := hc 3 (by omega)
  have i1 : (3 : Int) < (n : Int) := by omega
  have i2 : (2 : Int) < (n : Int) := by omega
  have i3 : (1 : Int) < (n : Int) := by omega
  have i4 : (0 : Int) < (n : Int) := by omega
  unfold numAt
  simp only [Nat.add_zero, Nat.zero_add] at c0 c1 c2 c3 ⊢
  clear hb hc hi hn
  generalize l.getD 0 0 = x0 at *
  generalize l.getD 1 0 = x1 at *
  generalize l.getD 2 0 = x2 at *
  generalize l.getD 3 0 = x3 at *
  have h0 := x0.toNat_lt
  have h1 := x1.toNat_lt
  have h2 := x2.toNat_lt
  have h3 := x3.toNat_lt
  go_enter Tryd.func53, Tryd.ntmps53
  go_wp2
  go_quiet (fail)
  go_wp2
  go_ret
  exact ⟨ret_int (by omega), _, rfl⟩
end Go.Proofs.YtifjddkgnfanaaaDoor

/- The document's log (layer 18): sums. -/
namespace Go.Proofs.YtifjddkgnfanaaaDoor
open Go.RowKit

/-- The text behind OB, as RB. -/
theorem OB.rbB {w : World} {b n c : Nat} {A : Option Addr} {l : List UInt8} (h : OB w b (.slice A n c) l) : RB w A n l := by
  obtain ⟨A', c', e, _, _, hr⟩ := h.form
  injection e with e1 e2 _
  subst e1; subst e2
  exact hr

set_option maxHeartbeats 2000000 in
set_option maxRecDepth 100000 in
theorem Rsum_any (gen n : Nat) (A : Option Addr) (m c : Nat) (text : List UInt8) (w : World) (hb : RB w A m text) (hg : gen < 4294967296) (hn : n < 4294967296) (hm : m ≤ 1000000000) :
    Calls Tryd.prog 68 #[.int .i64 (gen : Int), .int .i64 (n : Int), .slice A m c] w fun e w' => ∃ A' c', e = .returned (.slice A' 8 c') ∧ OB w' w.heap.size (.slice A' 8 c') (sumB gen n text) ∧ Below w.heap.size w w' := by
  have HB := Lib.hid hb
  have HL := Lib.hid hb.1
  have HM := Lib.hid hm
  have hm1 : (m : Int) ≤ 1000000000 := by omega
  have H1 := Lib.hid (fun (W : World) => RNumber_any gen W hg)
  have H2 := Lib.hid (fun (W : World) => RNumber_any n W hn)
  obtain ⟨mac, hmac⟩ : ∃ mac, mac = shaB kfun htab (num4 gen ++ num4 n ++ text) := ⟨_, rfl⟩
  have Hs : Hid (mac.length = 32) := Lib.hid (by rw [hmac]; exact shaB_length _ _ _)
  have HS : Hid (sumB gen n text = mac.take 8) := Lib.hid (by rw [hmac]; rfl)
  obtain ⟨cur, hcur⟩ : ∃ cur, cur = (bcells mac).toArray := ⟨_, rfl⟩
  have HCur := Lib.hid hcur
  have HC2 : Hid (cur.size = 32) := Lib.hid (by rw [hcur]; simp [bcells, Hs.out])
  have HB2 : Hid (cur.all (·.oneCell') = true) := Lib.hid (by
    rw [hcur, Array.all_eq_true_iff_forall_mem]
    intro y hy
    exact bcells_one _ y (by simpa using hy))
  have H4 : Hid (∀ W A' c', RB W A' (8 + m) (num4 gen ++ num4 n ++ text) → Calls Tryd.prog 76 #[.slice A' (8 + m) c'] W fun e w' => e = .returned (.agg cur) ∧ Below W.heap.size W w') := Lib.hid fun W A' c' h => by
    have := RefSum_any A' (8 + m) c' _ W h (by omega)
    rw [← hmac, ← hcur] at this
    exact this
  clear hmac hcur
  clear hb hg hn hm
  go_enter Tryd.func68, Tryd.ntmps68
  go_wp2_with (first
    | (go_at_call 67; (with_reducible refine (H1.out w).mono ?_); rintro e w1 ⟨rfl, ho1, hb1⟩; have O1 := Lib.hid ho1; have B1 := Lib.hid hb1; clear ho1 hb1)
    | (go_at_call 67; (with_reducible refine (H2.out w1).mono ?_); rintro e w2 ⟨rfl, ho2, hb2⟩; have O2 := Lib.hid ho2; have O12 := Lib.hid (O1.out.below hb2); have B2 := Lib.hid (B1.out.trans (hb2.mono B1.out.size)); clear ho2 hb2)
    | (at_builtin; go_loud (refine wpList_append_b rfl (.tmp 10) (.tmp 12) 28 (by rfl) O12.out (by rfl) (RB.src Tryd.underlying28 (OB.rbB O2.out)) (by rfl) (by simp [num4]) B2.out.size ?_; intro v3 w3 hown3 hgr3 hat3; obtain ⟨A3, c3, e3, -, -, -⟩ := hown3.form; rw [show (num4 gen ++ num4 n).length = 8 from rfl] at e3; have O3 := Lib.hid hown3; have B3 := Lib.hid (below_append B2.out hgr3 O12.out (Nat.le_refl _) B2.out.size); subst e3; clear hown3 hgr3 hat3))
    | (at_builtin; go_loud (refine wpList_append_b rfl (.tmp 14) (.tmp 15) 28 (by rfl) O3.out (by rfl) (RB.src Tryd.underlying28 (HB.out.keep (Keeps.of_below B3.out))) (by rfl) (by have := HL.out; have := HM.out; simp [num4]; omega) B3.out.size ?_; intro v4 w4 hown4 hgr4 hat4; obtain ⟨A4, c4, e4, -, -, hr4⟩ := hown4.form; rw [show (num4 gen ++ num4 n ++ text).length = 8 + m by rw [List.length_append, HL.out]; rfl] at e4 hr4; have R4 := Lib.hid hr4; have B4 := Lib.hid (below_append B3.out hgr4 O3.out (Nat.le_refl _) B3.out.size); subst e4; clear hown4 hgr4 hat4 hr4))
    | (go_at_call 76; go_loud ((with_reducible refine (H4.out w4 A4 c4 R4.out).mono ?_); rintro e w5 ⟨rfl, hb5⟩; have B5 := Lib.hid (B4.out.trans (hb5.mono B4.out.size)); clear hb5))
    | (refine wpList_store_row rfl 114 (.tmp 8) (.tmp 17) rfl w5.heap.size cur rfl rfl 114 _ (heap_alloc_new w5 _) (by rw [HC2.out]; exact info_32) (by rw [HC2.out]; rfl) HB2.out ?_; obtain ⟨w6, hw6⟩ : ∃ W, W = (w5.alloc (.cells zer32w 114)).setRow w5.heap.size cur := ⟨_, rfl⟩; change wpList _ _ _ _ _ ((w5.alloc (.cells zer32w 114)).setRow w5.heap.size cur); rw [← hw6]; have Hr6 : Hid (w6.heap[w5.heap.size]? = some (.cells cur 114 (0, 0))) := Lib.hid (by rw [hw6]; exact setRow_heap _ _ _ _ _ _ (heap_alloc_new w5 _)); have B65 : Hid (Below w5.heap.size w5 w6) := Lib.hid (by rw [hw6]; exact below_setRow ((Below.refl _ w5).alloc (Nat.le_refl _) _) (Nat.le_refl _) cur); have B6 := Lib.hid (B5.out.trans (B65.out.mono B5.out.size)); have R6 : Hid (RB w6 (some ⟨w5.heap.size, 0, none⟩) 8 (sumB gen n text)) := Lib.hid (by rw [HS.out]; exact RB.take (rb_row32 (T := 114) (fr := (0, 0)) (by rw [← HCur.out]; exact Hr6.out) Hs.out) 8 (by decide)); clear hw6)
    | (at_builtin; go_loud (refine wpList_append_b rfl (.tmp 18) (.tmp 19) 28 (by rfl) (own_emptyB (w := w6.alloc (.cells #[] 5)) (q := w6.heap.size) (base := w6.heap.size) (heap_alloc_new w6 _) (Nat.le_refl _)) (by rfl) (RB.src Tryd.underlying28 (c := 32) (R6.out.keep (Keeps.of_below ((Below.refl _ w6).alloc (Nat.le_refl _) _)))) (by rfl) (by rw [sumB_length]; simp) (by simp) ?_; intro v7 w7 hown7 hgr7 hat7; rw [List.nil_append] at hown7; obtain ⟨A7, c7, e7, -, -, -⟩ := hown7.form; rw [sumB_length] at e7; subst e7; have O7 := Lib.hid (OB.mono hown7 B6.out.size); have B7 : Hid (Below w.heap.size w w7) := Lib.hid (B6.out.trans ((grown_new ((Below.refl _ w6).alloc (Nat.le_refl _) _) hgr7 (Nat.le_refl _)).mono B6.out.size)); clear hown7 hgr7 hat7))
    | fail)
  go_ret
  exact ⟨A7, c7, rfl, O7.out, B7.out⟩
end Go.Proofs.YtifjddkgnfanaaaDoor

/- The document's log (layer 18): Snap, Record. -/
namespace Go.Proofs.YtifjddkgnfanaaaDoor
open Go.RowKit

set_option maxHeartbeats 2000000 in
set_option maxRecDepth 100000 in
theorem RSnap_any (gen : Nat) (A : Option Addr) (m c : Nat) (text : List UInt8) (w : World) (hb : RB w A m text) (hg : gen < 4294967296) (hm : m ≤ 100000000) :
    Calls Tryd.prog 60 #[.int .i64 (gen : Int), .slice A m c] w fun e w' => ∃ A' c', e = .returned (.slice A' (16 + m) c') ∧ OB w' w.heap.size (.slice A' (16 + m) c') (snapB gen text) ∧ Below w.heap.size w w' := by
  have HB := Lib.hid hb
  have HL := Lib.hid hb.1
  have HM := Lib.hid hm
  have H1 := Lib.hid (fun (W : World) => RNumber_any gen W hg)
  have H2 := Lib.hid (fun (W : World) => RNumber_any m W (by omega))
  have H3 : Hid (∀ W, RB W A m text → Calls Tryd.prog 68 #[.int .i64 (gen : Int), .int .i64 (m : Int), .slice A m c] W fun e w' => ∃ A' c', e = .returned (.slice A' 8 c') ∧ OB w' W.heap.size (.slice A' 8 c') (sumB gen m text) ∧ Below W.heap.size W w') := Lib.hid fun W h => Rsum_any gen m A m c text W h hg (by omega) (by omega)
  have HS : Hid (snapB gen text = num4 gen ++ num4 m ++ sumB gen m text ++ text) := Lib.hid (by unfold snapB; rw [hb.1])
  have hm1 : (m : Int) ≤ 100000000 := by omega
  clear hb hg hm
  have S8 : Hid (∀ t, (sumB gen m t).length = 8) := Lib.hid fun t => sumB_length gen m t
  go_enter Tryd.func60, Tryd.ntmps60
  go_wp2_with (first
    | (go_at_call 67; (with_reducible refine (H1.out w).mono ?_); rintro e w1 ⟨rfl, ho1, hb1⟩; have O1 := Lib.hid ho1; have B1 := Lib.hid hb1; clear ho1 hb1)
    | (go_at_call 67; (with_reducible refine (H2.out w1).mono ?_); rintro e w2 ⟨rfl, ho2, hb2⟩; have O2 := Lib.hid ho2; have O12 := Lib.hid (O1.out.below hb2); have B2 := Lib.hid (B1.out.trans (hb2.mono B1.out.size)); clear ho2 hb2)
    | (at_builtin; go_loud (refine wpList_append_b rfl (.tmp 7) (.tmp 10) 28 (by rfl) O12.out (by rfl) (RB.src Tryd.underlying28 (OB.rbB O2.out)) (by rfl) (by simp [num4]) B2.out.size ?_; intro v3 w3 hown3 hgr3 hat3; obtain ⟨A3, c3, e3, -, -, -⟩ := hown3.form; rw [show (num4 gen ++ num4 m).length = 8 from rfl] at e3; have O3 := Lib.hid hown3; have B3 := Lib.hid (below_append B2.out hgr3 O12.out (Nat.le_refl _) B2.out.size); subst e3; clear hown3 hgr3 hat3))
    | (go_at_call 68; go_loud ((with_reducible refine (H3.out w3 (HB.out.keep (Keeps.of_below B3.out))).mono ?_); rintro e w4 ⟨A4, c4, rfl, ho4, hb4⟩; have O4 := Lib.hid ho4; have O34 := Lib.hid (OB.below O3.out (hb4.mono (Nat.le_refl _))); have B4 := Lib.hid (B3.out.trans (hb4.mono B3.out.size)); clear ho4 hb4))
    | (at_builtin; go_loud (refine wpList_append_b rfl (.tmp 12) (.tmp 17) 28 (by rfl) O34.out (by rfl) (RB.src Tryd.underlying28 (OB.rbB O4.out)) (by rfl) (by rw [S8.out]; simp [num4]) B4.out.size ?_; intro v5 w5 hown5 hgr5 hat5; obtain ⟨A5, c5, e5, -, -, -⟩ := hown5.form; rw [show (num4 gen ++ num4 m ++ sumB gen m text).length = 16 by rw [List.length_append, S8.out]; rfl] at e5; have O5 := Lib.hid hown5; have B5 := Lib.hid (below_append B4.out hgr5 O34.out (Nat.le_refl _) B4.out.size); subst e5; clear hown5 hgr5 hat5))
    | (at_builtin; go_loud (refine wpList_append_b rfl (.tmp 19) (.tmp 20) 28 (by rfl) O5.out (by rfl) (RB.src Tryd.underlying28 (HB.out.keep (Keeps.of_below B5.out))) (by rfl) (by have := HL.out; have := HM.out; rw [List.length_append, S8.out]; simp [num4]; omega) B5.out.size ?_; intro v6 w6 hown6 hgr6 hat6; rw [← HS.out] at hown6; obtain ⟨A6, c6, e6, -, -, -⟩ := hown6.form; rw [show (snapB gen text).length = 16 + m by rw [HS.out, List.length_append, List.length_append, S8.out, HL.out]; rfl] at e6; have O6 := Lib.hid hown6; have B6 := Lib.hid (below_append B5.out hgr6 O5.out (Nat.le_refl _) B5.out.size); subst e6; clear hown6 hgr6 hat6))
    | fail)
  go_ret
  exact ⟨A6, c6, rfl, O6.out, B6.out⟩

set_option maxHeartbeats 2000000 in
set_option maxRecDepth 100000 in
theorem RRecord_any (gen n : Nat) (A : Option Addr) (m c : Nat) (text : List UInt8) (w : World) (hb : RB w A m text) (hg : gen < 4294967296) (hn : n < 4294967296) (hm : m ≤ 100000000) :
    Calls Tryd.prog 55 #[.int .i64 (gen : Int), .int .i64 (n : Int), .slice A m c] w fun e w' => ∃ A' c', e = .returned (.slice A' (20 + m) c') ∧ OB w' w.heap.size (.slice A' (20 + m) c') (recB gen n text) ∧ Below w.heap.size w w' := by
  have HB := Lib.hid hb
  have HL := Lib.hid hb.1
  have HM := Lib.hid hm
  have H1 := Lib.hid (fun (W : World) => RNumber_any gen W hg)
  have H2 := Lib.hid (fun (W : World) => RNumber_any n W hn)
  have H2' := Lib.hid (fun (W : World) => RNumber_any m W (by omega))
  have H3 : Hid (∀ W, RB W A m text → Calls Tryd.prog 68 #[.int .i64 (gen : Int), .int .i64 (n : Int), .slice A m c] W fun e w' => ∃ A' c', e = .returned (.slice A' 8 c') ∧ OB w' W.heap.size (.slice A' 8 c') (sumB gen n text) ∧ Below W.heap.size W w') := Lib.hid fun W h => Rsum_any gen n A m c text W h hg hn (by omega)
  have HS : Hid (recB gen n text = num4 gen ++ num4 n ++ num4 m ++ sumB gen n text ++ text) := Lib.hid (by unfold recB; rw [hb.1])
  have hm1 : (m : Int) ≤ 100000000 := by omega
  clear hb hg hm hn
  have S8 : Hid (∀ t, (sumB gen n t).length = 8) := Lib.hid fun t => sumB_length gen n t
  go_enter Tryd.func55, Tryd.ntmps55
  go_wp2_with (first
    | (go_at_call 67; (with_reducible refine (H1.out w).mono ?_); rintro e w1 ⟨rfl, ho1, hb1⟩; have O1 := Lib.hid ho1; have B1 := Lib.hid hb1; clear ho1 hb1)
    | (go_at_call 67; (with_reducible refine (H2.out w1).mono ?_); rintro e w2 ⟨rfl, ho2, hb2⟩; have O2 := Lib.hid ho2; have O12 := Lib.hid (O1.out.below hb2); have B2 := Lib.hid (B1.out.trans (hb2.mono B1.out.size)); clear ho2 hb2)
    | (at_builtin; go_loud (refine wpList_append_b rfl (.tmp 9) (.tmp 11) 28 (by rfl) O12.out (by rfl) (RB.src Tryd.underlying28 (OB.rbB O2.out)) (by rfl) (by simp [num4]) B2.out.size ?_; intro v3 w3 hown3 hgr3 hat3; obtain ⟨A3, c3, e3, -, -, -⟩ := hown3.form; rw [show (num4 gen ++ num4 n).length = 8 from rfl] at e3; have O3 := Lib.hid hown3; have B3 := Lib.hid (below_append B2.out hgr3 O12.out (Nat.le_refl _) B2.out.size); subst e3; clear hown3 hgr3 hat3))
    | (go_at_call 67; (with_reducible refine (H2'.out w3).mono ?_); rintro e w31 ⟨rfl, ho31, hb31⟩; have O31 := Lib.hid ho31; have O331 := Lib.hid (OB.below O3.out hb31); have B31 := Lib.hid (B3.out.trans (hb31.mono B3.out.size)); clear ho31 hb31)
    | (at_builtin; go_loud (refine wpList_append_b rfl (.tmp 13) (.tmp 16) 28 (by rfl) O331.out (by rfl) (RB.src Tryd.underlying28 (OB.rbB O31.out)) (by rfl) (by simp [num4]) B31.out.size ?_; intro v32 w32 hown32 hgr32 hat32; obtain ⟨A32, c32, e32, -, -, -⟩ := hown32.form; rw [show (num4 gen ++ num4 n ++ num4 m).length = 12 from rfl] at e32; have O32 := Lib.hid hown32; have B32 := Lib.hid (below_append B31.out hgr32 O331.out (Nat.le_refl _) B31.out.size); subst e32; clear hown32 hgr32 hat32))
    | (go_at_call 68; go_loud ((with_reducible refine (H3.out w32 (HB.out.keep (Keeps.of_below B32.out))).mono ?_); rintro e w4 ⟨A4, c4, rfl, ho4, hb4⟩; have O4 := Lib.hid ho4; have O34 := Lib.hid (OB.below O32.out (hb4.mono (Nat.le_refl _))); have B4 := Lib.hid (B32.out.trans (hb4.mono B32.out.size)); clear ho4 hb4))
    | (at_builtin; go_loud (refine wpList_append_b rfl (.tmp 18) (.tmp 22) 28 (by rfl) O34.out (by rfl) (RB.src Tryd.underlying28 (OB.rbB O4.out)) (by rfl) (by rw [S8.out]; simp [num4]) B4.out.size ?_; intro v5 w5 hown5 hgr5 hat5; obtain ⟨A5, c5, e5, -, -, -⟩ := hown5.form; rw [show (num4 gen ++ num4 n ++ num4 m ++ sumB gen n text).length = 20 by rw [List.length_append, S8.out]; rfl] at e5; have O5 := Lib.hid hown5; have B5 := Lib.hid (below_append B4.out hgr5 O34.out (Nat.le_refl _) B4.out.size); subst e5; clear hown5 hgr5 hat5))
    | (at_builtin; go_loud (refine wpList_append_b rfl (.tmp 24) (.tmp 25) 28 (by rfl) O5.out (by rfl) (RB.src Tryd.underlying28 (HB.out.keep (Keeps.of_below B5.out))) (by rfl) (by have := HL.out; have := HM.out; rw [List.length_append, S8.out]; simp [num4]; omega) B5.out.size ?_; intro v6 w6 hown6 hgr6 hat6; rw [← HS.out] at hown6; obtain ⟨A6, c6, e6, -, -, -⟩ := hown6.form; rw [show (recB gen n text).length = 20 + m by rw [HS.out, List.length_append, List.length_append, S8.out, HL.out]; rfl] at e6; have O6 := Lib.hid hown6; have B6 := Lib.hid (below_append B5.out hgr6 O5.out (Nat.le_refl _) B5.out.size); subst e6; clear hown6 hgr6 hat6))
    | fail)
  go_ret
  exact ⟨A6, c6, rfl, O6.out, B6.out⟩
end Go.Proofs.YtifjddkgnfanaaaDoor

/- The document's log (layer 18): begins. -/
namespace Go.Proofs.YtifjddkgnfanaaaDoor
open Go.RowKit

set_option maxHeartbeats 1000000 in
set_option maxRecDepth 100000 in
theorem Rbegins_any (A B : Option Addr) (n m c d : Nat) (w : World) (l r : List UInt8) (hl : RB w A n l) (hnc : n ≤ c) (hr : RB w B m r) :
    Calls Tryd.prog 54 #[.slice A n c, .slice B m d] w fun e w' => e = .returned (.bool (decide (l.take m = r))) ∧ ∃ k, w' = w.drewN k := by
  by_cases hm : m ≤ n
  · have q1 : decide ((m : Int) ≤ (n : Int)) = true := decide_eq_true (by omega)
    have q2 : decide (m ≤ n) = true := decide_eq_true hm
    have q3 : (m : Int) ≤ (c : Int) := by omega
    have q4 : (0 : Int) ≤ (m : Int) := by omega
    have q5 : m ≤ c := by omega
    have ca := fun q => run_bytes_string (P := Tryd.prog) Tryd.underlying28 Tryd.underlying5 Tryd.underlying9 (c := c) ((hl.take m hm).keep (Keeps.drewN w q))
    have cb := fun q => run_bytes_string (P := Tryd.prog) Tryd.underlying28 Tryd.underlying5 Tryd.underlying9 (c := d) (hr.keep (Keeps.drewN w q))
    clear hl hr hnc
    generalize l.take m = p at *
    have sl := str_list p
    have sr := str_list r
    by_cases he : p = r
    · subst he
      rw [decide_eq_true rfl]
      go_enter Tryd.func54, Tryd.ntmps54
      go_wp2
      go_quiet (fail)
      go_wp2
      go_ret
      exact ⟨rfl, _, rfl⟩
    · have hne : (p == r) = false := by simpa using he
      rw [decide_eq_false he]
      clear he
      go_enter Tryd.func54, Tryd.ntmps54
      go_wp2
      go_quiet (fail)
      go_wp2
      go_ret
      exact ⟨rfl, _, rfl⟩
  · have q1 : decide ((m : Int) ≤ (n : Int)) = false := decide_eq_false (by omega)
    have q2 : decide (m ≤ n) = false := decide_eq_false hm
    have e : decide (l.take m = r) = false := decide_eq_false fun h => by
      have := congrArg List.length h
      rw [List.length_take, hl.1, hr.1] at this
      omega
    rw [e]
    clear e hl hr hnc hm
    go_enter Tryd.func54, Tryd.ntmps54
    go_wp2
    go_quiet (fail)
    go_wp2
    go_ret
    exact ⟨rfl, _, rfl⟩
end Go.Proofs.YtifjddkgnfanaaaDoor

/- The document's log (layer 18): snap. -/
namespace Go.Proofs.YtifjddkgnfanaaaDoor
open Go.RowKit

/-- b[E:E+L], whatever the room. -/
theorem run_mid {w : World} {A : Option Addr} {n c : Nat} {l : List UInt8} (hb : RB w A n l) (hnc : n ≤ c) (E L : Nat) (hE : E + L ≤ n) (e f : Int) (hee : e = (E : Int)) (hff : f = (E : Int) + (L : Int)) :
    ∃ AE, (∀ W, (Instr.slice 28 (.slice A n c) (some (.int .i64 e)) (some (.int .i64 f)) none).run Tryd.prog W = .ok (.slice AE L (c - E)) W) ∧ RB w AE L ((l.drop E).take L) := by
  have ht' : Tryd.prog.underlying 28 = some (.slice (Tryd.prog.elem 28)) := by simp [Program.elem, Tryd.underlying28]
  have he : Tryd.prog.elem 28 = 5 := by simp [Program.elem, Tryd.underlying28]
  have hz : ∀ w, (Go.sizeOf 5).run Tryd.prog w = .ok 1 w := fun w => by
    obtain ⟨i0, hi, hz0, hz1, hz2⟩ := info_parts info_u8
    simp [sizeOf, typeInfo, hi, hz1]
  have hl := hb.1
  have e1 : e.toNat = E := by omega
  have e2 : f.toNat = E + L := by omega
  refine ⟨if c = E then A else A.map (·.add E), fun W => ?_, ?_⟩
  · rw [run_slice_lh W 28 _ _ _ ht' .i64 .i64 e f (by omega) (by omega) (by omega), he, hz, e1, e2]
    simp [Result.andThen, sliced]
  · refine ⟨by rw [List.length_take, List.length_drop]; omega, fun h0 => ?_⟩
    obtain ⟨b, o, rfl, _⟩ := hb.2 (by omega)
    have hs := hb.subW E L hE
    rw [if_neg (by omega)]
    obtain ⟨b', o', e, hc⟩ := hs.2 h0
    refine ⟨b', o', ?_, hc⟩
    rw [← e]
    simp [addr_add]

theorem goodB_begins {b t : List UInt8} {G n : Nat} (h : goodB b = if sumB G n t = (b.drop 8).take 8 then some (G, t) else none) (hG1 : 1 ≤ G) (hG : G ≤ 2147483647) (ht : t.length = n) (hn : n < 4294967296) :
    (b.take (16 + n) = snapB G t → goodB b = some (G, t)) ∧ (b.take (16 + n) ≠ snapB G t → goodB b = none) := by
  refine ⟨fun e => ?_, fun e => ?_⟩
  · have : b = snapB G t ++ b.drop (16 + n) := by rw [← e, List.take_append_drop]
    rw [this]
    exact goodB_snap G t _ hG1 hG (by omega)
  · by_cases hs : sumB G n t = (b.drop 8).take 8
    · rw [if_pos hs] at h
      obtain ⟨_, _, _, _, r, hr⟩ := goodB_some h
      exact absurd (by rw [hr]; exact List.take_left' (by rw [snapB_length, ht])) e
    · rw [if_neg hs] at h
      exact h

set_option maxHeartbeats 4000000 in
set_option maxRecDepth 100000 in
theorem RsnapB_any (A : Option Addr) (m c : Nat) (l : List UInt8) (w : World) (hb : RB w A m l) (hmc : m ≤ c) (hm : m ≤ 1048576) :
    Calls Tryd.prog 51 #[.slice A m c] w fun e w' => ∃ (gv : Int) (A' : Option Addr) (n' c' : Nat), e = .returned (.tuple #[.int .i64 gv, .slice A' n' c']) ∧ Below w.heap.size w w' ∧
      (∀ g t, goodB l = some (g, t) → gv = (g : Int) ∧ OB w' w.heap.size (.slice A' n' c') t) ∧ (goodB l = none → gv = 0) := by
  have HL := Lib.hid hb.1
  by_cases h16 : m < 16
  · have hN : goodB l = none := by unfold goodB; rw [if_pos (by rw [hb.1]; exact h16)]
    rw [hN]
    have q : decide ((m : Int) < 16) = true := decide_eq_true (by omega)
    clear hb hN h16
    go_enter Tryd.func51, Tryd.ntmps51
    go_wp2
    exact bodyPost_ret (results_tmp2 rfl _ _ _) rfl ⟨0, none, 0, 0, rfl, Below.refl _ _, (fun _ _ e => by cases e), fun _ => rfl⟩
  have q16 : decide ((m : Int) < 16) = false := decide_eq_false (by omega)
  have HB := Lib.hid hb
  obtain ⟨A4, hA4, hr4⟩ := run_tail (E := 4) hb hmc (by omega)
  have HR4 := Lib.hid hr4
  have N0 : Hid (∀ W : World, RB W A m l → Calls Tryd.prog 53 #[.slice A m c] W fun e w' => e = .returned (.int .i64 (numAt l 0 : Int)) ∧ ∃ k, w' = W.drewN k) := Lib.hid fun W h => Rat_any _ m c l W h (by omega) (by omega)
  have N4 : Hid (∀ W : World, RB W A4 (m - 4) (l.drop 4) → Calls Tryd.prog 53 #[.slice A4 (m - 4) (c - 4)] W fun e w' => e = .returned (.int .i64 (numAt l 4 : Int)) ∧ ∃ k, w' = W.drewN k) := Lib.hid fun W h => by
    rw [numAt_drop]
    exact Rat_any _ (m - 4) (c - 4) _ W h (by omega) (by omega)
  have HGL : Hid (numAt l 0 < 4294967296) := Lib.hid (numAt_lt _ _)
  obtain ⟨G, hG⟩ : ∃ G, G = numAt l 0 := ⟨_, rfl⟩
  obtain ⟨L, hL⟩ : ∃ L, L = numAt l 4 := ⟨_, rfl⟩
  have HN : Hid (goodB l = if l.length < 16 then none else if G < 1 ∨ 2147483647 < G ∨ l.length - 16 < L then none else if sumB G L ((l.drop 16).take L) = (l.drop 8).take 8 then some (G, (l.drop 16).take L) else none) := Lib.hid (by rw [hG, hL]; rfl)
  rw [← hG] at N0 HGL
  rw [← hL] at N4
  clear hG hL hr4
  have hA4' : ∀ W, (Instr.slice 28 (.slice A m c) (some (.int .i64 4)) none none).run Tryd.prog W = .ok (.slice A4 (m - 4) (c - 4)) W := hA4
  have z1 : (16 : Int) ≤ (m : Int) := by omega
  have z2 : (m : Int) ≤ (c : Int) := by omega
  have z3 : (m : Int) ≤ 1048576 := by omega
  clear hA4
  by_cases h1 : G < 1
  · have hN : goodB l = none := by rw [HN.out, if_neg (by rw [HL.out]; exact h16), if_pos (.inl h1)]
    rw [hN]
    have q : decide ((G : Int) < 1) = true := decide_eq_true (by omega)
    have qn : decide (G < 1) = true := decide_eq_true h1
    clear hb hN h1 HN
    go_enter Tryd.func51, Tryd.ntmps51
    go_wp2
    go_region_held3 (fun _ => True) (trivial)
      (first
        | (go_at_call 53; (with_reducible refine (N0.out _ (HB.out.keep (Keeps.drew w))).mono ?_); rintro e w1 ⟨rfl, k1, rfl⟩)
        | (go_at_call 53; (with_reducible refine (N4.out _ (HR4.out.keep (Keeps.drewN w _))).mono ?_); rintro e w2 ⟨rfl, k2, rfl⟩)
        | fail)
    go_wp2
    exact bodyPost_ret (results_tmp2 rfl _ _ _) rfl ⟨0, none, 0, 0, rfl, below_drewN (Below.refl _ _) _, (fun _ _ e => by cases e), fun _ => rfl⟩
  have q1 : decide ((G : Int) < 1) = false := decide_eq_false (by omega)
  have q1n : decide (G < 1) = false := decide_eq_false h1
  by_cases h2 : 2147483647 < G
  · have hN : goodB l = none := by rw [HN.out, if_neg (by rw [HL.out]; exact h16), if_pos (.inr (.inl h2))]
    rw [hN]
    have q' : decide (2147483647 < (G : Int)) = true := decide_eq_true (by omega)
    have qn : decide (2147483647 < G) = true := decide_eq_true h2
    clear hb hN h1 HN
    go_enter Tryd.func51, Tryd.ntmps51
    go_wp2
    go_region_held3 (fun _ => True) (trivial)
      (first
        | (go_at_call 53; (with_reducible refine (N0.out _ (HB.out.keep (Keeps.drew w))).mono ?_); rintro e w1 ⟨rfl, k1, rfl⟩)
        | (go_at_call 53; (with_reducible refine (N4.out _ (HR4.out.keep (Keeps.drewN w _))).mono ?_); rintro e w2 ⟨rfl, k2, rfl⟩)
        | fail)
    go_wp2
    exact bodyPost_ret (results_tmp2 rfl _ _ _) rfl ⟨0, none, 0, 0, rfl, below_drewN (Below.refl _ _) _, (fun _ _ e => by cases e), fun _ => rfl⟩
  have q2 : decide (2147483647 < (G : Int)) = false := decide_eq_false (by omega)
  have q2n : decide (2147483647 < G) = false := decide_eq_false h2
  by_cases h3 : m - 16 < L
  · have hN : goodB l = none := by rw [HN.out, if_neg (by rw [HL.out]; exact h16), if_pos (.inr (.inr (by rw [HL.out]; exact h3)))]
    rw [hN]
    have q' : decide ((m : Int) - 16 < (L : Int)) = true := decide_eq_true (by omega)
    clear hb hN h1 HN
    go_enter Tryd.func51, Tryd.ntmps51
    go_wp2
    go_region_held3 (fun _ => True) (trivial)
      (first
        | (go_at_call 53; (with_reducible refine (N0.out _ (HB.out.keep (Keeps.drew w))).mono ?_); rintro e w1 ⟨rfl, k1, rfl⟩)
        | (go_at_call 53; (with_reducible refine (N4.out _ (HR4.out.keep (Keeps.drewN w _))).mono ?_); rintro e w2 ⟨rfl, k2, rfl⟩)
        | fail)
    go_wp2
    exact bodyPost_ret (results_tmp2 rfl _ _ _) rfl ⟨0, none, 0, 0, rfl, below_drewN (Below.refl _ _) _, (fun _ _ e => by cases e), fun _ => rfl⟩
  have q3 : decide ((m : Int) - 16 < (L : Int)) = false := decide_eq_false (by omega)
  obtain ⟨text, htext⟩ : ∃ t, t = (l.drop 16).take L := ⟨_, rfl⟩
  have HX : goodB l = if sumB G L text = (l.drop 8).take 8 then some (G, text) else none := by rw [HN.out, if_neg (by rw [HL.out]; exact h16), if_neg (by rw [HL.out]; omega), htext]
  obtain ⟨A16, hA16, hr16⟩ := run_mid hb hmc 16 L (by omega) 16 (16 + (L : Int)) rfl rfl
  rw [← htext] at hr16
  have HTl := Lib.hid hr16.1
  have HR := Lib.hid hr16
  have HGB := Lib.hid (goodB_begins HX (by omega) (by omega) hr16.1 (by omega))
  have HSn : Hid (∀ W, Below w.heap.size w W → Calls Tryd.prog 60 #[.int .i64 (G : Int), .slice A16 L (c - 16)] W fun e w' => ∃ A' c', e = .returned (.slice A' (16 + L) c') ∧ OB w' W.heap.size (.slice A' (16 + L) c') (snapB G text) ∧ Below W.heap.size W w') := Lib.hid fun W hW =>
    RSnap_any G A16 L (c - 16) text W (HR.out.keep (Keeps.of_below hW)) HGL.out (by omega)
  have HBe : Hid (∀ W A' c', Below w.heap.size w W → RB W A' (16 + L) (snapB G text) → Calls Tryd.prog 54 #[.slice A m c, .slice A' (16 + L) c'] W fun e w' => e = .returned (.bool (decide (l.take (16 + L) = snapB G text))) ∧ ∃ k, w' = W.drewN k) := Lib.hid fun W A' c' hW hr =>
    Rbegins_any A A' m (16 + L) c c' W l _ (HB.out.keep (Keeps.of_below hW)) hmc hr
  have HLL : Hid (L ≤ 1048576) := Lib.hid (by omega)
  have z4 : (L : Int) ≤ 1048576 := by omega
  clear hb hr16 htext HX HN h1 h2 h3 hmc hm
  by_cases hq : l.take (16 + L) = snapB G text
  · rw [decide_eq_true hq] at HBe
    have HF := Lib.hid (HGB.out.1 hq)
    clear HGB hq
    go_enter Tryd.func51, Tryd.ntmps51
    go_wp2
    go_region_held3 (fun _ => True) (trivial)
      (first
        | (go_at_call 53; (with_reducible refine (N0.out _ (HB.out.keep (Keeps.drew w))).mono ?_); rintro e w1 ⟨rfl, k1, rfl⟩)
        | (go_at_call 53; (with_reducible refine (N4.out _ (HR4.out.keep (Keeps.drewN w _))).mono ?_); rintro e w2 ⟨rfl, k2, rfl⟩)
        | fail)
    go_wp2_with (first
      | (go_at_call 60; go_loud ((with_reducible refine (HSn.out _ (below_drewN (Below.refl _ _) _)).mono ?_); rintro e w3 ⟨A3, c3, rfl, ho3, hb3⟩; have O3 := Lib.hid ho3; have B3 : Hid (Below w.heap.size w w3) := Lib.hid ((below_drewN (Below.refl _ _) _).trans hb3); clear ho3 hb3))
      | (go_at_call 54; go_loud ((with_reducible refine (HBe.out w3 A3 c3 B3.out (OB.rbB O3.out)).mono ?_); rintro e w4 ⟨rfl, k4, rfl⟩))
      | (at_builtin; go_loud (refine wpList_append_b rfl (.tmp 39) (.tmp 40) 28 (by rfl) (own_emptyB (w := (w3.drewN k4).alloc (.cells #[] 5)) (q := w3.heap.size) (base := w3.heap.size) (heap_alloc_new (w3.drewN k4) _) (Nat.le_refl _)) (by rfl) (RB.src Tryd.underlying28 (c := c - 16) ((HR.out.keep (Keeps.of_below (below_drewN B3.out k4))).keep (Keeps.of_below ((Below.refl _ (w3.drewN k4)).alloc (Nat.le_refl _) _)))) (by rfl) (by have := HTl.out; have := HLL.out; simp; omega) (by show _ ≤ (w3.heap.push _).size; simp) ?_; intro v7 w7 hown7 hgr7 hat7; rw [List.nil_append] at hown7; obtain ⟨A7, c7, e7, -, -, -⟩ := hown7.form; subst e7; have O7 := Lib.hid (OB.mono hown7 B3.out.size); have B7 : Hid (Below w.heap.size w w7) := Lib.hid ((below_drewN B3.out k4).trans ((grown_new ((Below.refl _ (w3.drewN k4)).alloc (Nat.le_refl _) _) hgr7 (Nat.le_refl _)).mono B3.out.size)); clear hown7 hgr7 hat7))
      | fail)
    refine bodyPost_ret (results_tmp2 rfl _ _ _) rfl ⟨_, _, _, _, rfl, B7.out, fun g t e => ?_, fun e => ?_⟩
    · rw [HF.out] at e
      injection e with e
      injection e with e1 e2
      subst e1
      subst e2
      exact ⟨rfl, O7.out⟩
    · rw [HF.out] at e
      cases e
  · rw [decide_eq_false hq] at HBe
    have HF := HGB.out.2 hq
    rw [HF]
    clear HGB hq HF
    go_enter Tryd.func51, Tryd.ntmps51
    go_wp2
    go_region_held3 (fun _ => True) (trivial)
      (first
        | (go_at_call 53; (with_reducible refine (N0.out _ (HB.out.keep (Keeps.drew w))).mono ?_); rintro e w1 ⟨rfl, k1, rfl⟩)
        | (go_at_call 53; (with_reducible refine (N4.out _ (HR4.out.keep (Keeps.drewN w _))).mono ?_); rintro e w2 ⟨rfl, k2, rfl⟩)
        | fail)
    go_wp2_with (first
      | (go_at_call 60; go_loud ((with_reducible refine (HSn.out _ (below_drewN (Below.refl _ _) _)).mono ?_); rintro e w3 ⟨A3, c3, rfl, ho3, hb3⟩; have O3 := Lib.hid ho3; have B3 : Hid (Below w.heap.size w w3) := Lib.hid ((below_drewN (Below.refl _ _) _).trans hb3); clear ho3 hb3))
      | (go_at_call 54; go_loud ((with_reducible refine (HBe.out w3 A3 c3 B3.out (OB.rbB O3.out)).mono ?_); rintro e w4 ⟨rfl, k4, rfl⟩))
      | fail)
    exact bodyPost_ret (results_tmp2 rfl _ _ _) rfl ⟨0, none, 0, 0, rfl, below_drewN B3.out _, (fun _ _ e => by cases e), fun _ => rfl⟩
end Go.Proofs.YtifjddkgnfanaaaDoor
