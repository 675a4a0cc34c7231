/- WalPower: its walk. -/
import Derived.Test.YtjodehdmafagoaaDoorPowB
namespace Go.Proofs.YtjodehdmafagoaaDoor
open Go.RowKit

set_option maxHeartbeats 2000000 in
set_option maxRecDepth 100000 in
theorem pow_exit {w0 : World} (fr : Act) (w : World) (Q : Exit → Act → World → Prop) (g gl n : Nat) (v5 lst : Value) (hJ : PJ w0 g gl v5 lst n n fr w)
    (hX : ∀ (fr' : Act) (w' : World), PE w0 g v5 fr' w' → Q (.exit 0) fr' w') : Code.wp Tryd.prog (lpC Tryd.f4.body 0) Q fr w := by
  obtain ⟨h0, h5, h7, h9, h48, h49, h50, m, L, S, A, T', R', hD, hI, hO, hd, hrl, h10, h11, h12, h13⟩ := hJ
  have HX := Lib.hid hX
  have HP : Hid (∀ v11 v13, RR w0 w S v11 L.recs → RR w0 w S v13 R' → ∃ (m : DM) (gl : Nat) (X L1 L' : LM) (S : Nat → Prop), DW w0 w S g m gl X ∧ m.Ok ∧ m.waits.length ≤ 1000 ∧ Value.string ⟨L.text.toArray⟩ = .string ⟨L1.text.toArray⟩ ∧ RR w0 w S v11 L1.recs ∧ Value.string ⟨T'.toArray⟩ = .string ⟨L'.text.toArray⟩ ∧ RR w0 w S v13 L'.recs ∧ Either m L1 L') := Lib.hid fun v11 v13 r11 r13 =>
    ⟨m, gl, L, L, { L with text := T', recs := R' }, S, hD, hI.ok, by rw [hI.waits]; exact Nat.zero_le _, rfl, r11, rfl, r13, fun kept s torn => ⟨A, hI.crash kept s torn, .inl hO.reads⟩⟩
  obtain ⟨A11, n11, c11, vs11, e11, r11⟩ := h11
  obtain ⟨A13, n13, c13, vs13, e13, r13⟩ := h13
  have HR := Lib.hid (And.intro r11 r13)
  clear hX hD hI hO hd hrl r11 r13
  unfold IsP at h0
  generalize slotP fr = f at *
  subst h0
  unfold PF
  rw [h5, h7, h9, h10, e11, h12, e13, h48, h49, h50]
  conv => arg 2; whnf
  clear h5 h7 h9 h48 h49 h50 h10 h12
  go_wp2
  refine HX.out _ _ ?_
  unfold PE
  exact ⟨rfl, rfl, rfl, HP.out _ _ ⟨_, _, _, _, rfl, HR.out.1⟩ ⟨_, _, _, _, rfl, HR.out.2⟩⟩

set_option maxRecDepth 100000 in
theorem pow_loop {w0 : World} {ea : Nat → Addr} (fr : Act) (w : World) (Q : Exit → Act → World → Prop) (g gl n cw : Nat) (v5 : Value) (B : Option Addr) (l : List Act18) (hJ : PJ w0 g gl v5 (.slice B n cw) n 0 fr w) (hl : RActs18 w0 B n l) (hn : n ≤ 40) (h200 : ∀ a ∈ l, a.bs.length ≤ 200) (hE : EW w0 ea) (hR : Errs w0 ea)
    (hX : ∀ (fr' : Act) (w' : World), PE w0 g v5 fr' w' → Q (.exit 0) fr' w') : Code.wp Tryd.prog (.loop (lpC Tryd.f4.body 0)) Q fr w := by
  refine wp_loop_ghost (fun N a w' => ∃ i : Nat, i + N = n ∧ PJ w0 g gl v5 (.slice B n cw) n i a w') n ⟨0, by omega, hJ⟩ ?_
  rintro N a w1 ⟨i, hiN, hj⟩
  by_cases hi : i < n
  · obtain ⟨b, o, rfl, hc⟩ := hl.2.2 (by omega)
    obtain ⟨c0, c1, c2, c3, c4⟩ := hc i hi
    have e : l.getD i default = l[i]'(by rw [hl.1]; exact hi) := by rw [List.getD_eq_getElem?_getD, List.getElem?_eq_getElem (by rw [hl.1]; exact hi)]; rfl
    have hm : l[i]'(by rw [hl.1]; exact hi) ∈ l := List.getElem_mem _
    rw [← e] at hm
    obtain ⟨hr, hrc, hrm⟩ := hl.2.1 _ hm
    have hb := h200 _ hm
    generalize l.getD i default = x at *
    have done : ∀ (fr' : Act) (w' : World), PJ w0 g gl v5 (.slice (some ⟨b, o, none⟩) n cw) n (i + 1) fr' w' → Exit.then (fun a' w' => ∃ n', n' < N ∧ ∃ i : Nat, i + n' = n ∧ PJ w0 g gl v5 (.slice (some ⟨b, o, none⟩) n cw) n i a' w') Q .normal fr' w' :=
      fun fr' w' h => ⟨N - 1, by omega, i + 1, by omega, h⟩
    by_cases hk : x.kind = 1
    · exact pow_compact a w1 _ g gl b o n cw i v5 x hj hi hn hk c0 c1 c2 c3 c4 hr hrc hrm hb hE hR done hX
    · exact pow_append a w1 _ g gl b o n cw i v5 x hj hi hn hk c0 c1 c2 c3 c4 hr hrc hrm hb hE hR done hX
  · obtain rfl : i = n := by omega
    exact pow_exit a w1 _ g gl i v5 _ hj hX

theorem units_ok (p : Int) : 0 ≤ wrap64 ((IntKind.u64.wrap p).tmod 200) ∧ wrap64 ((IntKind.u64.wrap p).tmod 200) ≤ 9223372036854775807 := by
  have h : 0 ≤ IntKind.u64.wrap p := by
    simp [IntKind.wrap, IntKind.signed, IntKind.bits]
    omega
  rw [Int.tmod_eq_emod_of_nonneg h]
  unfold wrap64
  omega
theorem is0 (room : Int) (h0 : 0 ≤ room) (h1 : room ≤ 1048576) : DM.Is ⟨room, fun _ => [], [], false, 0, false⟩ (fun _ => []) := ⟨(live0 room h0 h1).ok, rfl, rfl, fun _ _ => rfl, fun _ _ => rfl⟩

set_option maxHeartbeats 8000000 in
set_option maxRecDepth 100000 in
theorem WalPower_any (A : Option Addr) (n c : Nat) (l : List Act18) (power : Int) (cr : Act18) (w : World) (hl : RActs18 w A n l) (hn : n ≤ maxLen) (hsc0 : 0 ≤ cr.scat) (hsc1 : cr.scat ≤ 18446744073709551615) {ea : Nat → Addr} (hE : EW w ea) (hR : Errs w ea) :
    Calls Tryd.prog 4 #[.slice A n c, .int .i64 power, .agg #[.int .i64 cr.kind, .int .i64 cr.n, .int .i64 cr.torn, .int .u64 cr.scat, cr.v]] w fun e w' => e = .returned (.bool true) ∧ Below w.heap.size w w' := by
  have B0 := Lib.hid ((Below.refl w.heap.size w).alloc (Nat.le_refl _) (.cells #[.int .i64 cr.kind, .int .i64 cr.n, .int .i64 cr.torn, .int .u64 cr.scat, cr.v] 38))
  have hrow := heap_alloc_new w (.cells #[.int .i64 cr.kind, .int .i64 cr.n, .int .i64 cr.torn, .int .u64 cr.scat, cr.v] 38)
  unfold Act18.v at B0 hrow ⊢
  obtain ⟨wb, hwb⟩ : ∃ W, W = w.alloc (.cells #[.int .i64 cr.kind, .int .i64 cr.n, .int .i64 cr.torn, .int .u64 cr.scat, .slice cr.A cr.bs.length cr.c] 38) := ⟨_, rfl⟩
  rw [← hwb] at B0 hrow
  have HRow := Lib.hid hrow
  have HWB := Lib.hid hwb
  have HL := Lib.hid hl
  have HE := Lib.hid hE
  have HRR := Lib.hid hR
  have HAl : Hid (Calls Tryd.prog 6 #[] wb fun e w' => e = .returned (.bool true) ∧ Below wb.heap.size wb w') := Lib.hid (alive18_any wb (hE.below B0.out))
  have HLG : Hid (∀ W, Keeps w W → Calls Tryd.prog 7 #[.slice A n c] W fun e w' => e = .returned (.bool (longW l)) ∧ Below W.heap.size W w') := Lib.hid fun W k => long18_any A n c l W (hl.keep k) hn
  clear hE hR hl hrow hwb
  cases hlg : longW l with
  | true =>
    rw [hlg] at HLG
    clear hlg
    go_enter Tryd.func4, Tryd.ntmps4
    go_wp2_with (first
      | (go_at_call 6; go_loud (rw [← HWB.out]; (with_reducible refine HAl.out.mono ?_); rintro e w1 ⟨rfl, hb1⟩; have B1 := Lib.hid (B0.out.trans (hb1.mono B0.out.size)); clear hb1))
      | (go_at_call 7; go_loud ((with_reducible refine (HLG.out w1 (Keeps.of_below B1.out)).mono ?_); rintro e w2 ⟨rfl, hb2⟩; have B2 := Lib.hid hb2; clear hb2))
      | fail)
    go_ret
    exact ⟨rfl, B1.out.trans (B2.out.mono B1.out.size)⟩
  | false =>
  rw [hlg] at HLG
  have HM : Hid (n ≤ 40 ∧ ∀ a ∈ l, a.bs.length ≤ 200) := Lib.hid (by
    unfold longW at hlg
    rw [Bool.or_eq_false_iff, decide_eq_false_iff_not, HL.out.1] at hlg
    refine ⟨by omega, fun a ha => ?_⟩
    have := List.any_eq_false.1 hlg.2 a ha
    unfold over18 at this
    simpa using this)
  clear hlg
  have HIs0 := Lib.hid (is0 3000 (by decide) (by decide))
  have HF0 : Hid (∀ L, Reads (fun i => (⟨3000, fun _ => [], [], false, 0, false⟩ : DM).b (3 + i)) L → L.dead = false → L = ⟨0, 1, [], [], false⟩ ∧ opE ⟨3000, fun _ => [], [], false, 0, false⟩ (endOf L.recs) = 0 ∧ opM ⟨3000, fun _ => [], [], false, 0, false⟩ (endOf L.recs) = ⟨3000, fun _ => [], [], false, 0, false⟩) := Lib.hid fun L hR hd => by
    obtain ⟨e1, e2, e3, e4, _, p1, p2⟩ := Live.found (live0 3000 (by decide) (by decide)) on0 hR
    exact ⟨LM.ext' e1 e2 e3 e4 hd, p1, p2⟩
  obtain ⟨m0, hm0⟩ : ∃ m0 : DM, m0 = ⟨3000, fun _ => [], [], false, 0, false⟩ := ⟨_, rfl⟩
  have HNew : Hid (∀ W, Calls Tryd.prog 8 #[.int .i64 3000] W fun e w' => e = .returned (.tuple #[.pointer (some ⟨W.heap.size, 0, none⟩), .nilIface]) ∧ DS W w' W.heap.size m0) := Lib.hid fun W => by rw [hm0]; exact New_S 3000 (Below.refl _ _) (by decide) (by decide)
  rw [← hm0] at HIs0 HF0
  clear hm0
  obtain ⟨L0, hL0⟩ : ∃ L0 : LM, L0 = ⟨0, 1, [], [], false⟩ := ⟨_, rfl⟩
  have HL0 : Hid (L0.On (fun _ => []) ∧ L0.dead = false ∧ L0.recs = [] ∧ L0.text = []) := Lib.hid (by rw [hL0]; exact ⟨on0, rfl, rfl, rfl⟩)
  rw [← hL0] at HF0
  clear hL0
  have HW0 : Hid (m0.waits.length ≤ 1000) := Lib.hid (by rw [HIs0.out.waits]; decide)
  have HU := Lib.hid (units_ok power)
  go_enter Tryd.func4, Tryd.ntmps4
  go_wp2_with (first
    | (go_at_call 6; go_loud (rw [← HWB.out]; (with_reducible refine HAl.out.mono ?_); rintro e w1 ⟨rfl, hb1⟩; have B1 := Lib.hid (B0.out.trans (hb1.mono B0.out.size)); have BB1 := Lib.hid hb1; clear hb1))
    | (go_at_call 7; go_loud ((with_reducible refine (HLG.out w1 (Keeps.of_below B1.out)).mono ?_); rintro e w2 ⟨rfl, hb2⟩; have B2 := Lib.hid (B1.out.trans (hb2.mono B1.out.size)); have BB2 := Lib.hid (BB1.out.trans (hb2.mono BB1.out.size)); have HE2 := Lib.hid (HE.out.below B2.out); have HR2 := Lib.hid (HRR.out.below B2.out); clear hb2))
    | (go_at_call 8; go_loud ((with_reducible refine (HNew.out w2).mono ?_); rintro e w3 ⟨rfl, hs3⟩; have S3 := Lib.hid hs3.dd; clear hs3))
    | (go_at_call 10; go_loud ((with_reducible refine (Open_any S3.out HE2.out HIs0.out.ok HW0.out HIs0.out.gone).mono ?_); rintro e w4 ⟨L, hR, hd, hf, ho⟩; obtain ⟨eL, p1, p2⟩ := HF0.out L hR hd; rw [p1, p2, eL] at ho; rcases ho with ⟨_, gl, rfl, hd4⟩ | ⟨h0, _⟩; rotate_left; exact absurd rfl h0; have D4 := Lib.hid hd4; clear hd4 hR hd hf eL p1 p2))
    | (go_at_call 18; go_loud ((with_reducible refine (Arm_W _ D4.out HU.out.1).mono ?_); rintro e w5 ⟨rfl, hd5, hf5⟩; have D5 := Lib.hid hd5; clear hd5 hf5))
    | fail)
  have D6 := (Below.refl w5.heap.size w5).alloc (Nat.le_refl _) (.cells #[] 31)
  refine pow_loop (w0 := w2) _ _ _ w2.heap.size gl n c (.pointer (some ⟨w.heap.size, 0, none⟩)) A l ?_ (HL.out.keep (Keeps.of_below B2.out)) HM.out.1 HM.out.2 HE2.out HR2.out ?_
  · unfold PJ
    exact ⟨rfl, rfl, rfl, rfl, rfl, rfl, rfl, _, L0, _, fun _ => [], [], [], D5.out.below D6, HIs0.out.arm HU.out.1 HU.out.2, HL0.out.1, HL0.out.2.1, by rw [HL0.out.2.2.1]; exact Nat.le_refl _, by rw [HL0.out.2.2.2]; rfl, by rw [HL0.out.2.2.1]; exact RR.nil _ _ _ _, rfl, RR.nil _ _ _ _⟩
  clear D6 D4 D5 S3 HF0 HNew HIs0 HW0 HL0 HU HM HLG HAl HL
  intro fr1 w6 hPE
  obtain ⟨d0, d5, d7, m, gl6, X, L, L', S, hD, hok, hw, d10, r11, d12, r13, hEi⟩ := hPE
  obtain ⟨B, hB, hRB⟩ := hEi cr.n cr.scat cr.torn
  have HD := Lib.hid hD
  have HOK := Lib.hid hok
  have HW := Lib.hid hw
  obtain ⟨m5, hm5⟩ : ∃ m5, m5 = m.crash cr.n cr.scat cr.torn := ⟨_, rfl⟩
  have HM5 := Lib.hid hm5.symm
  have HLive : Hid (m5.Live B) := Lib.hid (by rw [hm5]; exact hB.live rfl)
  have HW5 : Hid (m5.waits.length ≤ 1000) := Lib.hid (by have := HLive.out.waits; omega)
  have HP : Hid (∀ L3, Reads (fun i => m5.b (3 + i)) L3 → opE m5 (endOf L3.recs) = 0 ∧ L3.Ok ∧ ((L3.text = L.text ∧ L3.recs = L.recs) ∨ (L3.text = L'.text ∧ L3.recs = L'.recs))) := Lib.hid fun L3 h3 => by
    have h3' : Reads B L3 := h3.congr fun i hi => (HLive.out.seen i hi).symm
    refine ⟨(open_live HLive.out h3').1, HLive.out.okL h3', ?_⟩
    rcases hRB with h | h
    · obtain ⟨_, _, e1, e2⟩ := h3'.same h (HLive.out.len (by decide)); exact .inl ⟨e1, e2⟩
    · obtain ⟨_, _, e1, e2⟩ := h3'.same h (HLive.out.len (by decide)); exact .inr ⟨e1, e2⟩
  obtain ⟨A11, c11, e11, h11, h11', -⟩ := r11.rbl hD.bel
  obtain ⟨A13, c13, e13, h13, h13', -⟩ := r13.rbl hD.bel
  rw [e11] at r11
  rw [e13] at r13
  have R11 := Lib.hid r11
  have R13 := Lib.hid r13
  have HMax : Hid (L.recs.length ≤ maxLen ∧ L'.recs.length ≤ maxLen) := Lib.hid ⟨Nat.le_trans h11 h11', Nat.le_trans h13 h13'⟩
  have hrow6 := (hD.bel.block w.heap.size (Nat.lt_of_lt_of_le (by have := (Array.getElem?_eq_some_iff.1 HRow.out).1; exact this) BB2.out.size)).trans ((BB2.out.block w.heap.size ((Array.getElem?_eq_some_iff.1 HRow.out).1)).trans HRow.out)
  have x1 : w6.cell? ⟨w.heap.size, 1, none⟩ = some (.int .i64 cr.n) := cell_of_row _ _ 1 _ _ _ hrow6
  have x2 : w6.cell? ⟨w.heap.size, 2, none⟩ = some (.int .i64 cr.torn) := cell_of_row _ _ 2 _ _ _ hrow6
  have x3 : w6.cell? ⟨w.heap.size, 3, none⟩ = some (.int .u64 cr.scat) := cell_of_row _ _ 3 _ _ _ hrow6
  clear hD hok hw hm5 hB hRB hEi r11 r13 hrow6 h11 h11' h13 h13'
  unfold IsP at d0
  generalize slotP fr1 = f at *
  subst d0
  unfold PF
  rw [d5, d7, d10, d12, e11, e13]
  clear d5 d7 d10 d12 e11 e13
  go_wp2_with (first
    | (go_at_call 20; go_loud ((with_reducible refine (Crash_W HD.out HOK.out HW.out cr.n cr.scat cr.torn hsc0 hsc1).mono ?_); rw [HM5.out]; rintro e w7 ⟨rfl, hd7, hf7⟩; have D7 := Lib.hid hd7; have F7 := Lib.hid hf7; clear hd7 hf7))
    | (go_at_call 10; go_loud ((with_reducible refine (Open_any D7.out.dd HE2.out HLive.out.ok HW5.out HLive.out.gone).mono ?_); rintro e w8 ⟨L3, hR, hd, hf, ho⟩; obtain ⟨p1, p2, p3⟩ := HP.out L3 hR; rw [p1] at ho; rcases ho with ⟨_, gl3, rfl, hd8⟩ | ⟨h0, _⟩; rotate_left; exact absurd rfl h0; have D8 := Lib.hid hd8; have F8 := Lib.hid hf; have OK3 := Lib.hid p2; have P3 := Lib.hid p3; clear hd8 hR hd hf p1 p2 p3))
    | fail)
  have HBe : Hid (Below w2.heap.size w2 w8) := Lib.hid D8.out.bel
  have G11 := Lib.hid ((R11.out.fr F7.out).fr F8.out)
  have G13 := Lib.hid ((R13.out.fr F7.out).fr F8.out)
  have HSn0 : Hid (∀ W, Below w8.heap.size w8 W → Calls Tryd.prog 15 #[.pointer (some ⟨gl3, 0, none⟩)] W fun e w' => ∃ A c, e = .returned (.slice A L3.text.length c) ∧ RB w' A L3.text.length L3.text ∧ Below w8.heap.size w8 w') := Lib.hid fun W hW =>
    (Snapshot_any (D8.out.below hW) OK3.out).mono fun e w' ⟨A, c, h1, h2, h3⟩ => ⟨A, c, h1, h2.rbl, hW.trans (h3.mono hW.size)⟩
  have HRc0 : Hid (∀ W, Below w8.heap.size w8 W → Calls Tryd.prog 17 #[.pointer (some ⟨gl3, 0, none⟩)] W fun e w' => ∃ A c, e = .returned (.slice A L3.recs.length c) ∧ L3.recs.length ≤ maxLen ∧ RBL w' A L3.recs.length L3.recs ∧ Below w8.heap.size w8 w') := Lib.hid fun W hW =>
    (Records_any (D8.out.below hW) OK3.out).mono fun e w' ⟨A, c, h1, h2, h3, h4, _, h5⟩ => ⟨A, c, h1, Nat.le_trans h2 h3, h4, hW.trans (h5.mono hW.size)⟩
  obtain ⟨T3, hT3⟩ : ∃ x, x = L3.text := ⟨_, rfl⟩
  obtain ⟨R3, hR3⟩ : ∃ x, x = L3.recs := ⟨_, rfl⟩
  obtain ⟨T, hT⟩ : ∃ x, x = L.text := ⟨_, rfl⟩
  obtain ⟨R, hR⟩ : ∃ x, x = L.recs := ⟨_, rfl⟩
  obtain ⟨T', hT'⟩ : ∃ x, x = L'.text := ⟨_, rfl⟩
  obtain ⟨R', hR'⟩ : ∃ x, x = L'.recs := ⟨_, rfl⟩
  have HSn := HSn0
  have HRc := HRc0
  rw [← hT3, ← hR3, ← hT, ← hR, ← hT', ← hR'] at P3
  rw [← hT3] at HSn
  rw [← hR3] at HRc
  rw [← hR] at G11
  rw [← hR'] at G13
  rw [← hR, ← hR'] at HMax
  rw [← hT, ← hR, ← hT', ← hR']
  have HS1 : Hid (∀ W A c, Below w8.heap.size w8 W → RBL W A R3.length R3 → R3.length ≤ maxLen → Calls Tryd.prog 16 #[.slice A R3.length c, .slice A11 R.length c11] W fun e w' => e = .returned (.bool (decide (R3 = R))) ∧ ∃ k, w' = W.drewN k) := Lib.hid fun W A c hW h1 h2 => by
    obtain ⟨A', c', e, _, _, h3⟩ := (G11.out.below hW).rbl (HBe.out.trans (hW.mono HBe.out.size))
    injection e with e _ _
    rw [e]
    exact SameLists_any A A' _ _ c c11 R3 R W h1 h3 h2 HMax.out.1
  have HS2 : Hid (∀ W A c, Below w8.heap.size w8 W → RBL W A R3.length R3 → R3.length ≤ maxLen → Calls Tryd.prog 16 #[.slice A R3.length c, .slice A13 R'.length c13] W fun e w' => e = .returned (.bool (decide (R3 = R'))) ∧ ∃ k, w' = W.drewN k) := Lib.hid fun W A c hW h1 h2 => by
    obtain ⟨A', c', e, _, _, h3⟩ := (G13.out.below hW).rbl (HBe.out.trans (hW.mono HBe.out.size))
    injection e with e _ _
    rw [e]
    exact SameLists_any A A' _ _ c c13 R3 R' W h1 h3 h2 HMax.out.2
  have HCV : Hid (∀ W A c, RB W A T3.length T3 → (convert 31 9 (.slice A T3.length c)).run Tryd.prog W = .ok (.string ⟨T3.toArray⟩) W) := Lib.hid fun W A c h => run_bytes_string (P := Tryd.prog) Tryd.underlying31 Tryd.underlying5 Tryd.underlying9 (c := c) h
  have HEnd : Hid (∀ W, Below w8.heap.size w8 W → Below w.heap.size w W) := Lib.hid fun W hW => (B2.out.trans (HBe.out.mono B2.out.size)).trans (hW.mono (Nat.le_trans B2.out.size HBe.out.size))
  have s3 := str_list T3
  have s1 := str_list T
  have s2 := str_list T'
  clear hT3 hR3 hT hR hT' hR' HSn0 HRc0 D7 F7 D8 F8 HD HOK HW R11 R13 HMax HLive HW5 HP HM5 OK3
  rcases P3.out with ⟨e1, e2⟩ | ⟨e1, e2⟩
  · subst e1
    subst e2
    rw [decide_eq_true (rfl : R3 = R3)] at HS1
    generalize decide (R3 = R') = b2 at *
    have q1 : (T3 == T3) = true := by simp
    by_cases t2 : T3 = T'
    · have q2 : (T3 == T') = true := by rw [beq_iff_eq]; exact t2
      clear t2 P3
      go_wp2_with (first
        | (go_at_call 15; (with_reducible refine (HSn.out w8 (Below.refl _ _)).mono ?_); rintro e y1 ⟨A1, c1, rfl, ha1, hb1⟩; have cv1 := HCV.out y1 A1 c1 ha1; have Y1 := Lib.hid hb1; clear ha1 hb1)
        | (go_at_call 17; (with_reducible refine (HRc.out y1 Y1.out).mono ?_); rintro e y2 ⟨A2, c2, rfl, hm2, ha2, hb2⟩; have Z2 := Lib.hid (And.intro ha2 hm2); have Y2 := Lib.hid hb2; clear ha2 hb2 hm2)
        | (go_at_call 16; (with_reducible refine (HS1.out y2 A2 c2 Y2.out Z2.out.1 Z2.out.2).mono ?_); rintro e y3 ⟨rfl, k3, rfl⟩; have Y3 := Lib.hid (below_drewN Y2.out k3))
        | (go_at_call 15; (with_reducible refine (HSn.out _ Y3.out).mono ?_); rintro e y4 ⟨A4, c4, rfl, ha4, hb4⟩; have cv4 := HCV.out y4 A4 c4 ha4; have Y4 := Lib.hid hb4; clear ha4 hb4)
        | (go_at_call 17; (with_reducible refine (HRc.out y4 Y4.out).mono ?_); rintro e y5 ⟨A5, c5, rfl, hm5, ha5, hb5⟩; have Z5 := Lib.hid (And.intro ha5 hm5); have Y5 := Lib.hid hb5; clear ha5 hb5 hm5)
        | (go_at_call 16; (with_reducible refine (HS2.out y5 A5 c5 Y5.out Z5.out.1 Z5.out.2).mono ?_); rintro e y6 ⟨rfl, k6, rfl⟩; have Y6 := Lib.hid (below_drewN Y5.out k6))
        | fail)
      go_ret
      exact ⟨rfl, HEnd.out _ Y6.out⟩
    · have q2 : (T3 == T') = false := by rw [beq_eq_false_iff_ne]; exact t2
      clear t2 P3
      go_wp2_with (first
        | (go_at_call 15; (with_reducible refine (HSn.out w8 (Below.refl _ _)).mono ?_); rintro e y1 ⟨A1, c1, rfl, ha1, hb1⟩; have cv1 := HCV.out y1 A1 c1 ha1; have Y1 := Lib.hid hb1; clear ha1 hb1)
        | (go_at_call 17; (with_reducible refine (HRc.out y1 Y1.out).mono ?_); rintro e y2 ⟨A2, c2, rfl, hm2, ha2, hb2⟩; have Z2 := Lib.hid (And.intro ha2 hm2); have Y2 := Lib.hid hb2; clear ha2 hb2 hm2)
        | (go_at_call 16; (with_reducible refine (HS1.out y2 A2 c2 Y2.out Z2.out.1 Z2.out.2).mono ?_); rintro e y3 ⟨rfl, k3, rfl⟩; have Y3 := Lib.hid (below_drewN Y2.out k3))
        | (go_at_call 15; (with_reducible refine (HSn.out _ Y3.out).mono ?_); rintro e y4 ⟨A4, c4, rfl, ha4, hb4⟩; have cv4 := HCV.out y4 A4 c4 ha4; have Y4 := Lib.hid hb4; clear ha4 hb4)
        | fail)
      go_ret
      exact ⟨rfl, HEnd.out _ Y4.out⟩
  · subst e1
    subst e2
    rw [decide_eq_true (rfl : R3 = R3)] at HS2
    have q2 : (T3 == T3) = true := by simp
    by_cases t1 : T3 = T
    · have q1 : (T3 == T) = true := by rw [beq_iff_eq]; exact t1
      clear t1 P3
      cases hb : decide (R3 = R) with
      | true =>
        rw [hb] at HS1
        clear hb
        go_wp2_with (first
          | (go_at_call 15; (with_reducible refine (HSn.out w8 (Below.refl _ _)).mono ?_); rintro e y1 ⟨A1, c1, rfl, ha1, hb1⟩; have cv1 := HCV.out y1 A1 c1 ha1; have Y1 := Lib.hid hb1; clear ha1 hb1)
          | (go_at_call 17; (with_reducible refine (HRc.out y1 Y1.out).mono ?_); rintro e y2 ⟨A2, c2, rfl, hm2, ha2, hb2⟩; have Z2 := Lib.hid (And.intro ha2 hm2); have Y2 := Lib.hid hb2; clear ha2 hb2 hm2)
          | (go_at_call 16; (with_reducible refine (HS1.out y2 A2 c2 Y2.out Z2.out.1 Z2.out.2).mono ?_); rintro e y3 ⟨rfl, k3, rfl⟩; have Y3 := Lib.hid (below_drewN Y2.out k3))
          | (go_at_call 15; (with_reducible refine (HSn.out _ Y3.out).mono ?_); rintro e y4 ⟨A4, c4, rfl, ha4, hb4⟩; have cv4 := HCV.out y4 A4 c4 ha4; have Y4 := Lib.hid hb4; clear ha4 hb4)
          | (go_at_call 17; (with_reducible refine (HRc.out y4 Y4.out).mono ?_); rintro e y5 ⟨A5, c5, rfl, hm5, ha5, hb5⟩; have Z5 := Lib.hid (And.intro ha5 hm5); have Y5 := Lib.hid hb5; clear ha5 hb5 hm5)
          | (go_at_call 16; (with_reducible refine (HS2.out y5 A5 c5 Y5.out Z5.out.1 Z5.out.2).mono ?_); rintro e y6 ⟨rfl, k6, rfl⟩; have Y6 := Lib.hid (below_drewN Y5.out k6))
          | fail)
        go_ret
        exact ⟨rfl, HEnd.out _ Y6.out⟩
      | false =>
        rw [hb] at HS1
        clear hb
        go_wp2_with (first
          | (go_at_call 15; (with_reducible refine (HSn.out w8 (Below.refl _ _)).mono ?_); rintro e y1 ⟨A1, c1, rfl, ha1, hb1⟩; have cv1 := HCV.out y1 A1 c1 ha1; have Y1 := Lib.hid hb1; clear ha1 hb1)
          | (go_at_call 17; (with_reducible refine (HRc.out y1 Y1.out).mono ?_); rintro e y2 ⟨A2, c2, rfl, hm2, ha2, hb2⟩; have Z2 := Lib.hid (And.intro ha2 hm2); have Y2 := Lib.hid hb2; clear ha2 hb2 hm2)
          | (go_at_call 16; (with_reducible refine (HS1.out y2 A2 c2 Y2.out Z2.out.1 Z2.out.2).mono ?_); rintro e y3 ⟨rfl, k3, rfl⟩; have Y3 := Lib.hid (below_drewN Y2.out k3))
          | (go_at_call 15; (with_reducible refine (HSn.out _ Y3.out).mono ?_); rintro e y4 ⟨A4, c4, rfl, ha4, hb4⟩; have cv4 := HCV.out y4 A4 c4 ha4; have Y4 := Lib.hid hb4; clear ha4 hb4)
          | (go_at_call 17; (with_reducible refine (HRc.out y4 Y4.out).mono ?_); rintro e y5 ⟨A5, c5, rfl, hm5, ha5, hb5⟩; have Z5 := Lib.hid (And.intro ha5 hm5); have Y5 := Lib.hid hb5; clear ha5 hb5 hm5)
          | (go_at_call 16; (with_reducible refine (HS2.out y5 A5 c5 Y5.out Z5.out.1 Z5.out.2).mono ?_); rintro e y6 ⟨rfl, k6, rfl⟩; have Y6 := Lib.hid (below_drewN Y5.out k6))
          | fail)
        go_ret
        exact ⟨rfl, HEnd.out _ Y6.out⟩
    · have q1 : (T3 == T) = false := by rw [beq_eq_false_iff_ne]; exact t1
      clear t1 P3
      go_wp2_with (first
        | (go_at_call 15; (with_reducible refine (HSn.out w8 (Below.refl _ _)).mono ?_); rintro e y1 ⟨A1, c1, rfl, ha1, hb1⟩; have cv1 := HCV.out y1 A1 c1 ha1; have Y1 := Lib.hid hb1; clear ha1 hb1)
        | (go_at_call 15; (with_reducible refine (HSn.out y1 Y1.out).mono ?_); rintro e y4 ⟨A4, c4, rfl, ha4, hb4⟩; have cv4 := HCV.out y4 A4 c4 ha4; have Y4 := Lib.hid hb4; clear ha4 hb4)
        | (go_at_call 17; (with_reducible refine (HRc.out y4 Y4.out).mono ?_); rintro e y5 ⟨A5, c5, rfl, hm5, ha5, hb5⟩; have Z5 := Lib.hid (And.intro ha5 hm5); have Y5 := Lib.hid hb5; clear ha5 hb5 hm5)
        | (go_at_call 16; (with_reducible refine (HS2.out y5 A5 c5 Y5.out Z5.out.1 Z5.out.2).mono ?_); rintro e y6 ⟨rfl, k6, rfl⟩; have Y6 := Lib.hid (below_drewN Y5.out k6))
        | fail)
      go_ret
      exact ⟨rfl, HEnd.out _ Y6.out⟩
end Go.Proofs.YtjodehdmafagoaaDoor
