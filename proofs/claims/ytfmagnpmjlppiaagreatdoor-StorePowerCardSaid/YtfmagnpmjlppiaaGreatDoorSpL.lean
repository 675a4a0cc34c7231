/- StorePower: its walk. -/
import Derived.Test.YtfmagnpmjlppiaaGreatDoorSp
import Derived.Test.YtfmagnpmjlppiaaGreatDoorStC
import Derived.Test.YtfmagnpmjlppiaaGreatDoorErrs
namespace Go.Proofs.YtfmagnpmjlppiaaGreatDoor
open Go.RowKit SO

set_option maxHeartbeats 8000000 in
set_option maxRecDepth 100000 in
theorem StorePower_any (A : Option Addr) (n c : Nat) (l : List Act20) (power : Int) (cr : Act20) (w : World) (hl : RActs20 w A n l) (hn : n ≤ maxLen) (hsc0 : 0 ≤ cr.scat) (hsc1 : cr.scat ≤ 18446744073709551615) {ea : Nat → Addr} (hE : EW w ea) (hR : Errs w ea) :
  Calls Tryz.prog 3 #[.slice A n c, .int .i64 power, .agg #[.int .i64 cr.kind, .int .i64 cr.n, .int .i64 cr.torn, .int .u64 cr.scat, .int .i64 cr.o.kind, .string cr.o.space, .string cr.o.name, .int .i64 cr.o.ver, .slice cr.o.A cr.o.n cr.o.c, .bool cr.now]] w fun e w' => e = .returned (.bool true) ∧ Below w.heap.size w w' := by
 have B0 := Lib.hid ((Below.refl w.heap.size w).alloc (Nat.le_refl _) (.cells #[.int .i64 cr.kind, .int .i64 cr.n, .int .i64 cr.torn, .int .u64 cr.scat, .int .i64 cr.o.kind, .string cr.o.space, .string cr.o.name, .int .i64 cr.o.ver, .slice cr.o.A cr.o.n cr.o.c, .bool cr.now] 28))
 have hrow := heap_alloc_new w (.cells #[.int .i64 cr.kind, .int .i64 cr.n, .int .i64 cr.torn, .int .u64 cr.scat, .int .i64 cr.o.kind, .string cr.o.space, .string cr.o.name, .int .i64 cr.o.ver, .slice cr.o.A cr.o.n cr.o.c, .bool cr.now] 28)
 obtain ⟨wb, hwb⟩ : ∃ W, W = w.alloc (.cells #[.int .i64 cr.kind, .int .i64 cr.n, .int .i64 cr.torn, .int .u64 cr.scat, .int .i64 cr.o.kind, .string cr.o.space, .string cr.o.name, .int .i64 cr.o.ver, .slice cr.o.A cr.o.n cr.o.c, .bool cr.now] 28) := ⟨_, rfl⟩
 rw [← hwb] at B0 hrow
 have HRow := Lib.hid hrow
 have HWB := Lib.hid hwb
 have HL := Lib.hid hl
 have HE := Lib.hid hE
 have HRR := Lib.hid hR
 have HAl : Hid (Calls Tryz.prog 6 #[] wb fun e w' => e = .returned (.bool true) ∧ Below wb.heap.size wb w') := Lib.hid (alive20_any wb (hE.below B0.out) (hR.below B0.out))
 have HLG : Hid (∀ W, Keeps w W → Calls Tryz.prog 7 #[.slice A n c] W fun e w' => e = .returned (.bool (longS l)) ∧ Below W.heap.size W w') := Lib.hid fun W k => long20_any A n c l W (hl.keep k) hn
 clear hE hR hl hrow hwb
 cases hlg : longS l with
 | true =>
  rw [hlg] at HLG
  clear hlg hsc0 hsc1
  go_enter Tryz.func3, Tryz.ntmps3
  go_wp2_with (first
   | (go_at_call 6; go_loud (rw [← HWB.out]; (with_reducible refine HAl.out.mono ?_); rintro e w1 ⟨rfl, hb1⟩; have B1 := Lib.hid (B0.out.trans (hb1.mono B0.out.size)); have BB1 := Lib.hid hb1; clear hb1))
   | (go_at_call 7; go_loud ((with_reducible refine (HLG.out w1 (Keeps.of_below B1.out)).mono ?_); rintro e w2 ⟨rfl, hb2⟩; have B2 := Lib.hid hb2; clear hb2))
   | fail)
  go_ret
  exact ⟨rfl, B1.out.trans (B2.out.mono B1.out.size)⟩
 | false =>
 rw [hlg] at HLG
 have HM : Hid (n ≤ 40 ∧ ∀ a ∈ l, a.o.space.size ≤ 1000 ∧ a.o.name.size ≤ 1000) := Lib.hid (by
  unfold longS at hlg
  rw [Bool.or_eq_false_iff, decide_eq_false_iff_not, HL.out.1] at hlg
  refine ⟨by omega, fun a ha => ?_⟩
  have h2 := List.any_eq_false.1 hlg.2 a ha
  unfold over20 at h2
  simp only [Bool.or_eq_true, decide_eq_true_eq, not_or] at h2
  exact ⟨by omega, by omega⟩)
 clear hlg
 have HU := Lib.hid (units_okS power)
 have hlive := live0 30000 (by decide) (by decide)
 have hfound := fun L' hR => Live.found (L' := L') hlive on0 hR
 have hrd : Reads (fun i => (⟨30000, fun _ => [], [], false, 0, false⟩ : DM).b (3 + i)) ⟨0, 1, [], [], false⟩ := on0.reads
 obtain ⟨-, -, -, -, hlo, hop, hom⟩ := hfound _ hrd
 have ht0 : Tells ⟨0, 1, [], [], false⟩ st0 := tells0 rfl rfl
 have hlen5 : ((⟨30000, fun _ => [], [], false, 0, false⟩ : DM).b 5).length ≤ 1048576 := Nat.zero_le _
 have hwz : (⟨30000, fun _ => [], [], false, 0, false⟩ : DM).waits = [] := rfl
 have hgz : (⟨30000, fun _ => [], [], false, 0, false⟩ : DM).gone = false := rfl
 have HNew : Hid (∀ W, Calls Tryz.prog 8 #[.int .i64 30000] W fun e w' => e = .returned (.tuple #[.pointer (some ⟨W.heap.size, 0, none⟩), .nilIface]) ∧ DS W w' W.heap.size ⟨30000, fun _ => [], [], false, 0, false⟩) := Lib.hid fun W => New_S 30000 (Below.refl _ _) (by decide) (by decide)
 have HP0 : Hid (PInv (DM.arm ⟨30000, fun _ => [], [], false, 0, false⟩ (wrap64 ((IntKind.u64.wrap power).tmod 200))) ⟨0, 1, [], [], false⟩ st0 0) := Lib.hid ⟨⟨fun _ => [], (is0S 30000 (by decide) (by decide)).arm HU.out.1 HU.out.2, on0⟩, rfl, ht0, rfl, Nat.le_refl _⟩
 obtain ⟨m0, hm0⟩ : ∃ m : DM, m = ⟨30000, fun _ => [], [], false, 0, false⟩ := ⟨_, rfl⟩
 obtain ⟨L0, hL0⟩ : ∃ L : LM, L = ⟨0, 1, [], [], false⟩ := ⟨_, rfl⟩
 have hd0 : L0.dead = false := by rw [hL0]
 have htx : L0.text.length ≤ 1048576 := by rw [hL0]; decide
 rw [← hm0] at HNew HP0 hlive hrd hop hom hlen5 hwz hgz
 rw [← hL0] at HP0 hrd hlo hop hom ht0
 have HOp : Hid (∀ W0 W g, EW W0 ea → DS W0 W g m0 → Calls Tryz.prog 9 #[.pointer (some ⟨g, 0, none⟩)] W fun e w' => ∃ gs Q, e = .returned (.tuple #[.pointer (some ⟨gs, 0, none⟩), .nilIface]) ∧ SW W0 w' Q g m0 gs L0 st0) := Lib.hid fun W0 W g hE2 hs => (Open_st hs.dd hE2 hlive.ok (by rw [hwz]; exact Nat.zero_le _) hgz hrd hd0 hlo hlen5 ht0 ⟨by decide, by decide⟩ htx hop).mono fun e w' => by
  rintro ⟨gs, Q, rfl, hsw, -, -⟩
  rw [hom] at hsw
  exact ⟨gs, Q, rfl, hsw⟩
 have HS0 := Lib.hid hsc0
 have HS1 := Lib.hid hsc1
 clear hfound hlive hrd hlo hop hom ht0 hlen5 hwz hgz hm0 hL0 hd0 htx hsc0 hsc1
 go_enter Tryz.func3, Tryz.ntmps3
 go_upto_block 0 with (first
  | (go_at_call 6; go_loud (rw [← HWB.out]; (with_reducible refine HAl.out.mono ?_); rintro e w1 ⟨rfl, hb1⟩; have B1 := Lib.hid (B0.out.trans (hb1.mono B0.out.size)); have BB1 := Lib.hid hb1; clear hb1))
  | (go_at_call 7; go_loud ((with_reducible refine (HLG.out w1 (Keeps.of_below B1.out)).mono ?_); rintro e w2 ⟨rfl, hb2⟩; have B2 := Lib.hid (B1.out.trans (hb2.mono B1.out.size)); have BB2 := Lib.hid (BB1.out.trans (hb2.mono BB1.out.size)); have HE2 := Lib.hid (HE.out.below B2.out); have HR2 := Lib.hid (HRR.out.below B2.out); clear hb2))
  | (go_at_call 8; go_loud ((with_reducible refine (HNew.out w2).mono ?_); rintro e w3 ⟨rfl, hs3⟩; have S3 := Lib.hid hs3; clear hs3))
  | (go_at_call 9; go_loud ((with_reducible refine (HOp.out w2 w3 w2.heap.size HE2.out S3.out).mono ?_); rintro e w4 ⟨gs, Q4, rfl, hs4⟩; have S4 := Lib.hid hs4; clear hs4))
  | (go_at_call 10; go_loud ((with_reducible refine (Arm_st _ S4.out HU.out.1).mono ?_); rintro e w5 ⟨rfl, hs5, hf5⟩; have S5 := Lib.hid hs5; clear hs5 hf5))
  | fail)
 obtain ⟨w6, hw6⟩ : ∃ W, W = w5.alloc (.cells #[.int .i64 0, .string ⟨#[]⟩, .string ⟨#[]⟩, .int .i64 0, .slice none 0 0] 26) := ⟨_, rfl⟩
 obtain ⟨Bl, hBl⟩ : ∃ B, B = w5.heap.size := ⟨_, rfl⟩
 have HS6 : Hid (SW w2 w6 (ext Q4 w4 w5) w2.heap.size (m0.arm (wrap64 ((IntKind.u64.wrap power).tmod 200))) gs L0 st0) := Lib.hid (by rw [hw6]; exact S5.out.below ((Below.refl w5.heap.size w5).alloc (Nat.le_refl _) (.cells #[.int .i64 0, .string ⟨#[]⟩, .string ⟨#[]⟩, .int .i64 0, .slice none 0 0] 26)))
 have HMid0 : Hid (Mid w2 w6 (ext Q4 w4 w5) st0 Bl false 0 ⟨0, ⟨#[]⟩, ⟨#[]⟩, 0, none, 0, 0⟩) := Lib.hid (by
  refine ⟨fun h => ?_, by rw [hBl]; exact S5.out.bel.size, by rw [hw6, hBl]; exact heap_alloc_new _ _, by decide, by decide, by decide, .inl rfl⟩
  have := S5.out.hi _ h
  omega)
 rw [← hw6, ← hBl]
 clear hw6 hBl HOp HNew HAl HLG S3
 go_cut [10, 12, 13] from 14 to 114 (fun s10 s12 s13 wc => ∃ (T : Nat) (gone down : Bool) (lv : OV) (Q : Nat → Prop) (m : DM) (L : LM) (M M1 : StM), s10 = .int .i64 (T : Int) ∧ s12 = .bool gone ∧ s13 = .bool down ∧ T ≤ 40 ∧ Mid w2 wc Q M Bl gone T lv ∧ SW w2 wc Q w2.heap.size m gs L M1 ∧ Ends m M T down)
 case first =>
  go_wp2_with fail
  go_loopg [10, 12, 13, 53] n (fun gk s10 s12 s13 s53 wr => ∃ (i T : Nat) (gone : Bool) (lv : OV) (Q : Nat → Prop) (m : DM) (L : LM) (M : StM), s10 = .int .i64 (T : Int) ∧ s12 = .bool gone ∧ s13 = .bool false ∧ s53 = .int .i64 (i : Int) ∧ i + gk = n ∧ T ≤ i ∧ PInv m L M T ∧ Mid w2 wr Q M Bl gone T lv ∧ SW w2 wr Q w2.heap.size m gs L M)
  case atStart => exact ⟨0, 0, false, ⟨0, ⟨#[]⟩, ⟨#[]⟩, 0, none, 0, 0⟩, _, _, L0, st0, rfl, rfl, rfl, rfl, by omega, Nat.le_refl _, HP0.out, HMid0.out, HS6.out⟩
  case round =>
   obtain ⟨i, T, gone, lv, Q, m, L, M, rfl, rfl, rfl, rfl, hik, hTi, hpi, hmid, hsw⟩ := hrel
   clear HMid0 HP0 S4 S5 HS6
   by_cases hi : i < n
   ·skip
    obtain ⟨b, o, rfl, x, hx, hao, z1, z2⟩ := acts_at HL.out HM.out.2 i hi
    obtain ⟨k0, k1, k2, t0, t1, hT, hwr, g1, g2, hwi⟩ := round_ints hi HM.out.1 hTi hik
    obtain ⟨c0, c1, c2, c3, c4, c5, c6, c7, c8, c9⟩ := hx.keep (Keeps.of_below (B2.out.trans (hsw.bel.mono B2.out.size)))
    have HOKx : Hid (RB w2 x.o.A x.o.n x.bs ∧ x.o.kind ≤ 9223372036854775807 ∧ x.o.space.size ≤ 1000 ∧ x.o.name.size ≤ 1000) := Lib.hid ⟨hao.rb.keep (Keeps.of_below B2.out), hao.kind, z1, z2⟩
    have HG : Hid (gk - 1 < gk ∧ i + 1 + (gk - 1) = n ∧ T ≤ i ∧ T ≤ 40) := Lib.hid ⟨g1, g2, hTi, hT⟩
    have HWI := Lib.hid hwi
    have HPI := Lib.hid hpi
    have HMD := Lib.hid hmid
    have HSW := Lib.hid hsw
    obtain ⟨wB, BA, BO, hwB, hBA, hBO, hBO2, hbB, hrA, hrO⟩ := two_boxes wr #[.int .i64 x.kind, .int .i64 x.n, .int .i64 x.torn, .int .u64 x.scat, .int .i64 x.o.kind, .string x.o.space, .string x.o.name, .int .i64 x.o.ver, .slice x.o.A x.o.n x.o.c, .bool x.now] #[.int .i64 x.o.kind, .string x.o.space, .string x.o.name, .int .i64 x.o.ver, .slice x.o.A x.o.n x.o.c] 28 26
    have HBB := Lib.hid hbB
    have HRA := Lib.hid hrA
    have HRO := Lib.hid hrO
    have HUp : Hid (wr.heap.size ≤ BA ∧ wr.heap.size ≤ BO ∧ BA ≠ BO) := Lib.hid (by rw [hBA, hBO]; exact ⟨Nat.le_refl _, Nat.le_succ _, Nat.ne_of_lt (Nat.lt_succ_self _)⟩)
    have HWB2 := Lib.hid (And.intro hwB (And.intro hBA (And.intro hBO hBO2)))
    have HGet : Hid (Calls Tryz.prog 11 #[.pointer (some ⟨gs, 0, none⟩), .int .i64 x.o.kind, .string x.o.space, .string x.o.name] wB fun e w' => ∃ (v : OV) (fnd : Bool), e = .returned (.tuple #[.agg #[.int .i64 v.kind, .string v.space, .string v.name, .int .i64 v.ver, .slice v.A v.n v.c], .bool fnd]) ∧ Below wB.heap.size wB w') := Lib.hid ((Get_st x.o.kind x.o.space x.o.name (hsw.below hbB) hao.kind z1 z2).mono fun e w' => by
     rintro ⟨v, rfl, -, hb⟩
     exact ⟨v, _, rfl, hb⟩)
    clear hik hTi hpi hmid hsw hi hx hao z1 z2 hbB hrA hrO hwB hBA hBO hBO2 hT g1 g2 hwi
    go_upto_if 70 with (first
     | (go_at_call 11; go_loud (rw [← HWB2.out.1, ← HWB2.out.2.2.1, ← HWB2.out.2.1]; (with_reducible refine HGet.out.mono ?_); rintro e w3 ⟨v, fnd, rfl, hb3⟩; have B3 := Lib.hid hb3; clear hb3))
     | fail)
    clear HGet HWB2
    obtain ⟨w4, hw4⟩ : ∃ W, W = w3.alloc (.cells #[.int .i64 v.kind, .string v.space, .string v.name, .int .i64 v.ver, .slice v.A v.n v.c] 26) := ⟨_, rfl⟩
    obtain ⟨BV, hBV⟩ : ∃ B, B = w3.heap.size := ⟨_, rfl⟩
    have hb4 : Below wB.heap.size wB w4 := by rw [hw4]; exact B3.out.alloc B3.out.size _
    have r3 : w4.cell? ⟨BV, 3, none⟩ = some (.int .i64 v.ver) := by rw [hw4, hBV]; exact cell_of_row _ _ 3 _ _ _ (heap_alloc_new w3 _)
    have hro4 := (hb4.block BO (Array.getElem?_eq_some_iff.1 HRO.out).1).trans HRO.out
    have hra4 := (hb4.block BA (Array.getElem?_eq_some_iff.1 HRA.out).1).trans HRA.out
    have d3 : w4.cell? ⟨BO, 3, none⟩ = some (.int .i64 x.o.ver) := cell_of_row _ _ 3 _ _ _ hro4
    have fx : ∀ k, w4.frozen? ⟨BO, k, none⟩ = false := fun k => frozen_of_row _ _ _ _ _ hro4
    have HB4 : Hid (Below wr.heap.size wr w4) := Lib.hid (HBB.out.trans (hb4.mono HBB.out.size))
    have HRO4 := Lib.hid hro4
    have HRA4 := Lib.hid hra4
    rw [← hw4, ← hBV]
    clear hw4 hBV hb4 hro4 hra4 HRO HRA HBB
    go_cut [] from 54 to 114 (fun wc => ∃ vv : Int, Below wr.heap.size wr wc ∧ wc.heap[BO]? = some (.cells #[.int .i64 x.o.kind, .string x.o.space, .string x.o.name, .int .i64 vv, .slice x.o.A x.o.n x.o.c] 26 (0, 0)) ∧ wc.heap[BA]? = some (.cells #[.int .i64 x.kind, .int .i64 x.n, .int .i64 x.torn, .int .u64 x.scat, .int .i64 x.o.kind, .string x.o.space, .string x.o.name, .int .i64 x.o.ver, .slice x.o.A x.o.n x.o.c, .bool x.now] 28 (0, 0)))
    case first =>
     cases fnd with
     | true =>
      go_wp2_with fail
      go_meet
      exact ⟨v.ver, HB4.out.setCell HUp.out.2.1 _, heap_setCell_same _ _ 3 _ _ _ HRO4.out, (heap_setCell_other _ _ BA _ HUp.out.2.2).trans HRA4.out⟩
     | false =>
      go_wp2_with fail
      go_meet
      exact ⟨x.o.ver, HB4.out, HRO4.out, HRA4.out⟩
    case rest =>
    clear r3 d3 fx HRO4 HRA4 HB4 B3
    obtain ⟨vv, hbc, hro, hra⟩ := hcut
    obtain ⟨wy, rfl⟩ : ∃ W, W = wc := ⟨_, rfl⟩
    have HBC := Lib.hid hbc
    have HRO := Lib.hid hro
    have HRA := Lib.hid hra
    have y0 : wy.cell? ⟨BA, 0, none⟩ = some (.int .i64 x.kind) := cell_of_row _ _ 0 _ _ _ hra
    obtain ⟨v0, v1, v2, v3, v4⟩ := VB.of_row (v := ⟨x.o.kind, x.o.space, x.o.name, vv, x.o.A, x.o.n, x.o.c⟩) hro
    dsimp only at v0 v1 v2 v3 v4
    obtain ⟨dl, hdl⟩ : ∃ d, (x.kind == 2) = d := ⟨_, rfl⟩
    clear hbc hro hra
    go_upto_block 2 with fail
    go_cut [19, 20] from 54 to 114 (fun s19 s20 wd => ∃ (nn E : Nat) (M' : StM) (L' : LM) (m' : DM), s19 = .int .i64 (nn : Int) ∧ s20 = dErr ea E ∧ Outc T M dl ⟨x.o.kind, x.o.space, x.o.name, vv, x.o.A, x.o.n, x.o.c⟩ x.bs nn E M' L' m' ∧ SW w2 wd (ext Q wy wd) w2.heap.size m' gs L' M' ∧ Fr Q wy wd)
    case first =>
     by_cases q0 : x.kind = 0
     ·have e0 : (x.kind == 0) = true := by rw [q0]; rfl
      have hd : dl = false := by rw [← hdl, q0]; rfl
      subst hd
      clear q0 hdl
      go_wp2_with (first
       | (go_at_call 12; go_loud ((with_reducible refine (cre_turn ⟨x.o.kind, x.o.space, x.o.name, vv, x.o.A, x.o.n, x.o.c⟩ x.bs (HSW.out.below HBC.out) HPI.out HG.out.2.2.2 HR2.out HE2.out HOKx.out.1 HOKx.out.2.1 HOKx.out.2.2.1 HOKx.out.2.2.2).mono ?_); rintro e wd ⟨nn, E, M', L', m', rfl, ho, hs, hf⟩; have HO := Lib.hid ho; have HS := Lib.hid hs; have HF := Lib.hid hf; clear ho hs hf))
       | fail)
      go_meet
      exact ⟨nn, E, M', L', m', rfl, rfl, HO.out, HS.out, HF.out⟩
     ·have e0 : (x.kind == 0) = false := beq_eq_false_iff_ne.2 q0
      clear q0
      cases dl with
      | true =>
       go_wp2_with (first
        | (go_at_call 13; go_loud ((with_reducible refine (del_turn ⟨x.o.kind, x.o.space, x.o.name, vv, x.o.A, x.o.n, x.o.c⟩ x.bs (HSW.out.below HBC.out) HPI.out HG.out.2.2.2 HR2.out HE2.out HOKx.out.1 HOKx.out.2.1 HOKx.out.2.2.1 HOKx.out.2.2.2).mono ?_); rintro e wd ⟨nn, E, M', L', m', rfl, ho, hs, hf⟩; have HO := Lib.hid ho; have HS := Lib.hid hs; have HF := Lib.hid hf; clear ho hs hf))
        | fail)
       go_meet
       exact ⟨nn, E, M', L', m', rfl, rfl, HO.out, HS.out, HF.out⟩
      | false =>
       go_wp2_with (first
        | (go_at_call 14; go_loud ((with_reducible refine (upd_turn ⟨x.o.kind, x.o.space, x.o.name, vv, x.o.A, x.o.n, x.o.c⟩ x.bs (HSW.out.below HBC.out) HPI.out HG.out.2.2.2 HR2.out HE2.out HOKx.out.1 HOKx.out.2.1 HOKx.out.2.2.1 HOKx.out.2.2.2).mono ?_); rintro e wd ⟨nn, E, M', L', m', rfl, ho, hs, hf⟩; have HO := Lib.hid ho; have HS := Lib.hid hs; have HF := Lib.hid hf; clear ho hs hf))
        | fail)
       go_meet
       exact ⟨nn, E, M', L', m', rfl, rfl, HO.out, HS.out, HF.out⟩
    case rest =>
    obtain ⟨nn, E, M', L', m', rfl, rfl, ho, hsd, hfd⟩ := hcut
    have HSD := Lib.hid hsd
    have HFD := Lib.hid hfd
    have her : Errs wc ea := HR2.out.below hsd.bel
    rcases ho with ⟨h0, h25, h28, hp', htab⟩ | ⟨rfl, rfl, hp', hlast⟩ | ⟨rfl, hleft⟩
    ·have HNum : Hid (Calls Tryz.prog 15 #[.iface 338 (.pointer (some (ea E)))] wc fun e w' => e = .returned (.int .i64 (E : Int)) ∧ Below wc.heap.size wc w') := Lib.hid (by
      have h := Num_any her E h28
      rw [errOf_d, dErr_form ea h0] at h
      exact h)
     have qE := cast_ne h25
     have HP2 := Lib.hid hp'
     have HM2 : Hid (Mid w2 wc (ext Q wy wc) M' Bl gone T lv) := Lib.hid (HMD.out.turn HBC.out hfd htab)
     rw [dErr_form ea h0]
     clear hsd hfd her h0 h25 h28 hp' htab v0 v1 v2 v3 v4 y0
     go_wp2_with (first
      | (go_at_call 15; go_loud ((with_reducible refine HNum.out.mono ?_); rintro e wz ⟨rfl, hbz⟩; have BZ := Lib.hid hbz; clear hbz))
      | fail)
     go_roundg (gk - 1)
     case measure => exact HG.out.1
     case rel => exact ⟨i + 1, T, gone, lv, ext Q wy wc, m', L', M', rfl, rfl, rfl, by go_num, HG.out.2.1, Nat.le_succ_of_le HG.out.2.2.1, HP2.out, HM2.out.below BZ.out, HSD.out.below BZ.out⟩
    ·have HNum : Hid (Calls Tryz.prog 15 #[.nilIface] wc fun e w' => e = .returned (.int .i64 0) ∧ Below wc.heap.size wc w') := Lib.hid (by
      have h := Num_any her 0 (by decide)
      rw [errOf_d, dErr_zero] at h
      exact h)
     have HRl := Lib.hid (HMD.out.out HBC.out hfd)
     have HROc := Lib.hid (row_out HRO.out hfd (fun h => absurd (HSW.out.hi _ h) (Nat.not_lt.2 HUp.out.2.1)))
     have HRAc := Lib.hid (row_out HRA.out hfd (fun h => absurd (HSW.out.hi _ h) (Nat.not_lt.2 HUp.out.1)))
     have HNe : Hid (¬ BO = Bl ∧ ¬ BA = Bl) := Lib.hid ⟨fun h => absurd HMD.out.lt (Nat.not_lt.2 (by rw [← h]; exact HUp.out.2.1)), fun h => absurd HMD.out.lt (Nat.not_lt.2 (by rw [← h]; exact HUp.out.1))⟩
     have HP2 := Lib.hid hp'
     have HLa := Lib.hid hlast
     rw [dErr_zero, show ((T + 1 : Nat) : Int) = (T : Int) + 1 from rfl]
     clear hsd hfd her hp' hlast v0 v1 v2 v3 v4 y0
     go_wp2_with (first
      | (go_at_call 15; go_loud ((with_reducible refine HNum.out.mono ?_); rintro e wz ⟨rfl, hbz⟩; have BZ := Lib.hid hbz; have HRlz : Hid (wz.heap[Bl]? = some (.cells #[.int .i64 lv.kind, .string lv.space, .string lv.name, .int .i64 lv.ver, .slice lv.A lv.n lv.c] 26 (0, 0))) := Lib.hid ((hbz.block Bl (Array.getElem?_eq_some_iff.1 HRl.out).1).trans HRl.out); have HROz : Hid (wz.heap[BO]? = some (.cells #[.int .i64 x.o.kind, .string x.o.space, .string x.o.name, .int .i64 vv, .slice x.o.A x.o.n x.o.c] 26 (0, 0))) := Lib.hid ((hbz.block BO (Array.getElem?_eq_some_iff.1 HROc.out).1).trans HROc.out); have HRAz : Hid (wz.heap[BA]? = some (.cells #[.int .i64 x.kind, .int .i64 x.n, .int .i64 x.torn, .int .u64 x.scat, .int .i64 x.o.kind, .string x.o.space, .string x.o.name, .int .i64 x.o.ver, .slice x.o.A x.o.n x.o.c, .bool x.now] 28 (0, 0))) := Lib.hid ((hbz.block BA (Array.getElem?_eq_some_iff.1 HRAc.out).1).trans HRAc.out); have HSz := Lib.hid (And.intro (cell_of_row wz BO 0 _ _ _ HROz.out) (And.intro (cell_of_row wz BO 1 _ _ _ HROz.out) (And.intro (cell_of_row wz BO 2 _ _ _ HROz.out) (And.intro (cell_of_row wz BO 3 _ _ _ HROz.out) (And.intro (cell_of_row wz BO 4 _ _ _ HROz.out) (cell_of_row wz BA 0 _ _ _ HRAz.out)))))); obtain ⟨d0, d1, d2, d3, d4⟩ := VB.of_row (v := lv) HRlz.out; have fx : ∀ k, wz.frozen? ⟨Bl, k, none⟩ = false := (fun k => frozen_of_row _ _ _ _ _ HRlz.out); clear hbz))
      | fail)
     refine wp_region_noPanic ?_
     refine wp_region_held_drew (S := (fun w' => w'.cell? ⟨BO, 0, none⟩ = some (.int .i64 x.o.kind) ∧ w'.cell? ⟨BO, 1, none⟩ = some (.string x.o.space) ∧ w'.cell? ⟨BO, 2, none⟩ = some (.string x.o.name) ∧ w'.cell? ⟨BO, 3, none⟩ = some (.int .i64 vv) ∧ w'.cell? ⟨BO, 4, none⟩ = some (.slice x.o.A x.o.n x.o.c) ∧ w'.cell? ⟨BA, 0, none⟩ = some (.int .i64 x.kind))) (by kernel_rfl) ?_ (fun hHeld => ?_)
     ·exact HSz.out
     refine tk 0 hHeld ?_
     try simp only [pa]
     refine tk 1 hHeld ?_
     try simp only [pa]
     refine tk 2 hHeld ?_
     try simp only [pa]
     refine tk 3 hHeld ?_
     try simp only [pa]
     refine rd1 4 rfl (fun K hK => ?_)
     go_simp
     obtain ⟨wf, hwf⟩ : ∃ W, W = (((((wz.setCell ⟨Bl, 0, none⟩ (.int .i64 x.o.kind)).setCell ⟨Bl, 1, none⟩ (.string x.o.space)).setCell ⟨Bl, 2, none⟩ (.string x.o.name)).setCell ⟨Bl, 3, none⟩ (.int .i64 vv)).setCell ⟨Bl, 4, none⟩ (.slice x.o.A x.o.n x.o.c)).drew := ⟨_, rfl⟩
     have HRF : Hid (wf.heap[Bl]? = some (.cells #[.int .i64 x.o.kind, .string x.o.space, .string x.o.name, .int .i64 vv, .slice x.o.A x.o.n x.o.c] 26 (0, 0))) := Lib.hid (by rw [hwf]; exact (st5 HRlz.out))
     have HFF : Hid (Fr (fun k => k = Bl) wz wf) := Lib.hid (by have hf0 := (fr5 Bl wz (.int .i64 x.o.kind) (.string x.o.space) (.string x.o.name) (.int .i64 vv) (.slice x.o.A x.o.n x.o.c)); rw [hwf]; exact ⟨hf0.os, hf0.tape, hf0.output, hf0.size, hf0.block⟩)
     have hrof := row_out HROz.out HFF.out HNe.out.1
     have hraf := row_out HRAz.out HFF.out HNe.out.2
     have HSF : Hid ((fun w' => w'.cell? ⟨BO, 0, none⟩ = some (.int .i64 x.o.kind) ∧ w'.cell? ⟨BO, 1, none⟩ = some (.string x.o.space) ∧ w'.cell? ⟨BO, 2, none⟩ = some (.string x.o.name) ∧ w'.cell? ⟨BO, 3, none⟩ = some (.int .i64 vv) ∧ w'.cell? ⟨BO, 4, none⟩ = some (.slice x.o.A x.o.n x.o.c) ∧ w'.cell? ⟨BA, 0, none⟩ = some (.int .i64 x.kind)) wf) := Lib.hid ⟨cell_of_row _ _ 0 _ _ _ hrof, cell_of_row _ _ 1 _ _ _ hrof, cell_of_row _ _ 2 _ _ _ hrof, cell_of_row _ _ 3 _ _ _ hrof, cell_of_row _ _ 4 _ _ _ hrof, cell_of_row _ _ 0 _ _ _ hraf⟩
     have e3 : wf.cell? ⟨Bl, 3, none⟩ = some (.int .i64 vv) := cell_of_row _ _ 3 _ _ _ HRF.out
     have fxf : ∀ k, wf.frozen? ⟨Bl, k, none⟩ = false := fun k => frozen_of_row _ _ _ _ _ HRF.out
     rw [← hwf]
     clear hwf d0 d1 d2 d3 d4 fx hrof hraf
     refine hK.out _ _ ?_ (fun hHeld => ?_)
     ·exact HSF.out
     clear hK K
     try simp only [pa]
     refine tk 5 hHeld ?_
     try simp only [pa]
     refine wpAnyH_done (by kernel_rfl) ?_ _
     refine NoPanic.normal ?_
     go_wp2_with fail
     go_roundg (gk - 1)
     case measure => exact HG.out.1
     case rel => exact ⟨i + 1, T + 1, dl, ⟨x.o.kind, x.o.space, x.o.name, ((T + 1 : Nat) : Int), x.o.A, x.o.n, x.o.c⟩, ext Q wy wc, m', L', M', rfl, rfl, rfl, by go_num, HG.out.2.1, Nat.succ_le_succ HG.out.2.2.1, HP2.out, ⟨HMD.out.nq2 HBC.out, HMD.out.up, heap_setCell_same _ _ 3 _ _ _ HRF.out, HOKx.out.2.1, HOKx.out.2.2.1, HOKx.out.2.2.2, .inr ⟨x.bs, HLa.out, HOKx.out.1⟩⟩, (HSD.out.below BZ.out).fr (HFF.out.setCell (fun _ => rfl) _) (fun k hk he => HMD.out.nq2 HBC.out (he ▸ hk)) (fun k he => he ▸ HMD.out.up) (fun k he => he ▸ NoNode.of HRlz.out (by decide))⟩
    ·have HNum : Hid (Calls Tryz.prog 15 #[.iface 338 (.pointer (some (ea 25)))] wc fun e w' => e = .returned (.int .i64 25) ∧ Below wc.heap.size wc w') := Lib.hid (by
      have h := Num_any her 25 (by decide)
      rw [errOf_d, dErr_form ea (by decide : (25 : Nat) ≠ 0)] at h
      exact h)
     have HM2 : Hid (Mid w2 wc (ext Q wy wc) M Bl gone T lv) := Lib.hid (HMD.out.turn HBC.out hfd rfl)
     have HLe := Lib.hid hleft
     rw [dErr_form ea (by decide : (25 : Nat) ≠ 0)]
     clear hsd hfd her hleft v0 v1 v2 v3 v4 y0
     go_wp2_with (first
      | (go_at_call 15; go_loud ((with_reducible refine HNum.out.mono ?_); rintro e wz ⟨rfl, hbz⟩; have BZ := Lib.hid hbz; clear hbz))
      | fail)
     go_meet
     exact ⟨T, gone, true, lv, ext Q wy wc, m', L', M, M', rfl, rfl, rfl, HG.out.2.2.2, HM2.out.below BZ.out, HSD.out.below BZ.out, HLe.out.ends⟩
   ·have k1 : ¬ (i : Int) < (n : Int) := by omega
    have HT : Hid (T ≤ 40) := Lib.hid (by have := HM.out.1; omega)
    have HPI := Lib.hid hpi
    have HMD := Lib.hid hmid
    have HSW := Lib.hid hsw
    clear hik hTi hpi hmid hsw hi
    go_wp2_with fail
    go_meet
    exact ⟨T, gone, false, lv, Q, m, L, M, M, rfl, rfl, rfl, HT.out, HMD.out, HSW.out, HPI.out.ends⟩
 case rest =>
  obtain ⟨T, gone, down, lv, Q, m, L, M, M1, rfl, rfl, rfl, hT, hmid, hsw, hok, hw, hcr⟩ := hcut
  obtain ⟨B, hB, L2, M2, hR2, hd2, hT2, ht2, hM2⟩ := hcr cr.n cr.scat cr.torn
  have HBb := Lib.hid (And.intro hB (And.intro hR2 (And.intro hd2 hT2)))
  have HMD := Lib.hid hmid
  have HSW := Lib.hid hsw
  have HOK := Lib.hid (And.intro hok hw)
  have HB2 : Hid (M2.tab.length ≤ 1000 ∧ M2.rev ≤ 1000) := Lib.hid ⟨by omega, by rcases hM2 with ⟨h, -⟩ | ⟨h, -⟩ <;> omega⟩
  have hlt := (Array.getElem?_eq_some_iff.1 HRow.out).1
  have hrow6 : wc.heap[w.heap.size]? = some (.cells #[.int .i64 cr.kind, .int .i64 cr.n, .int .i64 cr.torn, .int .u64 cr.scat, .int .i64 cr.o.kind, .string cr.o.space, .string cr.o.name, .int .i64 cr.o.ver, .slice cr.o.A cr.o.n cr.o.c, .bool cr.now] 28 (0, 0)) := ((hsw.bel.block w.heap.size (Nat.lt_of_lt_of_le hlt BB2.out.size)).trans (BB2.out.block w.heap.size hlt)).trans HRow.out
  have x1 : wc.cell? ⟨w.heap.size, 1, none⟩ = some (.int .i64 cr.n) := cell_of_row _ _ 1 _ _ _ hrow6
  have x2 : wc.cell? ⟨w.heap.size, 2, none⟩ = some (.int .i64 cr.torn) := cell_of_row _ _ 2 _ _ _ hrow6
  have x3 : wc.cell? ⟨w.heap.size, 3, none⟩ = some (.int .u64 cr.scat) := cell_of_row _ _ 3 _ _ _ hrow6
  have t0 : (0 : Int) ≤ (T : Int) := by omega
  have t1 : (T : Int) ≤ 40 := by omega
  have hwr : wrap64 ((T : Int) + 1) = (T : Int) + 1 := by unfold wrap64; omega
  clear hB hR2 hd2 hT2 ht2 hmid hsw hok hw hcr hlt hrow6 HMid0 HP0 HS6
  rcases hM2 with ⟨hrv, htb⟩ | ⟨hrv, rfl⟩
  ·have HRv : Hid (∀ W Qx mx gx, SW w2 W Qx w2.heap.size mx gx L2 M2 → Calls Tryz.prog 17 #[.pointer (some ⟨gx, 0, none⟩)] W fun e w' => e = .returned (.int .i64 (T : Int)) ∧ W = w') := Lib.hid fun W Qx mx gx h => by
    have h2 := Rev_any h
    rw [hrv] at h2
    exact h2
   have r1 : ¬ (T : Int) < (T : Int) := by omega
   have r2 : ¬ (T : Int) + 1 < (T : Int) := by omega
   by_cases hz : T = 0
   ·have z : ((T : Int) == 0) = true := by rw [hz]; rfl
    clear hz hrv htb
    go_wp2_with (first
     | (go_at_call 16; go_loud ((with_reducible refine (Crash_st HSW.out HOK.out.1 HOK.out.2 cr.n cr.scat cr.torn HS0.out HS1.out).mono ?_); rintro e w7 ⟨rfl, S7, hd7, hs7, hf7⟩; have D7 := Lib.hid hd7; have F7 := Lib.hid hf7; have SQ7 := Lib.hid hs7; clear hd7 hf7 hs7))
     | (go_at_call 9; go_loud ((with_reducible refine (reopen D7.out HE2.out HBb.out.1 rfl HBb.out.2.1 HBb.out.2.2.1 HBb.out.2.2.2 HB2.out.1 HB2.out.2).mono ?_); rintro e w8 ⟨gs2, Q8, m8, rfl, hs8, hf8⟩; have S8 := Lib.hid hs8; have F8 := Lib.hid hf8; clear hs8 hf8))
     | (go_at_call 17; go_loud ((with_reducible refine (HRv.out w8 Q8 m8 gs2 S8.out).mono ?_); rintro e w' ⟨rfl, rfl⟩))
     | fail)
    go_ret
    exact ⟨rfl, B2.out.trans (S8.out.bel.mono B2.out.size)⟩
   ·have z : ((T : Int) == 0) = false := by rw [beq_eq_false_iff_ne]; omega
    have HLast : Hid (∃ ld, LastI M2 gone lv ld ∧ RB w2 lv.A lv.n ld) := Lib.hid (by
     rcases HMD.out.last with h | ⟨ld, h1, h2⟩
     ·exact absurd h hz
     ·exact ⟨ld, h1.tab htb, h2⟩)
    have HGx := fun W Qx mx gx (h : SW w2 W Qx w2.heap.size mx gx L2 M2) => Get_st lv.kind lv.space lv.name h HMD.out.kind HMD.out.space HMD.out.name
    clear hz hrv htb
    cases gone with
    | true =>
     have HGet : Hid (∀ W Qx mx gx, SW w2 W Qx w2.heap.size mx gx L2 M2 → Calls Tryz.prog 11 #[.pointer (some ⟨gx, 0, none⟩), .int .i64 lv.kind, .string lv.space, .string lv.name] W fun e w' => ∃ v : OV, e = .returned (.tuple #[.agg #[.int .i64 v.kind, .string v.space, .string v.name, .int .i64 v.ver, .slice v.A v.n v.c], .bool false]) ∧ Below W.heap.size W w') := Lib.hid fun W Qx mx gx h => by
      refine (HGx W Qx mx gx h).mono ?_
      obtain ⟨ld, h1, -⟩ := HLast.out
      unfold LastI at h1
      rw [if_pos rfl] at h1
      rw [h1]
      rintro e w' ⟨v, rfl, -, hb⟩
      exact ⟨v, rfl, hb⟩
     clear HGx
     go_wp2_with (first
      | (go_at_call 16; go_loud ((with_reducible refine (Crash_st HSW.out HOK.out.1 HOK.out.2 cr.n cr.scat cr.torn HS0.out HS1.out).mono ?_); rintro e w7 ⟨rfl, S7, hd7, hs7, hf7⟩; have D7 := Lib.hid hd7; have F7 := Lib.hid hf7; have SQ7 := Lib.hid hs7; clear hd7 hf7 hs7))
      | (go_at_call 9; go_loud ((with_reducible refine (reopen D7.out HE2.out HBb.out.1 rfl HBb.out.2.1 HBb.out.2.2.1 HBb.out.2.2.2 HB2.out.1 HB2.out.2).mono ?_); rintro e w8 ⟨gs2, Q8, m8, rfl, hs8, hf8⟩; have S8 := Lib.hid hs8; have F8 := Lib.hid hf8; have HRw8 : Hid (w8.heap[Bl]? = some (.cells #[.int .i64 lv.kind, .string lv.space, .string lv.name, .int .i64 lv.ver, .slice lv.A lv.n lv.c] 26 (0, 0))) := Lib.hid (((hf8.block Bl (Nat.lt_of_lt_of_le HMD.out.lt F7.out.size) (fun h => (SQ7.out Bl h).elim HMD.out.nq (fun h => absurd HMD.out.lt (by omega)))).trans (F7.out.block Bl HMD.out.lt HMD.out.nq)).trans HMD.out.row); have HVB8 : Hid (∀ W, Below w8.heap.size w8 W → VB W Bl lv) := Lib.hid (fun W hW => VB.of_row ((hW.block Bl (Array.getElem?_eq_some_iff.1 HRw8.out).1).trans HRw8.out)); obtain ⟨y80, y81, y82, y83, y84⟩ := HVB8.out w8 (Below.refl _ _); clear hs8 hf8))
      | (go_at_call 17; go_loud ((with_reducible refine (HRv.out w8 Q8 m8 gs2 S8.out).mono ?_); rintro e w' ⟨rfl, rfl⟩))
      | (go_at_call 11; go_loud ((with_reducible refine (HGet.out w8 Q8 m8 gs2 S8.out).mono ?_); rintro e w9 ⟨v, rfl, hb9⟩; have B9 := Lib.hid hb9; clear hb9))
      | fail)
     go_ret
     exact ⟨rfl, (B2.out.trans (S8.out.bel.mono B2.out.size)).trans ((B9.out.alloc B9.out.size _).mono (Nat.le_trans B2.out.size S8.out.bel.size))⟩
    | false =>
     have HGet : Hid (∃ ld, RB w2 lv.A lv.n ld ∧ ∀ W Qx mx gx, SW w2 W Qx w2.heap.size mx gx L2 M2 → Calls Tryz.prog 11 #[.pointer (some ⟨gx, 0, none⟩), .int .i64 lv.kind, .string lv.space, .string lv.name] W fun e w' => ∃ v : OV, e = .returned (.tuple #[.agg #[.int .i64 v.kind, .string v.space, .string v.name, .int .i64 v.ver, .slice v.A v.n v.c], .bool true]) ∧ (v.kind = lv.kind ∧ v.space = lv.space ∧ v.name = lv.name ∧ v.ver = lv.ver ∧ RB w' v.A v.n ld) ∧ Below W.heap.size W w') := Lib.hid (by
      obtain ⟨ld, h1, h2⟩ := HLast.out
      unfold LastI at h1
      rw [if_neg (by decide)] at h1
      obtain ⟨o, h3, e1, e2, e3, e4, e5⟩ := h1
      refine ⟨ld, h2, fun W Qx mx gx h => (HGx W Qx mx gx h).mono ?_⟩
      rw [h3]
      rintro e w' ⟨v, rfl, hx, hb⟩
      obtain ⟨hx, -⟩ := hx o rfl
      exact ⟨v, rfl, ⟨hx.kind.trans e1, hx.space.trans e2, hx.name.trans e3, hx.ver.trans e4, by rw [← e5]; exact hx.rb⟩, hb⟩)
     clear HGx
     obtain ⟨ld, hld, hget⟩ := HGet.out
     have HLd := Lib.hid hld
     have HGet2 := Lib.hid hget
     clear hld hget HGet
     go_wp2_with (first
      | (go_at_call 16; go_loud ((with_reducible refine (Crash_st HSW.out HOK.out.1 HOK.out.2 cr.n cr.scat cr.torn HS0.out HS1.out).mono ?_); rintro e w7 ⟨rfl, S7, hd7, hs7, hf7⟩; have D7 := Lib.hid hd7; have F7 := Lib.hid hf7; have SQ7 := Lib.hid hs7; clear hd7 hf7 hs7))
      | (go_at_call 9; go_loud ((with_reducible refine (reopen D7.out HE2.out HBb.out.1 rfl HBb.out.2.1 HBb.out.2.2.1 HBb.out.2.2.2 HB2.out.1 HB2.out.2).mono ?_); rintro e w8 ⟨gs2, Q8, m8, rfl, hs8, hf8⟩; have S8 := Lib.hid hs8; have F8 := Lib.hid hf8; have HRw8 : Hid (w8.heap[Bl]? = some (.cells #[.int .i64 lv.kind, .string lv.space, .string lv.name, .int .i64 lv.ver, .slice lv.A lv.n lv.c] 26 (0, 0))) := Lib.hid (((hf8.block Bl (Nat.lt_of_lt_of_le HMD.out.lt F7.out.size) (fun h => (SQ7.out Bl h).elim HMD.out.nq (fun h => absurd HMD.out.lt (by omega)))).trans (F7.out.block Bl HMD.out.lt HMD.out.nq)).trans HMD.out.row); have HVB8 : Hid (∀ W, Below w8.heap.size w8 W → VB W Bl lv) := Lib.hid (fun W hW => VB.of_row ((hW.block Bl (Array.getElem?_eq_some_iff.1 HRw8.out).1).trans HRw8.out)); obtain ⟨y80, y81, y82, y83, y84⟩ := HVB8.out w8 (Below.refl _ _); clear hs8 hf8))
      | (go_at_call 17; go_loud ((with_reducible refine (HRv.out w8 Q8 m8 gs2 S8.out).mono ?_); rintro e w' ⟨rfl, rfl⟩))
      | (go_at_call 11; go_loud ((with_reducible refine (HGet2.out w8 Q8 m8 gs2 S8.out).mono ?_); rintro e w9 ⟨v, rfl, hx, hb9⟩; have HX9 := Lib.hid hx; have B9 : Hid (∀ ob, Below w8.heap.size w8 (w9.alloc ob)) := Lib.hid (fun ob => hb9.alloc hb9.size ob); have b90 : ∀ ob, (w9.alloc ob).cell? ⟨Bl, 0, none⟩ = some (.int .i64 lv.kind) := (fun ob => (HVB8.out _ (B9.out ob)).1); have b91 : ∀ ob, (w9.alloc ob).cell? ⟨Bl, 1, none⟩ = some (.string lv.space) := (fun ob => (HVB8.out _ (B9.out ob)).2.1); have b92 : ∀ ob, (w9.alloc ob).cell? ⟨Bl, 2, none⟩ = some (.string lv.name) := (fun ob => (HVB8.out _ (B9.out ob)).2.2.1); have b93 : ∀ ob, (w9.alloc ob).cell? ⟨Bl, 3, none⟩ = some (.int .i64 lv.ver) := (fun ob => (HVB8.out _ (B9.out ob)).2.2.2.1); have b94 : ∀ ob, (w9.alloc ob).cell? ⟨Bl, 4, none⟩ = some (.slice lv.A lv.n lv.c) := (fun ob => (HVB8.out _ (B9.out ob)).2.2.2.2); clear hx hb9))
      | (go_at_call 18; go_loud (obtain ⟨wz, hwz⟩ : ∃ W, W = w9.alloc (.cells #[.int .i64 v.kind, .string v.space, .string v.name, .int .i64 v.ver, .slice v.A v.n v.c] 26) := ⟨_, rfl⟩; have BZ : Hid (Below w8.heap.size w8 wz) := Lib.hid (by rw [hwz]; exact B9.out _); have XZ : Hid (RB wz v.A v.n ld) := Lib.hid (by rw [hwz]; exact HX9.out.2.2.2.2.keep (Keeps.of_below ((Below.refl w9.heap.size w9).alloc (Nat.le_refl _) _))); rw [← hwz]; (with_reducible refine (Same_any v lv ld wz HX9.out.1 HX9.out.2.1 HX9.out.2.2.1 HX9.out.2.2.2.1 XZ.out (HLd.out.keep (Keeps.of_below (S8.out.bel.trans (BZ.out.mono S8.out.bel.size))))).mono ?_); rintro e w10 ⟨rfl, hb10⟩; have B10 : Hid (Below w8.heap.size w8 w10) := Lib.hid (BZ.out.trans (hb10.mono BZ.out.size)); clear hb10))
      | fail)
     go_ret
     exact ⟨rfl, (B2.out.trans (S8.out.bel.mono B2.out.size)).trans (B10.out.mono (Nat.le_trans B2.out.size S8.out.bel.size))⟩
  ·have HRv : Hid (∀ W Qx mx gx, SW w2 W Qx w2.heap.size mx gx L2 M2 → Calls Tryz.prog 17 #[.pointer (some ⟨gx, 0, none⟩)] W fun e w' => e = .returned (.int .i64 ((T : Int) + 1)) ∧ W = w') := Lib.hid fun W Qx mx gx h => by
    have h2 := Rev_any h
    rw [hrv, Int.natCast_succ] at h2
    exact h2
   have r1 : ¬ (T : Int) + 1 < (T : Int) := by omega
   have r2 : ¬ (T : Int) + 1 < (T : Int) + 1 := by omega
   have r3 : (T : Int) < (T : Int) + 1 := by omega
   clear hrv
   go_wp2_with (first
    | (go_at_call 16; go_loud ((with_reducible refine (Crash_st HSW.out HOK.out.1 HOK.out.2 cr.n cr.scat cr.torn HS0.out HS1.out).mono ?_); rintro e w7 ⟨rfl, S7, hd7, hs7, hf7⟩; have D7 := Lib.hid hd7; have F7 := Lib.hid hf7; have SQ7 := Lib.hid hs7; clear hd7 hf7 hs7))
    | (go_at_call 9; go_loud ((with_reducible refine (reopen D7.out HE2.out HBb.out.1 rfl HBb.out.2.1 HBb.out.2.2.1 HBb.out.2.2.2 HB2.out.1 HB2.out.2).mono ?_); rintro e w8 ⟨gs2, Q8, m8, rfl, hs8, hf8⟩; have S8 := Lib.hid hs8; have F8 := Lib.hid hf8; clear hs8 hf8))
    | (go_at_call 17; go_loud ((with_reducible refine (HRv.out w8 Q8 m8 gs2 S8.out).mono ?_); rintro e w' ⟨rfl, rfl⟩))
    | fail)
   go_ret
   exact ⟨rfl, B2.out.trans (S8.out.bel.mono B2.out.size)⟩
end Go.Proofs.YtfmagnpmjlppiaaGreatDoor

/- StorePower: its contract over whatever can be read. -/
namespace Go.Proofs.YtfmagnpmjlppiaaGreatDoor
open Go.RowKit Go.ChangeShapes Go.WideShapes Go.ChangeAt Go.Deep
theorem EW.of_errs {w : World} {ea : Nat → Addr} (he : Errs w ea) (hs : ShaTabs w) : EW w ea :=
 ⟨hs, ⟨he.cell 1 (by decide) (by decide), he.cell 25 (by decide) (by decide), he.cell 26 (by decide) (by decide)⟩, he.cell 3 (by decide) (by decide), Nat.le_trans (by decide) hs.lt⟩

set_option maxRecDepth 100000 in
theorem storePower_contract {H : Type} {enc : TypeId × Value → H} {W : World} {base : Nat} {args : Array Value} {ds : List (DataW H)} {p : List MemPlace}
  (hval : ∀ (j : Nat) t v, Tryz.f3.params[j]? = some t → args[j]? = some v → Value.okWide Tryz.prog W .any base t v)
  (hA : DataW.TrodAll enc Tryz.prog W 0 (fun _ => true) true Tryz.f3.params.toList args.toList ds p) (hL : laidMetH Tryz.prog Rows.storePowerRow.laid W) :
  Calls Tryz.prog 3 args W fun e w' => e = .returned (.bool true) ∧ Below W.heap.size W w' := by
 rw [Tryz.params3] at hA hval
 obtain ⟨v0, v1, v2, d0, d1, d2, p0, p1, p2, rfl, rfl, rfl, ⟨f0, h0⟩, ⟨f1, h1⟩, ⟨f2, h2⟩⟩ := trodAll_three hA
 obtain ⟨a0, n0, c0, rfl⟩ := okWide_slice Tryz.underlying22 (hval 0 _ v0 rfl rfl)
 obtain ⟨power, rfl⟩ := okWide_int Tryz.underlying3 (hval 1 _ v1 rfl rfl)
 obtain ⟨cs, rfl, hcs⟩ := okWide_struct Tryz.underlying28 (hval 2 _ v2 rfl rfl)
 obtain ⟨B, m, d, l, e', ha, hc', hm'⟩ := open_acts20 h0
 obtain ⟨cr, rfl, -, hs0, hs1⟩ := open_act20 h2
 obtain ⟨ea, he⟩ := Errs.of_laid hL (by kernel_rfl) (by kernel_rfl)
 have hs := ShaTabs.of_laid hL (by kernel_rfl) (by simp [Rows.storePowerRow]) (by simp [Rows.storePowerRow])
 rw [e']
 exact StorePower_any B m d l power cr W ha (Nat.le_trans hc' hm') hs0 hs1 (EW.of_errs he hs) he
end Go.Proofs.YtfmagnpmjlppiaaGreatDoor
