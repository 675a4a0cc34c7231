/- DiskKeeps: its walk. -/
import Derived.Test.YtgiaifglkecdjaaDoorKeepA
import Derived.Test.YtgiaifglkecdjaaDoorKeepN
import Derived.Deep.LoopGhost
namespace Go.Proofs.YtgiaifglkecdjaaDoor
open Go.RowKit

set_option maxHeartbeats 2000000 in
set_option maxRecDepth 100000 in
theorem keep_exit (fr : Act) (n : Nat) (w : World) (Q : Exit → Act → World → Prop) (hfr : IsK fr) (h38 : slotK fr 38 = .int .i64 (n : Int)) (h39 : slotK fr 39 = .int .i64 (n : Int))
    (hQ : ∀ fr' : Act, IsK fr' → slotK fr' 5 = slotK fr 5 → slotK fr' 6 = slotK fr 6 → slotK fr' 7 = slotK fr 7 → slotK fr' 8 = slotK fr 8 → Q (.exit 0) fr' w) : Code.wp Tryd.prog (lpC Tryd.f4.body 0) Q fr w := by
  have HQ := Lib.hid hQ
  clear hQ
  unfold IsK at hfr
  generalize slotK fr = f at *
  subst hfr
  unfold KF
  rw [h38, h39]
  conv => arg 2; whnf
  clear h38 h39
  go_wp2
  exact HQ.out _ rfl rfl rfl rfl rfl

set_option maxRecDepth 100000 in
theorem keep_loop (fr : Act) (A : Option Addr) (n cw g : Nat) (l : List Act17) (m : DM) {ea : Nat → Addr} (w0 w : World) (Q : Exit → Act → World → Prop) (v5 v6 v7 : Value) (hfr : IsK fr) (h5 : slotK fr 5 = v5) (h6 : slotK fr 6 = v6) (h7 : slotK fr 7 = v7) (h8 : slotK fr 8 = .pointer (some ⟨g, 0, none⟩))
    (h37 : slotK fr 37 = .slice A n cw) (h38 : slotK fr 38 = .int .i64 (n : Int)) (h39 : slotK fr 39 = .int .i64 0) (hl : RActs17 w0 A n l) (hn : n ≤ 60) (ho : l.any over17 = false) (hS : DS w0 w g m) (hG : m.Good 0) (hE : DErrs w0 ea) (h26 : 26 ≤ g)
    (hQ : ∀ (fr' : Act) (w' : World) (m' : DM), IsK fr' → slotK fr' 5 = v5 → slotK fr' 6 = v6 → slotK fr' 7 = v7 → slotK fr' 8 = .pointer (some ⟨g, 0, none⟩) → DS w0 w' g m' → m'.Good n → Q (.exit 0) fr' w') :
    Code.wp Tryd.prog (.loop (lpC Tryd.f4.body 0)) Q fr w := by
  refine wp_loop_ghost (fun N a w' => ∃ (i : Nat) (m' : DM), i + N = n ∧ IsK a ∧ slotK a 5 = v5 ∧ slotK a 6 = v6 ∧ slotK a 7 = v7 ∧ slotK a 8 = .pointer (some ⟨g, 0, none⟩) ∧ slotK a 37 = .slice A n cw ∧ slotK a 38 = .int .i64 (n : Int) ∧ slotK a 39 = .int .i64 (i : Int) ∧ DS w0 w' g m' ∧ m'.Good i) n ⟨0, m, by omega, hfr, h5, h6, h7, h8, h37, h38, h39, hS, hG⟩ ?_
  rintro N a w1 ⟨i, m1, hiN, a0, a5, a6, a7, a8, a37, a38, a39, hs, hg⟩
  by_cases hi : i < n
  · obtain ⟨b, o, rfl, hc⟩ := hl.2.2 (by omega)
    obtain ⟨c0, c1, c2, c3, c4, c5⟩ := hc i hi
    have e : l.getD i default = l[i]'(by rw [hl.1]; exact hi) := by rw [List.getD_eq_getElem?_getD, List.getElem?_eq_getElem (by rw [hl.1]; exact hi)]; rfl
    have hm : l[i]'(by rw [hl.1]; exact hi) ∈ l := List.getElem_mem _
    rw [← e] at hm
    have hr := (hl.2.1 _ hm).1
    have hov : over17 (l.getD i default) = false := by
      have := List.any_eq_false.1 ho _ hm
      simpa using this
    have hb : (l.getD i default).bs.length ≤ 200 := by
      have := of_decide_eq_false hov
      omega
    have k := Keeps.of_below hs.bel
    replace c0 := k _ _ c0
    replace c1 := k _ _ c1
    replace c2 := k _ _ c2
    replace c3 := k _ _ c3
    replace c4 := k _ _ c4
    replace c5 := k _ _ c5
    replace hr := hr.keep k
    generalize l.getD i default = x at *
    have done : ∀ (fr' : Act) (w' : World), IsK fr' → slotK fr' 5 = slotK a 5 → slotK fr' 6 = slotK a 6 → slotK fr' 7 = slotK a 7 → slotK fr' 8 = .pointer (some ⟨g, 0, none⟩) → slotK fr' 37 = .slice (some ⟨b, o, none⟩) n cw → slotK fr' 38 = .int .i64 (n : Int) → slotK fr' 39 = .int .i64 ((i + 1 : Nat) : Int) → DS w0 w' g (actD m1 x) →
        Exit.then (fun a' w' => ∃ n', n' < N ∧ ∃ (i : Nat) (m' : DM), i + n' = n ∧ IsK a' ∧ slotK a' 5 = v5 ∧ slotK a' 6 = v6 ∧ slotK a' 7 = v7 ∧ slotK a' 8 = .pointer (some ⟨g, 0, none⟩) ∧ slotK a' 37 = .slice (some ⟨b, o, none⟩) n cw ∧ slotK a' 38 = .int .i64 (n : Int) ∧ slotK a' 39 = .int .i64 (i : Int) ∧ DS w0 w' g m' ∧ m'.Good i) Q .normal fr' w' :=
      fun fr' w' b0 b5 b6 b7 b8 b37 b38 b39 hd => ⟨N - 1, by omega, i + 1, _, by omega, b0, b5.trans a5, b6.trans a6, b7.trans a7, b8, b37, b38, b39, hd, hg.act x⟩
    by_cases hk : x.kind = 1
    · exact keep_cut a b o n cw i x w1 _ a0 a8 a37 a38 a39 hi hn hk c0 c1 c2 c3 c4 c5 hs hg hE h26 hr hb done
    · exact keep_write a b o n cw i x w1 _ a0 a8 a37 a38 a39 hi hn hk c0 c1 c2 c3 c4 c5 hs hg hE h26 hr hb done
  · obtain rfl : i = n := by omega
    exact keep_exit a i w1 _ a0 a38 a39 fun fr' d0 d5 d6 d7 d8 => hQ fr' w1 m1 d0 (d5.trans a5) (d6.trans a6) (d7.trans a7) (d8.trans a8) hs hg

/-- "appended" -/
def app8 : List UInt8 := [97, 112, 112, 101, 110, 100, 101, 100]
theorem app_cut {L L' : List UInt8} {j : Nat} (h : L' = L ++ app8.take j) (hl : L'.length = L.length + j) : (L' == (((⟨L.toArray⟩ : ByteArray) ++ ⟨#[97, 112, 112, 101, 110, 100, 101, 100]⟩).extract 0 L'.length).toList) = true := by
  rw [beq_iff_eq, ByteArray.toList_eq, ByteArray.data_extract, ByteArray.data_append, hl]
  have e : ((L.toArray ++ #[97, 112, 112, 101, 110, 100, 101, 100]).extract 0 (L.length + j)).toList = (L ++ app8).take (L.length + j) := by
    simp [app8]
  rw [h]
  show _ = ((L.toArray ++ #[97, 112, 112, 101, 110, 100, 101, 100]).extract 0 (L.length + j)).toList
  have e2 : L.take (L.length + j) = L := List.take_of_length_le (by omega)
  rw [e, List.take_append, e2, Nat.add_sub_cancel_left]
theorem dErr_full (ea : Nat → Addr) : dErr ea 26 = .iface 221 (.pointer (some (ea 26))) := rfl

set_option maxHeartbeats 4000000 in
set_option maxRecDepth 100000 in
theorem DiskKeeps_any (A : Option Addr) (n c : Nat) (l : List Act17) (cr : Act17) (w : World) (hl : RActs17 w A n l) (hn : n ≤ maxLen) (hsc0 : 0 ≤ cr.scat) (hsc1 : cr.scat ≤ 18446744073709551615) {ea : Nat → Addr} (hE : DErrs w ea) :
    Calls Tryd.prog 4 #[.slice A n c, .agg #[.int .i64 cr.kind, .int .i64 cr.area, .int .i64 cr.n, .int .i64 cr.torn, .int .u64 cr.scat, cr.v]] w fun e w' => e = .returned (.bool true) ∧ Below w.heap.size w w' := by
  have B0 := Lib.hid ((Below.refl w.heap.size w).alloc (Nat.le_refl _) (.cells #[.int .i64 cr.kind, .int .i64 cr.area, .int .i64 cr.n, .int .i64 cr.torn, .int .u64 cr.scat, cr.v] 38))
  have R2 := Lib.hid (cell_of_row _ _ 2 _ _ _ (heap_alloc_new w (.cells #[.int .i64 cr.kind, .int .i64 cr.area, .int .i64 cr.n, .int .i64 cr.torn, .int .u64 cr.scat, cr.v] 38)))
  have R3 := Lib.hid (cell_of_row _ _ 3 _ _ _ (heap_alloc_new w (.cells #[.int .i64 cr.kind, .int .i64 cr.area, .int .i64 cr.n, .int .i64 cr.torn, .int .u64 cr.scat, cr.v] 38)))
  have R4 := Lib.hid (cell_of_row _ _ 4 _ _ _ (heap_alloc_new w (.cells #[.int .i64 cr.kind, .int .i64 cr.area, .int .i64 cr.n, .int .i64 cr.torn, .int .u64 cr.scat, cr.v] 38)))
  unfold Act17.v at B0 R2 R3 R4 ⊢
  have HL := Lib.hid hl
  have HE := Lib.hid hE
  have h26 := hE.lt
  have HLG : Hid (∀ W, Keeps w W → Calls Tryd.prog 20 #[.slice A n c] W fun e w' => e = .returned (.bool (longD l)) ∧ Below W.heap.size W w') := Lib.hid fun W k => long17_any A n c l W (hl.keep k) hn
  clear hE hl
  cases hlg : longD l with
  | true =>
    rw [hlg] at HLG
    clear hlg
    go_enter Tryd.func4, Tryd.ntmps4
    go_wp2_with (first
      | (go_at_call 19; refine (alive17_any _ (HE.out.keep (Keeps.of_below B0.out))).mono ?_; rintro e w1 ⟨rfl, hb1⟩; have B1 := Lib.hid (B0.out.trans (hb1.mono B0.out.size)); clear hb1)
      | (go_at_call 20; refine (HLG.out w1 (Keeps.of_below B1.out)).mono ?_; rintro e w2 ⟨rfl, hb2⟩; replace hb2 := Lib.hid hb2))
    go_ret
    exact ⟨rfl, B1.out.trans (hb2.out.mono B1.out.size)⟩
  | false =>
    rw [hlg] at HLG
    have hn60 : n ≤ 60 := by
      unfold longD at hlg
      rw [Bool.or_eq_false_iff, decide_eq_false_iff_not, HL.out.1] at hlg
      omega
    have HO : Hid (l.any over17 = false) := Lib.hid (by unfold longD at hlg; exact (Bool.or_eq_false_iff.1 hlg).2)
    have HG0 := Lib.hid (show (DM.mk 1000 (fun _ => []) [] false 0 false).Good 0 from ⟨dm0_ok 1000 (by decide) (by decide), ⟨rfl, rfl⟩, Nat.le_refl _⟩)
    obtain ⟨m0, hm0⟩ : ∃ m0, m0 = DM.mk 1000 (fun _ => []) [] false 0 false := ⟨_, rfl⟩
    have HNew : Hid (∀ W, Below w.heap.size w W → Calls Tryd.prog 21 #[.int .i64 1000] W fun e w' => e = .returned (.tuple #[.pointer (some ⟨W.heap.size, 0, none⟩), .nilIface]) ∧ DS w w' W.heap.size m0) := Lib.hid fun W hb => by rw [hm0]; exact New_S 1000 hb (by decide) (by decide)
    rw [← hm0] at HG0
    clear hlg hm0
    go_enter Tryd.func4, Tryd.ntmps4
    go_wp2_with (first
      | (go_at_call 19; refine (alive17_any _ (HE.out.keep (Keeps.of_below B0.out))).mono ?_; rintro e w1 ⟨rfl, hb1⟩; have B1 := Lib.hid (B0.out.trans (hb1.mono B0.out.size)); have K1 := Lib.hid (Keeps.of_below (hb1)); clear hb1)
      | (go_at_call 20; refine (HLG.out w1 (Keeps.of_below B1.out)).mono ?_; rintro e w2 ⟨rfl, hb2⟩; have B2 := Lib.hid (B1.out.trans (hb2.mono B1.out.size)); have k2 : w2.cell? ⟨w.heap.size, 2, none⟩ = some (.int .i64 cr.n) := Keeps.of_below hb2 _ _ (K1.out _ _ R2.out); have k3 : w2.cell? ⟨w.heap.size, 3, none⟩ = some (.int .i64 cr.torn) := Keeps.of_below hb2 _ _ (K1.out _ _ R3.out); have k4 : w2.cell? ⟨w.heap.size, 4, none⟩ = some (.int .u64 cr.scat) := Keeps.of_below hb2 _ _ (K1.out _ _ R4.out); clear hb2))
    go_quiet (fail)
    go_wp2_with (first
      | (go_at_call 21; refine (HNew.out _ (below_drewN B2.out nq)).mono ?_; rintro e w3 ⟨rfl, hs3⟩; replace hs3 := Lib.hid hs3))
    have HG26 : Hid (26 ≤ w2.heap.size) := Lib.hid (by have := B2.out.size; omega)
    refine keep_loop _ A n c w2.heap.size l m0 w w3 _ (.int .i64 cr.n) (.int .u64 cr.scat) (.int .i64 cr.torn) rfl rfl rfl rfl rfl rfl rfl rfl HL.out hn60 HO.out hs3.out HG0.out HE.out HG26.out ?_
    intro fr1 w4 m1 d0 d5 d6 d7 d8 hs4 hg4
    obtain ⟨q1, q2, q3⟩ := hg4.sync
    obtain ⟨m2, hm2⟩ : ∃ m2, m2 = m1.sync := ⟨_, rfl⟩
    rw [← hm2] at q1 q2 q3
    have HM2 := Lib.hid hm2.symm
    have G2 := Lib.hid q1
    have W2 := Lib.hid q2
    have E2 := Lib.hid q3
    have HS4 := Lib.hid hs4
    have G4 := Lib.hid hg4
    obtain ⟨L0, hL0⟩ : ∃ L, m2.b (3 + 0) = L := ⟨_, rfl⟩
    obtain ⟨L1, hL1⟩ : ∃ L, m2.b (3 + 1) = L := ⟨_, rfl⟩
    obtain ⟨L2, hL2⟩ : ∃ L, m2.b (3 + 2) = L := ⟨_, rfl⟩
    have HL0 := Lib.hid hL0
    have HL1 := Lib.hid hL1
    have HL2 := Lib.hid hL2
    have W2' : Hid (m2.waits.length ≤ 1000) := Lib.hid (by rw [q2]; exact Nat.zero_le _)
    obtain ⟨m3, hm3⟩ : ∃ m3, m3 = m2.crash cr.n cr.scat cr.torn := ⟨_, rfl⟩
    have HM3 := Lib.hid hm3.symm
    have G3 : Hid (m3.Good 0) := Lib.hid (by rw [hm3]; exact DM.crash_good q1.ok _ _ _)
    have W3 : Hid (m3.waits = []) := Lib.hid (by rw [hm3]; rfl)
    have K0 : Hid (m3.b (3 + 0) = L0) := Lib.hid (by rw [hm3, (DM.crash_keeps q2 q3 _ _ _ (by decide)).1]; exact hL0)
    have K1 : Hid (m3.b (3 + 1) = L1) := Lib.hid (by rw [hm3, (DM.crash_keeps q2 q3 _ _ _ (by decide)).1]; exact hL1)
    have K2 : Hid (m3.b (3 + 2) = L2) := Lib.hid (by rw [hm3, (DM.crash_keeps q2 q3 _ _ _ (by decide)).1]; exact hL2)
    have K2' : Hid (m3.b 2 = L2) := Lib.hid (by rw [hm3, (DM.crash_keeps q2 q3 _ _ _ (i := 2) (by decide)).2]; exact hL2)
    clear q1 q2 q3 hm2 hs4 hg4 hL0 hL1 hL2 hm3
    unfold IsK at d0
    generalize slotK fr1 = f at *
    subst d0
    unfold KF
    rw [d5, d6, d7, d8]
    clear d5 d6 d7 d8
    go_wp2_with (go_at_call 24; refine (Sync_S HS4.out G4.out.ok G4.out.plain.dead HE.out HG26.out).mono ?_; rw [HM2.out]; rintro e w5 ⟨rfl, hs5⟩; replace hs5 := Lib.hid hs5)
    obtain ⟨y0, hy0⟩ : ∃ W, W = w5.alloc (.cells #[.string ⟨#[]⟩, .string ⟨#[]⟩, .string ⟨#[]⟩] 46) := ⟨_, rfl⟩
    rw [← hy0]
    have N0 : Hid (DSn w y0 w2.heap.size m2 w5.heap.size) := Lib.hid (by rw [hy0]; exact DSn.made hs5.out _)
    have Row0 : Hid (y0.heap[w5.heap.size]? = some (.cells #[.string ⟨#[]⟩, .string ⟨#[]⟩, .string ⟨#[]⟩] 46 (0, 0))) := Lib.hid (by rw [hy0]; exact heap_alloc_new w5 _)
    clear hy0
    refine wp_loop_rounds 4 ?_
    rw [rounds_succ]
    go_wp2_with (go_at_call 25; refine (Read_N 0 L0 HL0.out (by decide) N0.out G2.out.ok G2.out.plain.2).mono ?_; rintro e x0 ⟨A0, c0, rfl, hc0, -, -, hs0, hq0⟩; have hrow := hq0.trans Row0.out; have p0 : x0.cell? ⟨w5.heap.size, 0, none⟩ = some (.string ⟨#[]⟩) := cell_of_row _ _ 0 _ _ _ hrow; have f0 : x0.frozen? ⟨w5.heap.size, 0, none⟩ = false := frozen_of_row _ _ _ _ _ hrow; replace hs0 := Lib.hid hs0; have HRow0 := Lib.hid hrow; clear hrow hq0)
    obtain ⟨y0, hy0⟩ : ∃ W, W = x0.setCell ⟨w5.heap.size, 0, none⟩ (.string ⟨L0.toArray⟩) := ⟨_, rfl⟩
    rw [← hy0]
    have Row1 := Lib.hid (heap_setCell_same x0 _ 0 _ _ (.string ⟨L0.toArray⟩) HRow0.out)
    rw [← hy0] at Row1
    have N1 : Hid (DSn w y0 w2.heap.size m2 w5.heap.size) := Lib.hid (hs0.out.store (by rw [hy0]; exact (Fr.refl (fun k => k = w5.heap.size) x0).setCell (p := ⟨w5.heap.size, 0, none⟩) (fun _ => rfl) _))
    clear hy0 p0 f0 hc0
    rw [rounds_succ]
    go_wp2_with (go_at_call 25; refine (Read_N 1 L1 HL1.out (by decide) N1.out G2.out.ok G2.out.plain.2).mono ?_; rintro e x1 ⟨A1, c1, rfl, hc1, -, -, hs1, hq1⟩; have hrow := hq1.trans Row1.out; have p1 : x1.cell? ⟨w5.heap.size, 1, none⟩ = some (.string ⟨#[]⟩) := cell_of_row _ _ 1 _ _ _ hrow; have f1 : x1.frozen? ⟨w5.heap.size, 1, none⟩ = false := frozen_of_row _ _ _ _ _ hrow; replace hs1 := Lib.hid hs1; have HRow1 := Lib.hid hrow; clear hrow hq1)
    obtain ⟨y1, hy1⟩ : ∃ W, W = x1.setCell ⟨w5.heap.size, 1, none⟩ (.string ⟨L1.toArray⟩) := ⟨_, rfl⟩
    rw [← hy1]
    have Row2 := Lib.hid (heap_setCell_same x1 _ 1 _ _ (.string ⟨L1.toArray⟩) HRow1.out)
    rw [← hy1] at Row2
    have N2 : Hid (DSn w y1 w2.heap.size m2 w5.heap.size) := Lib.hid (hs1.out.store (by rw [hy1]; exact (Fr.refl (fun k => k = w5.heap.size) x1).setCell (p := ⟨w5.heap.size, 1, none⟩) (fun _ => rfl) _))
    clear hy1 p1 f1 hc1
    rw [rounds_succ]
    go_wp2_with (go_at_call 25; refine (Read_N 2 L2 HL2.out (by decide) N2.out G2.out.ok G2.out.plain.2).mono ?_; rintro e x2 ⟨A2, c2, rfl, hc2, -, -, hs2, hq2⟩; have hrow := hq2.trans Row2.out; have p2 : x2.cell? ⟨w5.heap.size, 2, none⟩ = some (.string ⟨#[]⟩) := cell_of_row _ _ 2 _ _ _ hrow; have f2 : x2.frozen? ⟨w5.heap.size, 2, none⟩ = false := frozen_of_row _ _ _ _ _ hrow; replace hs2 := Lib.hid hs2; have HRow2 := Lib.hid hrow; clear hrow hq2)
    obtain ⟨y2, hy2⟩ : ∃ W, W = x2.setCell ⟨w5.heap.size, 2, none⟩ (.string ⟨L2.toArray⟩) := ⟨_, rfl⟩
    rw [← hy2]
    have Row3 := Lib.hid (heap_setCell_same x2 _ 2 _ _ (.string ⟨L2.toArray⟩) HRow2.out)
    rw [← hy2] at Row3
    have N3 : Hid (DSn w y2 w2.heap.size m2 w5.heap.size) := Lib.hid (hs2.out.store (by rw [hy2]; exact (Fr.refl (fun k => k = w5.heap.size) x2).setCell (p := ⟨w5.heap.size, 2, none⟩) (fun _ => rfl) _))
    clear hy2 p2 f2 hc2
    rw [rounds_succ]
    go_wp2_with (go_at_call 26; refine (Crash_N N3.out G2.out.ok W2'.out cr.n cr.scat cr.torn hsc0 hsc1).mono ?_; rw [HM3.out]; rintro e w6 ⟨rfl, hs6, hq6⟩; have HS6 := Lib.hid hs6; have Row6 := Lib.hid (hq6.trans Row3.out); clear hs6 hq6)
    refine wp_loop_rounds 4 ?_
    rw [rounds_succ]
    go_wp2_with (go_at_call 25; refine (Read_N 0 L0 K0.out (by decide) HS6.out G3.out.ok G3.out.plain.2).mono ?_; rintro e u0 ⟨A0, c0, rfl, -, hc0, -, hs0, hq0⟩; have hrow := hq0.trans Row6.out; have p0 : u0.cell? ⟨w5.heap.size, 0, none⟩ = some (.string ⟨L0.toArray⟩) := cell_of_row _ _ 0 _ _ _ hrow; replace hs0 := Lib.hid hs0; have HRow0 := Lib.hid hrow; clear hrow hq0)
    go_quiet (fail)
    go_wp2
    obtain ⟨z0, hz0⟩ : ∃ W, W = u0.drewN nq := ⟨_, rfl⟩
    rw [← hz0]
    have M0 : Hid (DSn w z0 w2.heap.size m3 w5.heap.size) := Lib.hid (by rw [hz0]; exact hs0.out.below (below_drewN (Below.refl _ _) nq))
    have Q0 : Hid (z0.heap[w5.heap.size]? = some (.cells #[.string ⟨L0.toArray⟩, .string ⟨L1.toArray⟩, .string ⟨L2.toArray⟩] 46 (0, 0))) := Lib.hid (by rw [hz0]; exact HRow0.out)
    clear hz0 p0 hc0
    rw [rounds_succ]
    go_wp2_with (go_at_call 25; refine (Read_N 1 L1 K1.out (by decide) M0.out G3.out.ok G3.out.plain.2).mono ?_; rintro e u1 ⟨A1, c1, rfl, -, hc1, -, hs1, hq1⟩; have hrow := hq1.trans Q0.out; have p1 : u1.cell? ⟨w5.heap.size, 1, none⟩ = some (.string ⟨L1.toArray⟩) := cell_of_row _ _ 1 _ _ _ hrow; replace hs1 := Lib.hid hs1; have HRow1 := Lib.hid hrow; clear hrow hq1)
    go_quiet (fail)
    go_wp2
    obtain ⟨z1, hz1⟩ : ∃ W, W = u1.drewN nq := ⟨_, rfl⟩
    rw [← hz1]
    have M1 : Hid (DSn w z1 w2.heap.size m3 w5.heap.size) := Lib.hid (by rw [hz1]; exact hs1.out.below (below_drewN (Below.refl _ _) nq))
    have Q1 : Hid (z1.heap[w5.heap.size]? = some (.cells #[.string ⟨L0.toArray⟩, .string ⟨L1.toArray⟩, .string ⟨L2.toArray⟩] 46 (0, 0))) := Lib.hid (by rw [hz1]; exact HRow1.out)
    clear hz1 p1 hc1
    rw [rounds_succ]
    go_wp2_with (go_at_call 25; refine (Read_N 2 L2 K2.out (by decide) M1.out G3.out.ok G3.out.plain.2).mono ?_; rintro e u2 ⟨A2, c2, rfl, -, hc2, -, hs2, hq2⟩; have hrow := hq2.trans Q1.out; have p2 : u2.cell? ⟨w5.heap.size, 2, none⟩ = some (.string ⟨L2.toArray⟩) := cell_of_row _ _ 2 _ _ _ hrow; replace hs2 := Lib.hid hs2; have HRow2 := Lib.hid hrow; clear hrow hq2)
    go_quiet (fail)
    go_wp2
    obtain ⟨z2, hz2⟩ : ∃ W, W = u2.drewN nq := ⟨_, rfl⟩
    rw [← hz2]
    have M2 : Hid (DSn w z2 w2.heap.size m3 w5.heap.size) := Lib.hid (by rw [hz2]; exact hs2.out.below (below_drewN (Below.refl _ _) nq))
    have Q2 : Hid (z2.heap[w5.heap.size]? = some (.cells #[.string ⟨L0.toArray⟩, .string ⟨L1.toArray⟩, .string ⟨L2.toArray⟩] 46 (0, 0))) := Lib.hid (by rw [hz2]; exact HRow2.out)
    clear hz2 p2 hc2
    rw [rounds_succ]
    have kc := fun (w : World) (C : Array Value) (n c : Nat) => Lib.run_convert_bytes_const (P := Tryd.prog) w 22 5 C n c Tryd.underlying22 Tryd.underlying5
    have R8 : Hid (∀ W : World, RB (W.alloc (.cells #[.int .u8 97, .int .u8 112, .int .u8 112, .int .u8 101, .int .u8 110, .int .u8 100, .int .u8 101, .int .u8 100] 5 (8, 9))) (some ⟨W.heap.size, 0, none⟩) 8 app8) := Lib.hid fun W => rb_lit (l := app8) (heap_alloc_new W _)
    have eight : Hid (8 ≤ 1048576) := Lib.hid (by decide)
    have W3' : Hid (m3.waits.length ≤ 1000) := Lib.hid (by rw [W3.out]; exact Nat.zero_le _)
    have HLL : L2.length ≤ 1048576 := by have := G2.out.ok.len (3 + 2) (by decide); rw [HL2.out] at this; exact this
    by_cases hfree : m3.free < 8
    · have E26 : Hid (m3.writeE 2 (L2.length : Int) app8.length = 26) := Lib.hid (by rw [DM.end_cases G3.out.plain L2 app8 K2.out]; exact if_pos hfree)
      have WE : Hid (m3.write 2 (L2.length : Int) app8 = m3) := Lib.hid (DM.write_of E26.out (by decide) (by decide))
      have qf : decide (m3.free < 8) = true := decide_eq_true hfree
      clear hfree
      go_wp2_with (first
        | (go_at_call 27; refine (Size_S 2 (by decide) M2.out.ds).mono ?_; rw [K2.out]; rintro e w' ⟨rfl, rfl⟩)
        | (go_at_call 23; refine (Write_N 2 (L2.length : Int) _ 8 8 app8 (M2.out.below ((Below.refl _ z2).alloc (Nat.le_refl _) _)) G3.out.ok HE.out HG26.out (R8.out z2) eight.out W3'.out).mono ?_; rw [E26.out, dErr_full, WE.out]; rintro e w7 ⟨rfl, hs7, -⟩; replace hs7 := Lib.hid hs7)
        | (go_at_call 28; refine (Free_S hs7.out.ds G3.out.ok).mono ?_; rintro e w' ⟨rfl, rfl⟩))
      go_ret
      exact ⟨rfl, hs7.out.bel⟩
    · have E0 : Hid (m3.writeE 2 (L2.length : Int) app8.length = 0) := Lib.hid (by rw [DM.end_cases G3.out.plain L2 app8 K2.out]; exact if_neg hfree)
      obtain ⟨m4, hm4⟩ : ∃ m4, m4 = m3.write 2 (L2.length : Int) app8 := ⟨_, rfl⟩
      have HM4 := Lib.hid hm4.symm
      have G4' : Hid m4.Ok := Lib.hid (by rw [hm4]; exact G3.out.ok.write _ _ _)
      have W4' : Hid (m4.waits.length ≤ 1000) := Lib.hid (by
        have := DM.write_waits G3.out.plain 2 (L2.length : Int) app8
        rw [← hm4, W3.out] at this
        exact Nat.le_trans this (by decide))
      obtain ⟨m5, hm5⟩ : ∃ m5, m5 = m4.crash cr.n cr.scat cr.torn := ⟨_, rfl⟩
      have HM5 := Lib.hid hm5.symm
      have G5 : Hid (m5.Good 0) := Lib.hid (by rw [hm5]; exact DM.crash_good G4'.out _ _ _)
      obtain ⟨j, hj, hb5⟩ := DM.crash_torn G3.out.plain W3.out L2 app8 K2'.out E0.out cr.n cr.scat cr.torn
      rw [← hm4, ← hm5] at hb5
      obtain ⟨L', hL'⟩ : ∃ L', L' = L2 ++ app8.take j := ⟨_, rfl⟩
      rw [← hL'] at hb5
      have HB5 : Hid (m5.b (3 + 2) = L') := Lib.hid hb5
      have hj8 : j ≤ 8 := hj
      have hlen : L'.length = L2.length + j := by
        have h8 : app8.length = 8 := rfl
        rw [hL', List.length_append, List.length_take, h8]
        omega
      have HLS := Lib.hid hL'
      have HLen := Lib.hid hlen
      have g1 : decide ((L2.length : Int) ≤ (L'.length : Int)) = true := decide_eq_true (by omega)
      have g2 : decide ((L'.length : Int) ≤ (L2.length : Int) + 8) = true := decide_eq_true (by omega)
      have g3 : L'.length ≤ 1048584 := by omega
      have g1n : L2.length ≤ L'.length := by omega
      have g2n : L'.length ≤ L2.length + 8 := by omega
      clear hfree hm4 hm5 hb5 hL' hlen hj
      go_wp2_with (first
        | (go_at_call 27; refine (Size_S 2 (by decide) M2.out.ds).mono ?_; rw [K2.out]; rintro e w' ⟨rfl, rfl⟩)
        | (go_at_call 23; refine (Write_N 2 (L2.length : Int) _ 8 8 app8 (M2.out.below ((Below.refl _ z2).alloc (Nat.le_refl _) _)) G3.out.ok HE.out HG26.out (R8.out z2) eight.out W3'.out).mono ?_; rw [E0.out, dErr_zero, HM4.out]; rintro e w7 ⟨rfl, hs7, hq7⟩; replace hs7 := Lib.hid hs7; have Q7 := Lib.hid (hq7.trans (row_below Q2.out ((Below.refl _ z2).alloc (Nat.le_refl _) _))); clear hq7)
        | (go_at_call 26; refine (Crash_N hs7.out G4'.out W4'.out cr.n cr.scat cr.torn hsc0 hsc1).mono ?_; rw [HM5.out]; rintro e w8 ⟨rfl, hs8, hq8⟩; replace hs8 := Lib.hid hs8; have Q8 := Lib.hid (hq8.trans Q7.out); clear hq8)
        | (go_at_call 25; refine (Read_N 2 L' HB5.out (by decide) hs8.out G5.out.ok G5.out.plain.2).mono ?_; rintro e w9 ⟨A9, c9, rfl, -, hc9, -, hs9, hq9⟩; have p9 : w9.cell? ⟨w5.heap.size, 2, none⟩ = some (.string ⟨L2.toArray⟩) := cell_of_row _ _ 2 _ _ _ (hq9.trans Q8.out); replace hs9 := Lib.hid hs9; clear hq9))
      go_quiet (fail)
      go_wp2
      go_ret
      exact ⟨ret_bool (app_cut HLS.out HLen.out), hs9.out.bel.trans ((below_drewN (Below.refl _ _) nq).mono hs9.out.bel.size)⟩
end Go.Proofs.YtgiaifglkecdjaaDoor
