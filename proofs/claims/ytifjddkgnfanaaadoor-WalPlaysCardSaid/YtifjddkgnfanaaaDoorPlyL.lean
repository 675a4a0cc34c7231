/- WalPlays: its walk. -/
import Derived.Test.YtifjddkgnfanaaaDoorPlyF
import Derived.Deep.LoopGhost
import Derived.Deep.RegionHeld3
namespace Go.Proofs.YtifjddkgnfanaaaDoor
open Go.RowKit

set_option maxHeartbeats 8000000 in
set_option maxRecDepth 100000 in
theorem WalPlays_any (A B : Option Addr) (n c m d : Nat) (areas : List (List UInt8)) (l : List Act18) (w : World) (hl : RBL w A n areas) (ha : RActs18 w B m l) (hin : ∀ a ∈ l, 0 ≤ a.scat ∧ a.scat ≤ 18446744073709551615 ∧ a.n ≤ 9223372036854775807) (hm : m ≤ maxLen) {ea : Nat → Addr} (hE : EW w ea) (hR : Errs w ea) :
  Calls Tryd.prog 3 #[.slice A n c, .slice B m d] w fun e w' => e = .returned (.bool true) ∧ Below w.heap.size w w' := by
 have HE := Lib.hid hE
 have HRR := Lib.hid hR
 have HL := Lib.hid hl
 have HA := Lib.hid ha
 have HIN := Lib.hid hin
 have HLG : Hid (∀ W, Keeps w W → Calls Tryd.prog 5 #[.slice B m d] W fun e w' => e = .returned (.bool (longW l)) ∧ Below W.heap.size W w') := Lib.hid fun W k => long18_any B m d l W (ha.keep k) hm
 clear hE hR hl ha hin
 cases hlg : longW l with
 | true =>
  rw [hlg] at HLG
  clear hlg
  go_enter Tryd.func3, Tryd.ntmps3
  go_wp2_with (first
   | (go_at_call 4; (with_reducible refine (alive18_any _ HE.out).mono ?_); rintro e w1 ⟨rfl, hb1⟩; have B1 := Lib.hid hb1; clear hb1)
   | (go_at_call 5; (with_reducible refine (HLG.out w1 (Keeps.of_below B1.out)).mono ?_); rintro e w2 ⟨rfl, hb2⟩; have B2 := Lib.hid hb2; clear hb2)
   | fail)
  go_ret
  exact ⟨rfl, B1.out.trans (B2.out.mono B1.out.size)⟩
 | false =>
 rw [hlg] at HLG
 have HM : Hid (m ≤ 40 ∧ ∀ a ∈ l, a.bs.length ≤ 200) := Lib.hid (by
  unfold longW at hlg
  rw [Bool.or_eq_false_iff, decide_eq_false_iff_not, HA.out.1] at hlg
  refine ⟨by omega, fun a ha => ?_⟩
  have := List.any_eq_false.1 hlg.2 a ha
  unfold over18 at this
  simpa using this)
 clear hlg
 by_cases hn3 : 3 < n
 ·have q3 : decide ((n : Int) > 3) = true := decide_eq_true (by omega)
  have q3' : decide (3 < (n : Int)) = true := decide_eq_true (by omega)
  go_enter Tryd.func3, Tryd.ntmps3
  go_wp2_with (first
   | (go_at_call 4; (with_reducible refine (alive18_any _ HE.out).mono ?_); rintro e w1 ⟨rfl, hb1⟩; have B1 := Lib.hid hb1; clear hb1)
   | (go_at_call 5; (with_reducible refine (HLG.out w1 (Keeps.of_below B1.out)).mono ?_); rintro e w2 ⟨rfl, hb2⟩; have B2 := Lib.hid hb2; clear hb2)
   | fail)
  go_ret
  exact ⟨rfl, B1.out.trans (B2.out.mono B1.out.size)⟩
 have q3 : decide ((n : Int) > 3) = false := decide_eq_false (by omega)
 have q3' : decide (3 < (n : Int)) = false := decide_eq_false (by omega)
 have HN3 : Hid (n ≤ 3) := Lib.hid (by omega)
 clear hn3
 have HLive0 := Lib.hid (live0 1000 (by decide) (by decide))
 have HNew : Hid (∀ W, Calls Tryd.prog 6 #[.int .i64 1000] W fun e w' => e = .returned (.tuple #[.pointer (some ⟨W.heap.size, 0, none⟩), .nilIface]) ∧ DS W w' W.heap.size ⟨1000, fun _ => [], [], false, 0, false⟩) := Lib.hid fun W => New_S 1000 (Below.refl _ _) (by decide) (by decide)
 go_enter Tryd.func3, Tryd.ntmps3
 go_wp2_with (first
  | (go_at_call 4; (with_reducible refine (alive18_any _ HE.out).mono ?_); rintro e w1 ⟨rfl, hb1⟩; have B1 := Lib.hid hb1; clear hb1)
  | (go_at_call 5; (with_reducible refine (HLG.out w1 (Keeps.of_below B1.out)).mono ?_); rintro e w2 ⟨rfl, hb2⟩; have B2 : Hid (Below w.heap.size w w2) := Lib.hid (B1.out.trans (hb2.mono B1.out.size)); clear hb2)
  | (go_at_call 6; go_loud ((with_reducible refine (HNew.out _).mono ?_); rintro e w3 ⟨rfl, hs3⟩; have T := two_allocs w2 (.cells #[.int .i64 1000, .slice none 0 0, .slice none 0 0, .slice none 0 0, .slice none 0 0, .bool false, .int .i64 0, .bool false] 32) (.cells #[.pointer none, .pointer (some ⟨w2.heap.size, 0, none⟩), .pointer none, .pointer none] 37); have hsz : ((w2.alloc (.cells #[.int .i64 1000, .slice none 0 0, .slice none 0 0, .slice none 0 0, .slice none 0 0, .bool false, .int .i64 0, .bool false] 32)).alloc (.cells #[.pointer none, .pointer (some ⟨w2.heap.size, 0, none⟩), .pointer none, .pointer none] 37)).heap.size = w2.heap.size + 1 + 1 := (by simp); rw [hsz] at hs3; have hI := PL.init (w0 := w2) (x := w2.heap.size + 1) (gr := w2.heap.size) T.2.2 (by omega) (by omega) (by omega) (by omega) T.1 T.2.1 hs3; have I3 := Lib.hid hI; have row3 := (hs3.dd.bel.block (w2.heap.size + 1) (by omega)).trans T.2.1; have x0 : w3.cell? ⟨w2.heap.size + 1, 0, none⟩ = some (.pointer none) := cell_of_row _ _ 0 _ _ _ row3; have xf : w3.frozen? ⟨w2.heap.size + 1, 0, none⟩ = false := frozen_of_row _ _ _ _ _ row3; clear hs3 T hI row3 hsz))
  | fail)
 have HE2 := Lib.hid (HE.out.below B2.out)
 have HR2 := Lib.hid (HRR.out.below B2.out)
 have HL2 : Hid (RBL w2 A n areas) := Lib.hid (HL.out.keep (Keeps.of_below B2.out))
 have HA2 : Hid (RActs18 w2 B m l) := Lib.hid (HA.out.keep (Keeps.of_below B2.out))
 obtain ⟨w4, hw4⟩ : ∃ W, W = w3.setCell ⟨w2.heap.size + 1, 0, none⟩ (.pointer (some ⟨w2.heap.size + 1 + 1, 0, none⟩)) := ⟨_, rfl⟩
 rw [← hw4] at I3 ⊢
 clear hw4 x0 xf HL HA HE HRR HLG HNew
 obtain ⟨m0, hm0⟩ : ∃ m0 : DM, m0 = ⟨1000, fun _ => [], [], false, 0, false⟩ := ⟨_, rfl⟩
 rw [← hm0] at I3 HLive0
 have HM0 : Hid (m0.waits.length = 0 ∧ m0.room = 1000 ∧ m0.Fold ∧ 0 ≤ m0.free) := Lib.hid (by rw [hm0]; exact ⟨rfl, rfl, fun i hi => rfl, by show (0 : Int) ≤ 1000; omega⟩)
 clear hm0
 generalize w2.heap.size + 1 + 1 = g at *
 generalize w2.heap.size + 1 = x at *
 generalize w2.heap.size = gr at *
 go_loopg [37] n (fun gk s37 wr => ∃ (k : Nat) (mk : DM) (Ak : Nat → List UInt8), k + gk = n ∧ s37 = .int .i64 (k : Int) ∧ PL w2 wr x none g gr mk mk none none (.pointer none) (.pointer none) ∧ mk.Live Ak ∧ mk.waits.length = k ∧ mk.room = 1000 ∧ mk.Fold ∧ 0 ≤ mk.free ∧ (∀ i, i < 3 → (Ak i).length ≤ 300) ∧ ∀ i, k ≤ i → i < 3 → Ak i = [])
 case atStart => exact ⟨0, m0, fun _ => [], by omega, rfl, I3.out, HLive0.out, HM0.out.1, HM0.out.2.1, HM0.out.2.2.1, HM0.out.2.2.2, fun _ _ => by simp, fun _ _ _ => rfl⟩
 case round =>
  obtain ⟨k, mk, Ak, hkn, rfl, hS, hLv, hwk, hrm, hfo, hfr, h300, hnil⟩ := hrel
  have HS := Lib.hid hS
  have HLv := Lib.hid hLv
  have HWK := Lib.hid hwk
  have HRM := Lib.hid hrm
  have HFO := Lib.hid hfo
  have HFR := Lib.hid hfr
  have H300 := Lib.hid h300
  have HNil := Lib.hid hnil
  have HKN := Lib.hid hkn
  obtain ⟨a0, a1, -, -⟩ := hS.at
  clear hS hLv hwk hrm hfo hfr h300 hnil hkn
  by_cases hlt : k < n
  ·obtain ⟨b, o, rfl, hc⟩ := HL2.out.2 (by omega)
   obtain ⟨v, cv, A1, c1, rfl, _, _, hr⟩ := hc k hlt
   have kk := Keeps.of_below HS.out.bel
   have cw := kk _ _ cv
   have R1 := Lib.hid (hr.keep kk)
   have HRB : Hid (∀ W, Below w2.heap.size w2 W → RB W A1 (areas.getD k []).length (areas.getD k [])) := Lib.hid fun W hW => hr.keep (Keeps.of_below hW)
   generalize areas.getD k [] = bs at *
   have k0 : (0 : Int) ≤ (k : Int) := by omega
   have k1 : (k : Int) < (n : Int) := by omega
   have k2 : (k : Int) ≤ 3 := by have := HN3.out; omega
   clear hc cv hr
   by_cases hlen : 300 < bs.length
   ·have q1 : decide ((bs.length : Int) > 300) = true := decide_eq_true (by omega)
    have q1' : decide (300 < (bs.length : Int)) = true := decide_eq_true (by omega)
    clear hlen
    go_wp2
    go_ret
    exact ⟨rfl, B2.out.trans (HS.out.bel.mono B2.out.size)⟩
   ·have q1 : decide ((bs.length : Int) > 300) = false := decide_eq_false (by omega)
    have q1' : decide (300 < (bs.length : Int)) = false := decide_eq_false (by omega)
    have HBL : Hid (bs.length ≤ 300) := Lib.hid (by omega)
    have HK3 : Hid (k < 3) := Lib.hid (by have := HN3.out; omega)
    have HP := Lib.hid (Live.put HLv.out HK3.out (HNil.out k (Nat.le_refl _) HK3.out) bs (by
     rw [Live.freeL HLv.out, HRM.out]
     have h0 := H300.out 0 (by decide)
     have h1 := H300.out 1 (by decide)
     have h2 := H300.out 2 (by decide)
     have := HBL.out
     have hz : (Ak k).length = 0 := by rw [HNil.out k (Nat.le_refl _) HK3.out]; rfl
     have h3 : k = 0 ∨ k = 1 ∨ k = 2 := by have := HK3.out; omega
     have hs : (Ak 0).length + (Ak 1).length + (Ak 2).length ≤ 600 := by
      rcases h3 with h3 | h3 | h3 <;> (rw [h3] at hz; omega)
     omega) (by rw [HWK.out]; have := HK3.out; omega))
    have HWr := Lib.hid (Write_P (k : Int) 0 A1 bs.length c1 bs HS.out HE2.out HLv.out.ok R1.out (by have := HBL.out; omega) (by rw [HWK.out]; have := HK3.out; omega))
    rw [HP.out.1, dErr_zero] at HWr
    have HWR0 : Hid (∀ W (m1 : DM), PL w2 W x none g gr m1 mk none none (.pointer none) (.pointer none) → RB W A1 bs.length bs → Calls Tryd.prog 8 #[.pointer (some ⟨gr, 0, none⟩), .int .i64 (k : Int), .int .i64 0, .slice A1 bs.length c1] W fun e w' => e = .returned (.int .i64 (mk.writeE (k : Int) 0 bs.length : Int)) ∧ PL w2 w' x none g gr m1 (mk.write (k : Int) 0 bs) none none (.pointer none) (.pointer none)) := Lib.hid fun W m1 hW hr =>
     RWrite_P k HK3.out 0 A1 bs.length c1 bs hW HLv.out.ok (by rw [HWK.out]; have := HK3.out; omega) HFO.out HFR.out hr (by have := HBL.out; omega)
    rw [HP.out.1] at HWR0
    have HWR : Hid (∀ W (m1 : DM), PL w2 W x none g gr m1 mk none none (.pointer none) (.pointer none) → RB W A1 bs.length bs → Calls Tryd.prog 8 #[.pointer (some ⟨gr, 0, none⟩), .int .i64 (k : Int), .int .i64 0, .slice A1 bs.length c1] W fun e w' => e = .returned (.int .i64 0) ∧ PL w2 w' x none g gr m1 (mk.write (k : Int) 0 bs) none none (.pointer none) (.pointer none)) := HWR0
    have HF' := Lib.hid (HFO.out.write HLv.out.ok (k : Int) 0 bs)
    have HFR' := Lib.hid (write_free0 HFR.out k 0 bs)
    clear hlen HWR0
    go_wp2_with (first
     | (go_at_call 7; go_loud ((with_reducible refine HWr.out.mono ?_); rintro e w5 ⟨rfl, hs5⟩; have S5 := Lib.hid hs5; obtain ⟨b0, b1, -, -⟩ := hs5.at; clear hs5))
     | (go_at_call 8; go_loud ((with_reducible refine (HWR.out w5 _ S5.out (HRB.out w5 S5.out.bel)).mono ?_); rintro e w6 ⟨rfl, hs6⟩; have S6 := Lib.hid hs6; clear hs6))
     | fail)
    go_roundg (gk - 1)
    case measure => have := HKN.out; omega
    case rel =>
     refine ⟨k + 1, _, _, by have := HKN.out; omega, by go_num, S6.out, HP.out.2.1, by rw [HP.out.2.2.1, HWK.out], by rw [HP.out.2.2.2, HRM.out], HF'.out, HFR'.out, fun i hi => ?_, fun i h1 h2 => ?_⟩
     ·by_cases e : i = k
      ·subst e; rw [updB_same]; exact HBL.out
      ·rw [updB_other _ _ _ _ e]; exact H300.out i hi
     ·rw [updB_other _ _ _ _ (by omega)]
      exact HNil.out i (by omega) h2
  ·obtain rfl : k = n := by have := HKN.out; omega
   have HF := Lib.hid (Gd.first HLv.out HFR.out HRM.out)
   have HSy := Lib.hid (Sync_P HS.out HE2.out HLv.out.ok HF.out.2)
   have HSr : Hid (∀ W (m1 : DM), PL w2 W x none g gr m1 mk none none (.pointer none) (.pointer none) → Calls Tryd.prog 10 #[.pointer (some ⟨gr, 0, none⟩)] W fun e w' => e = .returned (.int .i64 0) ∧ PL w2 w' x none g gr m1 mk.sync none none (.pointer none) (.pointer none)) := Lib.hid fun W m1 hW =>
    RSync_P hW HLv.out.ok (by rw [HWK.out]; have := HN3.out; omega) HFO.out HF.out.2
   have HOp : Hid (∀ W, PL w2 W x none g gr mk.sync mk.sync none none (.pointer none) (.pointer none) → Calls Tryd.prog 11 #[.pointer (some ⟨x, 0, none⟩)] W fun e w' => e = .returned (.bool true) ∧ ∃ m', PS w2 w' x g gr m' 0) := Lib.hid fun W hW => play_open hW HF.out.1 HE2.out HR2.out
   clear hlt
   go_wp2_with (first
    | (go_at_call 9; go_loud ((with_reducible refine HSy.out.mono ?_); rintro e w5 ⟨rfl, hs5⟩; have S5 := Lib.hid hs5; obtain ⟨b0, b1, -, -⟩ := hs5.at; clear hs5))
    | (go_at_call 10; go_loud ((with_reducible refine (HSr.out w5 _ S5.out).mono ?_); rintro e w6 ⟨rfl, hs6⟩; have S6 := Lib.hid hs6; clear hs6))
    | (go_at_call 11; go_loud ((with_reducible refine (HOp.out w6 S6.out).mono ?_); rintro e w7 ⟨rfl, m7, hz⟩; have Z7 := Lib.hid hz; clear hz))
    | fail)
   clear HS HSy HSr HOp HF HLv HWK HRM HFO HFR H300 HNil HKN HLive0 HM0 I3 S5 S6 a0 a1 b0 b1
   go_loopg [79] m (fun gk s79 wr => ∃ (j : Nat) (mj : DM), j + gk = m ∧ s79 = .int .i64 (j : Int) ∧ PS w2 wr x g gr mj j)
   case atStart => exact ⟨0, m7, by omega, rfl, Z7.out⟩
   case round =>
    obtain ⟨j, mj, hjm, rfl, hS⟩ := hrel
    have HS := Lib.hid hS
    have HJM := Lib.hid hjm
    clear hS hjm
    by_cases hlt : j < m
    ·obtain ⟨b, o, rfl, hc⟩ := HA2.out.2.2 (by omega)
     have kk := Keeps.of_below HS.out.bel
     obtain ⟨g0, g1, g2, g3, g4⟩ := hc j hlt
     have e : l.getD j default = l[j]'(by rw [HA2.out.1]; exact hlt) := by rw [List.getD_eq_getElem?_getD, List.getElem?_eq_getElem (by rw [HA2.out.1]; exact hlt)]; rfl
     have hmem : l.getD j default ∈ l := by rw [e]; exact List.getElem_mem _
     have hrd := HA2.out.2.1 _ hmem
     have hin' := HIN.out _ hmem
     have h200 := HM.out.2 _ hmem
     clear e hmem hc
     generalize l.getD j default = a at *
     have c0 := kk _ _ g0
     have c1 := kk _ _ g1
     have c2 := kk _ _ g2
     have c3 := kk _ _ g3
     have c4 := kk _ _ g4
     unfold Act18.v at c4
     have HJ40 : Hid (j ≤ 40) := Lib.hid (by have := HM.out.1; omega)
     have k0 : (0 : Int) ≤ (j : Int) := by omega
     have k1 : (j : Int) < (m : Int) := by omega
     have k2 : (m : Int) ≤ 40 := by have := HM.out.1; omega
     obtain ⟨wb, hwb⟩ : ∃ W, W = wr.alloc (.cells #[.int .i64 a.kind, .int .i64 a.n, .int .i64 a.torn, .int .u64 a.scat, .slice a.A a.bs.length a.c] 48) := ⟨_, rfl⟩
     have hbb := (Below.refl wr.heap.size wr).alloc (Nat.le_refl _) (.cells #[.int .i64 a.kind, .int .i64 a.n, .int .i64 a.torn, .int .u64 a.scat, .slice a.A a.bs.length a.c] 48)
     have hrow := heap_alloc_new wr (.cells #[.int .i64 a.kind, .int .i64 a.n, .int .i64 a.torn, .int .u64 a.scat, .slice a.A a.bs.length a.c] 48)
     rw [← hwb] at hbb hrow
     have p0 : wb.cell? ⟨wr.heap.size, 0, none⟩ = some (.int .i64 a.kind) := cell_of_row _ _ 0 _ _ _ hrow
     have p1 : wb.cell? ⟨wr.heap.size, 1, none⟩ = some (.int .i64 a.n) := cell_of_row _ _ 1 _ _ _ hrow
     have p2 : wb.cell? ⟨wr.heap.size, 2, none⟩ = some (.int .i64 a.torn) := cell_of_row _ _ 2 _ _ _ hrow
     have p3 : wb.cell? ⟨wr.heap.size, 3, none⟩ = some (.int .u64 a.scat) := cell_of_row _ _ 3 _ _ _ hrow
     have p4 : wb.cell? ⟨wr.heap.size, 4, none⟩ = some (.slice a.A a.bs.length a.c) := cell_of_row _ _ 4 _ _ _ hrow
     have HDo : Hid (∀ W, Below wb.heap.size wb W → Calls Tryd.prog 12 #[.pointer (some ⟨x, 0, none⟩), .agg #[.int .i64 a.kind, .int .i64 a.n, .int .i64 a.torn, .int .u64 a.scat, .slice a.A a.bs.length a.c]] W fun e w' => e = .returned (.bool true) ∧ ∃ m', PS w2 w' x g gr m' (j + 1)) := Lib.hid fun W hW =>
      play_do ((HS.out.below hbb).below hW) (by have := HJ40.out; omega) HE2.out HR2.out hrd.1 h200 hrd.2.1 hrd.2.2 hin'.1 hin'.2.1 hin'.2.2
     clear g0 g1 g2 g3 g4 kk hrd hin' h200 hbb hrow
     go_wp2_with fail
     rw [← hwb]
     clear hwb c0 c1 c2 c3 c4
     refine wp_region_noPanic ?_
     refine wp_region_held_drew (S := (fun _ => True)) (by kernel_rfl) ?_ (fun hHeld => ?_)
     ·trivial
     refine wpAnyH_take (i := 0) (v := ?_) rfl (by kernel_rfl) (by kernel_rfl) (by kernel_rfl) (fun _ _ _ h => h) (Or.inl ⟨by rfl, ?_⟩) hHeld ?_
     rotate_left
     ·intro w hSw
      (try dsimp only at hSw)
      go_simp
      first | done | (with_reducible rfl)
     try simp only [Act.put, zs, z0, z1, gt, g0]
     refine wpAnyH_ready (rs := [1]) (by kernel_rfl) (by simp) ?_
     refine AllReadyH.cons (o := _) rfl (fun K hK => ?_) AllReadyH.nil
     go_simp
     refine hK.out _ _ ?_ (fun hHeld => ?_)
     ·trivial
     clear hK K
     try simp only [Act.put, zs, z0, z1, gt, g1, g0]
     refine wpAnyH_ready (rs := [2]) (by kernel_rfl) (by simp) ?_
     refine AllReadyH.cons (o := _) rfl (fun K hK => ?_) AllReadyH.nil
     go_simp
     refine (HDo.out _ (below_d1 (Below.refl _ _))).mono ?_
     rintro e w4 ⟨rfl, m4, hz⟩
     obtain ⟨hG4, lo4, lr4, lv4, rv4, hP4, hc4⟩ := hz
     rcases hc4 with ⟨rfl, rfl, rfl, rfl⟩ | ⟨gl, glr, L4, hI4, rfl, rfl, rfl, rfl⟩
     ·have PS4 := Lib.hid (show PS w2 w4 x g gr m4 (j + 1) from ⟨hG4, none, none, .pointer none, .pointer none, hP4, .inl ⟨rfl, rfl, rfl, rfl⟩⟩)
      have P4 := Lib.hid hP4
      obtain ⟨-, x1, x2, x3⟩ := hP4.at
      obtain ⟨⟨AW, cW, r4⟩, -, -, r7, -⟩ := hP4.rcell
      have HK : Hid (∀ W, Below w4.heap.size w4 W → W.cell? ⟨x, 1, none⟩ = some (.pointer (some ⟨gr, 0, none⟩)) ∧ W.cell? ⟨x, 2, none⟩ = some (.pointer none) ∧ W.cell? ⟨x, 3, none⟩ = some (.pointer none) ∧ W.cell? ⟨gr, 7, none⟩ = some (.bool m4.gone) ∧ W.cell? ⟨gr, 4, none⟩ = some (.slice AW m4.waits.length cW)) := Lib.hid fun W hW => ⟨Keeps.of_below hW _ _ x1, Keeps.of_below hW _ _ x2, Keeps.of_below hW _ _ x3, Keeps.of_below hW _ _ r7, Keeps.of_below hW _ _ r4⟩
      have HDown : Hid (∀ W, Below w4.heap.size w4 W → Calls Tryd.prog 14 #[.pointer (some ⟨g, 0, none⟩)] W fun e w' => e = .returned (.bool m4.gone) ∧ W = w') := Lib.hid fun W hW => Down_P (P4.out.below hW)
      have HWts : Hid (∀ W, Below w4.heap.size w4 W → Calls Tryd.prog 15 #[.pointer (some ⟨g, 0, none⟩)] W fun e w' => e = .returned (.int .i64 (m4.waits.length : Int)) ∧ W = w') := Lib.hid fun W hW => Waits_P (P4.out.below hW)
      have BX := Lib.hid (Below.refl w4.heap.size w4)
      clear hP4 hG4 x1 x2 x3 r4 r7
      refine hK.out _ _ ?_ (fun hHeld => ?_)
      ·trivial
      clear hK K
      try simp only [Act.put, zs, z0, z1, gt, g1, g0]
      clear hHeld
      have hHeld := HK.out w4 (Below.refl _ _)
      refine wpAnyH_wide (S := (fun w' => w'.cell? ⟨x, 1, none⟩ = some (.pointer (some ⟨gr, 0, none⟩)) ∧ w'.cell? ⟨x, 2, none⟩ = some (.pointer none) ∧ w'.cell? ⟨x, 3, none⟩ = some (.pointer none) ∧ w'.cell? ⟨gr, 7, none⟩ = some (.bool m4.gone) ∧ w'.cell? ⟨gr, 4, none⟩ = some (.slice AW m4.waits.length cW))) _ _ _ _ ?_
      refine wpAnyH_take (i := 3) (v := ?_) rfl (by kernel_rfl) (by kernel_rfl) (by kernel_rfl) (fun _ _ _ h => h) (Or.inl ⟨by rfl, ?_⟩) hHeld ?_
      rotate_left
      ·intro w hSw
       (try dsimp only at hSw)
       go_simp
       first | done | (with_reducible rfl)
      try simp only [Act.put, zs, z0, z1, gt, g1, g0]
      refine wpAnyH_take (i := 4) (v := ?_) rfl (by kernel_rfl) (by kernel_rfl) (by kernel_rfl) (fun _ _ _ h => h) (Or.inl ⟨by rfl, ?_⟩) hHeld ?_
      rotate_left
      ·intro w hSw
       (try dsimp only at hSw)
       go_simp
       first | done | (with_reducible rfl)
      try simp only [Act.put, zs, z0, z1, gt, g1, g0]
      refine wpAnyH_take (i := 5) (v := ?_) rfl (by kernel_rfl) (by kernel_rfl) (by kernel_rfl) (fun _ _ _ h => h) (Or.inl ⟨by rfl, ?_⟩) hHeld ?_
      rotate_left
      ·intro w hSw
       (try dsimp only at hSw)
       go_simp
       first | done | (with_reducible rfl)
      try simp only [Act.put, zs, z0, z1, gt, g1, g0]
      refine wpAnyH_take (i := 6) (v := ?_) rfl (by kernel_rfl) (by kernel_rfl) (by kernel_rfl) (fun _ _ _ h => h) (Or.inl ⟨by rfl, ?_⟩) hHeld ?_
      rotate_left
      ·intro w hSw
       (try dsimp only at hSw)
       go_simp
       first | done | (with_reducible rfl)
      try simp only [Act.put, zs, z0, z1, gt, g1, g0]
      refine wpAnyH_take (i := 7) (v := ?_) rfl (by kernel_rfl) (by kernel_rfl) (by kernel_rfl) (fun _ _ _ h => h) (Or.inl ⟨by rfl, ?_⟩) hHeld ?_
      rotate_left
      ·intro w hSw
       (try dsimp only at hSw)
       go_simp
       first | done | (with_reducible rfl)
      try simp only [Act.put, zs, z0, z1, gt, g1, g0]
      refine wpAnyH_take (i := 8) (v := ?_) rfl (by kernel_rfl) (by kernel_rfl) (by kernel_rfl) (fun _ _ _ h => h) (Or.inl ⟨by rfl, ?_⟩) hHeld ?_
      rotate_left
      ·intro w hSw
       (try dsimp only at hSw)
       go_simp
       first | done | (with_reducible rfl)
      try simp only [Act.put, zs, z0, z1, gt, g1, g0]
      refine wpAnyH_take (i := 9) (v := ?_) rfl (by kernel_rfl) (by kernel_rfl) (by kernel_rfl) (fun _ _ _ h => h) (Or.inl ⟨by rfl, ?_⟩) hHeld ?_
      rotate_left
      ·intro w hSw
       (try dsimp only at hSw)
       go_simp
       first | done | (with_reducible rfl)
      try simp only [Act.put, zs, z0, z1, gt, g1, g0]
      refine wpAnyH_take (i := 10) (v := ?_) rfl (by kernel_rfl) (by kernel_rfl) (by kernel_rfl) (fun _ _ _ h => h) (Or.inl ⟨by rfl, ?_⟩) hHeld ?_
      rotate_left
      ·intro w hSw
       (try dsimp only at hSw)
       go_simp
       first | done | (with_reducible rfl)
      try simp only [Act.put, zs, z0, z1, gt, g1, g0]
      refine wpAnyH_take (i := 11) (v := _) rfl (by kernel_rfl) (by kernel_rfl) (by kernel_rfl) (fun _ _ _ h => h) (Or.inr ⟨by rfl, rfl⟩) hHeld ?_
      try simp only [Act.put, zs, z0, z1, gt, g1, g0]
      refine wpAnyH_take (i := 12) (v := _) rfl (by kernel_rfl) (by kernel_rfl) (by kernel_rfl) (fun _ _ _ h => h) (Or.inr ⟨by rfl, rfl⟩) hHeld ?_
      try simp only [Act.put, zs, z0, z1, gt, g1, g0]
      refine wpAnyH_take (i := 13) (v := _) rfl (by kernel_rfl) (by kernel_rfl) (by kernel_rfl) (fun _ _ _ h => h) (Or.inr ⟨by rfl, rfl⟩) hHeld ?_
      try simp only [Act.put, zs, z0, z1, gt, g1, g0]
      refine wpAnyH_take (i := 14) (v := _) rfl (by kernel_rfl) (by kernel_rfl) (by kernel_rfl) (fun _ _ _ h => h) (Or.inr ⟨by rfl, rfl⟩) hHeld ?_
      try simp only [Act.put, zs, z0, z1, gt, g1, g0]
      refine wpAnyH_take (i := 15) (v := _) rfl (by kernel_rfl) (by kernel_rfl) (by kernel_rfl) (fun _ _ _ h => h) (Or.inr ⟨by rfl, rfl⟩) hHeld ?_
      try simp only [Act.put, zs, z0, z1, gt, g1, g0]
      refine wpAnyH_take (i := 16) (v := _) rfl (by kernel_rfl) (by kernel_rfl) (by kernel_rfl) (fun _ _ _ h => h) (Or.inr ⟨by rfl, rfl⟩) hHeld ?_
      try simp only [Act.put, zs, z0, z1, gt, g1, g0]
      refine wpAnyH_take (i := 17) (v := _) rfl (by kernel_rfl) (by kernel_rfl) (by kernel_rfl) (fun _ _ _ h => h) (Or.inr ⟨by rfl, rfl⟩) hHeld ?_
      try simp only [Act.put, zs, z0, z1, gt, g1, g0]
      refine wpAnyH_take (i := 18) (v := _) rfl (by kernel_rfl) (by kernel_rfl) (by kernel_rfl) (fun _ _ _ h => h) (Or.inr ⟨by rfl, rfl⟩) hHeld ?_
      try simp only [Act.put, zs, z0, z1, gt, g1, g0]
      refine wpAnyH_take (i := 19) (v := _) rfl (by kernel_rfl) (by kernel_rfl) (by kernel_rfl) (fun _ _ _ h => h) (Or.inr ⟨by rfl, rfl⟩) hHeld ?_
      try simp only [Act.put, zs, z0, z1, gt, g1, g0]
      refine wpAnyH_take (i := 20) (v := _) rfl (by kernel_rfl) (by kernel_rfl) (by kernel_rfl) (fun _ _ _ h => h) (Or.inr ⟨by rfl, rfl⟩) hHeld ?_
      try simp only [Act.put, zs, z0, z1, gt, g1, g0]
      refine wpAnyH_take (i := 21) (v := ?_) rfl (by kernel_rfl) (by kernel_rfl) (by kernel_rfl) (fun _ _ _ h => h) (Or.inl ⟨by rfl, ?_⟩) hHeld ?_
      rotate_left
      ·intro w hSw
       (try dsimp only at hSw)
       go_simp
       first | done | (with_reducible rfl)
      try simp only [Act.put, zs, z0, z1, gt, g1, g0]
      refine wpAnyH_take (i := 22) (v := ?_) rfl (by kernel_rfl) (by kernel_rfl) (by kernel_rfl) (fun _ _ _ h => h) (Or.inl ⟨by rfl, ?_⟩) hHeld ?_
      rotate_left
      ·intro w hSw
       (try dsimp only at hSw)
       go_simp
       first | done | (with_reducible rfl)
      try simp only [Act.put, zs, z0, z1, gt, g1, g0]
      refine wpAnyH_take (i := 23) (v := ?_) rfl (by kernel_rfl) (by kernel_rfl) (by kernel_rfl) (fun _ _ _ h => h) (Or.inl ⟨by rfl, ?_⟩) hHeld ?_
      rotate_left
      ·intro w hSw
       (try dsimp only at hSw)
       go_simp
       first | done | (with_reducible rfl)
      try simp only [Act.put, zs, z0, z1, gt, g1, g0]
      refine wpAnyH_take (i := 24) (v := ?_) rfl (by kernel_rfl) (by kernel_rfl) (by kernel_rfl) (fun _ _ _ h => h) (Or.inl ⟨by rfl, ?_⟩) hHeld ?_
      rotate_left
      ·intro w hSw
       (try dsimp only at hSw)
       go_simp
       first | done | (with_reducible rfl)
      try simp only [Act.put, zs, z0, z1, gt, g1, g0]
      refine wpAnyH_take (i := 26) (v := ?_) rfl (by kernel_rfl) (by kernel_rfl) (by kernel_rfl) (fun _ _ _ h => h) (Or.inl ⟨by rfl, ?_⟩) hHeld ?_
      rotate_left
      ·intro w hSw
       (try dsimp only at hSw)
       go_simp
       first | done | (with_reducible rfl)
      try simp only [Act.put, zs, z0, z1, gt, g1, g0]
      refine wpAnyH_take (i := 27) (v := ?_) rfl (by kernel_rfl) (by kernel_rfl) (by kernel_rfl) (fun _ _ _ h => h) (Or.inl ⟨by rfl, ?_⟩) hHeld ?_
      rotate_left
      ·intro w hSw
       (try dsimp only at hSw)
       go_simp
       first | done | (with_reducible rfl)
      try simp only [Act.put, zs, z0, z1, gt, g1, g0]
      refine wpAnyH_take (i := 28) (v := ?_) rfl (by kernel_rfl) (by kernel_rfl) (by kernel_rfl) (fun _ _ _ h => h) (Or.inl ⟨by rfl, ?_⟩) hHeld ?_
      rotate_left
      ·intro w hSw
       (try dsimp only at hSw)
       go_simp
       first | done | (with_reducible rfl)
      try simp only [Act.put, zs, z0, z1, gt, g1, g0]
      refine wpAnyH_take (i := 29) (v := ?_) rfl (by kernel_rfl) (by kernel_rfl) (by kernel_rfl) (fun _ _ _ h => h) (Or.inl ⟨by rfl, ?_⟩) hHeld ?_
      rotate_left
      ·intro w hSw
       (try dsimp only at hSw)
       go_simp
       first | done | (with_reducible rfl)
      try simp only [Act.put, zs, z0, z1, gt, g1, g0]
      refine wpAnyH_take (i := 30) (v := ?_) rfl (by kernel_rfl) (by kernel_rfl) (by kernel_rfl) (fun _ _ _ h => h) (Or.inl ⟨by rfl, ?_⟩) hHeld ?_
      rotate_left
      ·intro w hSw
       (try dsimp only at hSw)
       go_simp
       first | done | (with_reducible rfl)
      try simp only [Act.put, zs, z0, z1, gt, g1, g0]
      refine wpAnyH_take (i := 31) (v := ?_) rfl (by kernel_rfl) (by kernel_rfl) (by kernel_rfl) (fun _ _ _ h => h) (Or.inl ⟨by rfl, ?_⟩) hHeld ?_
      rotate_left
      ·intro w hSw
       (try dsimp only at hSw)
       go_simp
       first | done | (with_reducible rfl)
      try simp only [Act.put, zs, z0, z1, gt, g1, g0]
      refine wpAnyH_take (i := 32) (v := ?_) rfl (by kernel_rfl) (by kernel_rfl) (by kernel_rfl) (fun _ _ _ h => h) (Or.inl ⟨by rfl, ?_⟩) hHeld ?_
      rotate_left
      ·intro w hSw
       (try dsimp only at hSw)
       go_simp
       first | done | (with_reducible rfl)
      try simp only [Act.put, zs, z0, z1, gt, g1, g0]
      refine wpAnyH_ready (rs := [25]) (by kernel_rfl) (by simp) ?_
      refine AllReadyH.cons (o := _) rfl (fun K hK => ?_) AllReadyH.nil
      go_simp
      refine (HDown.out _ BX.out).mono ?_
      rintro e w6 ⟨rfl, rfl⟩
      refine hK.out _ _ ?_ (fun hHeld => ?_)
      ·exact HK.out _ BX.out
      clear hK K
      try simp only [Act.put, zs, z0, z1, gt, g1, g0]
      refine wpAnyH_take (i := 33) (v := ?_) rfl (by kernel_rfl) (by kernel_rfl) (by kernel_rfl) (fun _ _ _ h => h) (Or.inl ⟨by rfl, ?_⟩) hHeld ?_
      rotate_left
      ·intro w hSw
       (try dsimp only at hSw)
       go_simp
       first | done | (with_reducible rfl)
      try simp only [Act.put, zs, z0, z1, gt, g1, g0]
      refine wpAnyH_take (i := 34) (v := ?_) rfl (by kernel_rfl) (by kernel_rfl) (by kernel_rfl) (fun _ _ _ h => h) (Or.inl ⟨by rfl, ?_⟩) hHeld ?_
      rotate_left
      ·intro w hSw
       (try dsimp only at hSw)
       go_simp
       first | done | (with_reducible rfl)
      try simp only [Act.put, zs, z0, z1, gt, g1, g0]
      refine wpAnyH_take (i := 35) (v := ?_) rfl (by kernel_rfl) (by kernel_rfl) (by kernel_rfl) (fun _ _ _ h => h) (Or.inl ⟨by rfl, ?_⟩) hHeld ?_
      rotate_left
      ·intro w hSw
       (try dsimp only at hSw)
       go_simp
       first | done | (with_reducible rfl)
      try simp only [Act.put, zs, z0, z1, gt, g1, g0]
      refine wpAnyH_take (i := 36) (v := ?_) rfl (by kernel_rfl) (by kernel_rfl) (by kernel_rfl) (fun _ _ _ h => h) (Or.inl ⟨by rfl, ?_⟩) hHeld ?_
      rotate_left
      ·intro w hSw
       (try dsimp only at hSw)
       go_simp
       first | done | (with_reducible rfl)
      try simp only [Act.put, zs, z0, z1, gt, g1, g0]
      refine wpAnyH_take (i := 38) (v := ?_) rfl (by kernel_rfl) (by kernel_rfl) (by kernel_rfl) (fun _ _ _ h => h) (Or.inl ⟨by rfl, ?_⟩) hHeld ?_
      rotate_left
      ·intro w hSw
       (try dsimp only at hSw)
       go_simp
       first | done | (with_reducible rfl)
      try simp only [Act.put, zs, z0, z1, gt, g1, g0]
      refine wpAnyH_take (i := 39) (v := ?_) rfl (by kernel_rfl) (by kernel_rfl) (by kernel_rfl) (fun _ _ _ h => h) (Or.inl ⟨by rfl, ?_⟩) hHeld ?_
      rotate_left
      ·intro w hSw
       (try dsimp only at hSw)
       go_simp
       first | done | (with_reducible rfl)
      try simp only [Act.put, zs, z0, z1, gt, g1, g0]
      refine wpAnyH_take (i := 40) (v := ?_) rfl (by kernel_rfl) (by kernel_rfl) (by kernel_rfl) (fun _ _ _ h => h) (Or.inl ⟨by rfl, ?_⟩) hHeld ?_
      rotate_left
      ·intro w hSw
       (try dsimp only at hSw)
       go_simp
       first | done | (with_reducible rfl)
      try simp only [Act.put, zs, z0, z1, gt, g1, g0]
      refine wpAnyH_take (i := 41) (v := ?_) rfl (by kernel_rfl) (by kernel_rfl) (by kernel_rfl) (fun _ _ _ h => h) (Or.inl ⟨by rfl, ?_⟩) hHeld ?_
      rotate_left
      ·intro w hSw
       (try dsimp only at hSw)
       go_simp
       first | done | (with_reducible rfl)
      try simp only [Act.put, zs, z0, z1, gt, g1, g0]
      refine wpAnyH_take (i := 42) (v := ?_) rfl (by kernel_rfl) (by kernel_rfl) (by kernel_rfl) (fun _ _ _ h => h) (Or.inl ⟨by rfl, ?_⟩) hHeld ?_
      rotate_left
      ·intro w hSw
       (try dsimp only at hSw)
       go_simp
       first | done | (with_reducible rfl)
      try simp only [Act.put, zs, z0, z1, gt, g1, g0]
      refine wpAnyH_take (i := 43) (v := ?_) rfl (by kernel_rfl) (by kernel_rfl) (by kernel_rfl) (fun _ _ _ h => h) (Or.inl ⟨by rfl, ?_⟩) hHeld ?_
      rotate_left
      ·intro w hSw
       (try dsimp only at hSw)
       go_simp
       first | done | (with_reducible rfl)
      try simp only [Act.put, zs, z0, z1, gt, g1, g0]
      refine wpAnyH_take (i := 44) (v := ?_) rfl (by kernel_rfl) (by kernel_rfl) (by kernel_rfl) (fun _ _ _ h => h) (Or.inl ⟨by rfl, ?_⟩) hHeld ?_
      rotate_left
      ·intro w hSw
       (try dsimp only at hSw)
       go_simp
       first | done | (with_reducible rfl)
      try simp only [Act.put, zs, z0, z1, gt, g1, g0]
      refine wpAnyH_take (i := 45) (v := ?_) rfl (by kernel_rfl) (by kernel_rfl) (by kernel_rfl) (fun _ _ _ h => h) (Or.inl ⟨by rfl, ?_⟩) hHeld ?_
      rotate_left
      ·intro w hSw
       (try dsimp only at hSw)
       go_simp
       first | done | (with_reducible rfl)
      try simp only [Act.put, zs, z0, z1, gt, g1, g0]
      refine wpAnyH_ready (rs := [37]) (by kernel_rfl) (by simp) ?_
      refine AllReadyH.cons (o := _) rfl (fun K hK => ?_) AllReadyH.nil
      go_simp
      refine (HWts.out _ BX.out).mono ?_
      rintro e w6 ⟨rfl, rfl⟩
      refine hK.out _ _ ?_ (fun hHeld => ?_)
      ·exact HK.out _ BX.out
      clear hK K
      try simp only [Act.put, zs, z0, z1, gt, g1, g0]
      refine wpAnyH_take (i := 46) (v := ?_) rfl (by kernel_rfl) (by kernel_rfl) (by kernel_rfl) (fun _ _ _ h => h) (Or.inl ⟨by rfl, ?_⟩) hHeld ?_
      rotate_left
      ·intro w hSw
       (try dsimp only at hSw)
       go_simp
       first | done | (with_reducible rfl)
      try simp only [Act.put, zs, z0, z1, gt, g1, g0]
      refine wpAnyH_take (i := 47) (v := ?_) rfl (by kernel_rfl) (by kernel_rfl) (by kernel_rfl) (fun _ _ _ h => h) (Or.inl ⟨by rfl, ?_⟩) hHeld ?_
      rotate_left
      ·intro w hSw
       (try dsimp only at hSw)
       go_simp
       first | done | (with_reducible rfl)
      try simp only [Act.put, zs, z0, z1, gt, g1, g0]
      refine wpAnyH_done (by kernel_rfl) ?_ _
      refine NoPanic.normal ?_
      go_wp2
      go_roundg (gk - 1)
      case measure => have := HJM.out; omega
      case rel => exact ⟨j + 1, m4, by have := HJM.out; omega, by go_num, PS4.out.below BX.out⟩
     ·have PS4 := Lib.hid (show PS w2 w4 x g gr m4 (j + 1) from ⟨hG4, _, _, _, _, hP4, .inr ⟨gl, glr, L4, hI4, rfl, rfl, rfl, rfl⟩⟩)
      have P4 := Lib.hid hP4
      obtain ⟨-, x1, x2, x3⟩ := hP4.at
      obtain ⟨⟨AW, cW, r4⟩, -, -, r7, -⟩ := hP4.rcell
      have HK : Hid (∀ W, Below w4.heap.size w4 W → W.cell? ⟨x, 1, none⟩ = some (.pointer (some ⟨gr, 0, none⟩)) ∧ W.cell? ⟨x, 2, none⟩ = some (.pointer (some ⟨gl, 0, none⟩)) ∧ W.cell? ⟨x, 3, none⟩ = some (.pointer (some ⟨glr, 0, none⟩)) ∧ W.cell? ⟨gr, 7, none⟩ = some (.bool m4.gone) ∧ W.cell? ⟨gr, 4, none⟩ = some (.slice AW m4.waits.length cW)) := Lib.hid fun W hW => ⟨Keeps.of_below hW _ _ x1, Keeps.of_below hW _ _ x2, Keeps.of_below hW _ _ x3, Keeps.of_below hW _ _ r7, Keeps.of_below hW _ _ r4⟩
      have HDown : Hid (∀ W, Below w4.heap.size w4 W → Calls Tryd.prog 14 #[.pointer (some ⟨g, 0, none⟩)] W fun e w' => e = .returned (.bool m4.gone) ∧ W = w') := Lib.hid fun W hW => Down_P (P4.out.below hW)
      have HWts : Hid (∀ W, Below w4.heap.size w4 W → Calls Tryd.prog 15 #[.pointer (some ⟨g, 0, none⟩)] W fun e w' => e = .returned (.int .i64 (m4.waits.length : Int)) ∧ W = w') := Lib.hid fun W hW => Waits_P (P4.out.below hW)
      have HSame := Lib.hid (same_any hP4 hG4 (hI4.ok (by have := HJ40.out; omega)))
      clear hP4 hG4 hI4 x1 x2 x3 r4 r7
      refine hK.out _ _ ?_ (fun hHeld => ?_)
      ·trivial
      clear hK K
      try simp only [Act.put, zs, z0, z1, gt, g1, g0]
      clear hHeld
      have hHeld := HK.out w4 (Below.refl _ _)
      refine wpAnyH_wide (S := (fun w' => w'.cell? ⟨x, 1, none⟩ = some (.pointer (some ⟨gr, 0, none⟩)) ∧ w'.cell? ⟨x, 2, none⟩ = some (.pointer (some ⟨gl, 0, none⟩)) ∧ w'.cell? ⟨x, 3, none⟩ = some (.pointer (some ⟨glr, 0, none⟩)) ∧ w'.cell? ⟨gr, 7, none⟩ = some (.bool m4.gone) ∧ w'.cell? ⟨gr, 4, none⟩ = some (.slice AW m4.waits.length cW))) _ _ _ _ ?_
      refine wpAnyH_take (i := 3) (v := ?_) rfl (by kernel_rfl) (by kernel_rfl) (by kernel_rfl) (fun _ _ _ h => h) (Or.inl ⟨by rfl, ?_⟩) hHeld ?_
      rotate_left
      ·intro w hSw
       (try dsimp only at hSw)
       go_simp
       first | done | (with_reducible rfl)
      try simp only [Act.put, zs, z0, z1, gt, g1, g0]
      refine wpAnyH_take (i := 4) (v := ?_) rfl (by kernel_rfl) (by kernel_rfl) (by kernel_rfl) (fun _ _ _ h => h) (Or.inl ⟨by rfl, ?_⟩) hHeld ?_
      rotate_left
      ·intro w hSw
       (try dsimp only at hSw)
       go_simp
       first | done | (with_reducible rfl)
      try simp only [Act.put, zs, z0, z1, gt, g1, g0]
      refine wpAnyH_take (i := 5) (v := ?_) rfl (by kernel_rfl) (by kernel_rfl) (by kernel_rfl) (fun _ _ _ h => h) (Or.inl ⟨by rfl, ?_⟩) hHeld ?_
      rotate_left
      ·intro w hSw
       (try dsimp only at hSw)
       go_simp
       first | done | (with_reducible rfl)
      try simp only [Act.put, zs, z0, z1, gt, g1, g0]
      refine wpAnyH_take (i := 6) (v := ?_) rfl (by kernel_rfl) (by kernel_rfl) (by kernel_rfl) (fun _ _ _ h => h) (Or.inl ⟨by rfl, ?_⟩) hHeld ?_
      rotate_left
      ·intro w hSw
       (try dsimp only at hSw)
       go_simp
       first | done | (with_reducible rfl)
      try simp only [Act.put, zs, z0, z1, gt, g1, g0]
      refine wpAnyH_take (i := 7) (v := ?_) rfl (by kernel_rfl) (by kernel_rfl) (by kernel_rfl) (fun _ _ _ h => h) (Or.inl ⟨by rfl, ?_⟩) hHeld ?_
      rotate_left
      ·intro w hSw
       (try dsimp only at hSw)
       go_simp
       first | done | (with_reducible rfl)
      try simp only [Act.put, zs, z0, z1, gt, g1, g0]
      refine wpAnyH_take (i := 8) (v := ?_) rfl (by kernel_rfl) (by kernel_rfl) (by kernel_rfl) (fun _ _ _ h => h) (Or.inl ⟨by rfl, ?_⟩) hHeld ?_
      rotate_left
      ·intro w hSw
       (try dsimp only at hSw)
       go_simp
       first | done | (with_reducible rfl)
      try simp only [Act.put, zs, z0, z1, gt, g1, g0]
      refine wpAnyH_take (i := 9) (v := ?_) rfl (by kernel_rfl) (by kernel_rfl) (by kernel_rfl) (fun _ _ _ h => h) (Or.inl ⟨by rfl, ?_⟩) hHeld ?_
      rotate_left
      ·intro w hSw
       (try dsimp only at hSw)
       go_simp
       first | done | (with_reducible rfl)
      try simp only [Act.put, zs, z0, z1, gt, g1, g0]
      refine wpAnyH_take (i := 10) (v := ?_) rfl (by kernel_rfl) (by kernel_rfl) (by kernel_rfl) (fun _ _ _ h => h) (Or.inl ⟨by rfl, ?_⟩) hHeld ?_
      rotate_left
      ·intro w hSw
       (try dsimp only at hSw)
       go_simp
       first | done | (with_reducible rfl)
      try simp only [Act.put, zs, z0, z1, gt, g1, g0]
      refine wpAnyH_take (i := 11) (v := ?_) rfl (by kernel_rfl) (by kernel_rfl) (by kernel_rfl) (fun _ _ _ h => h) (Or.inl ⟨by rfl, ?_⟩) hHeld ?_
      rotate_left
      ·intro w hSw
       (try dsimp only at hSw)
       go_simp
       first | done | (with_reducible rfl)
      try simp only [Act.put, zs, z0, z1, gt, g1, g0]
      refine wpAnyH_take (i := 12) (v := ?_) rfl (by kernel_rfl) (by kernel_rfl) (by kernel_rfl) (fun _ _ _ h => h) (Or.inl ⟨by rfl, ?_⟩) hHeld ?_
      rotate_left
      ·intro w hSw
       (try dsimp only at hSw)
       go_simp
       first | done | (with_reducible rfl)
      try simp only [Act.put, zs, z0, z1, gt, g1, g0]
      refine wpAnyH_take (i := 13) (v := ?_) rfl (by kernel_rfl) (by kernel_rfl) (by kernel_rfl) (fun _ _ _ h => h) (Or.inl ⟨by rfl, ?_⟩) hHeld ?_
      rotate_left
      ·intro w hSw
       (try dsimp only at hSw)
       go_simp
       first | done | (with_reducible rfl)
      try simp only [Act.put, zs, z0, z1, gt, g1, g0]
      refine wpAnyH_take (i := 14) (v := ?_) rfl (by kernel_rfl) (by kernel_rfl) (by kernel_rfl) (fun _ _ _ h => h) (Or.inl ⟨by rfl, ?_⟩) hHeld ?_
      rotate_left
      ·intro w hSw
       (try dsimp only at hSw)
       go_simp
       first | done | (with_reducible rfl)
      try simp only [Act.put, zs, z0, z1, gt, g1, g0]
      refine wpAnyH_take (i := 15) (v := ?_) rfl (by kernel_rfl) (by kernel_rfl) (by kernel_rfl) (fun _ _ _ h => h) (Or.inl ⟨by rfl, ?_⟩) hHeld ?_
      rotate_left
      ·intro w hSw
       (try dsimp only at hSw)
       go_simp
       first | done | (with_reducible rfl)
      try simp only [Act.put, zs, z0, z1, gt, g1, g0]
      refine wpAnyH_take (i := 16) (v := ?_) rfl (by kernel_rfl) (by kernel_rfl) (by kernel_rfl) (fun _ _ _ h => h) (Or.inl ⟨by rfl, ?_⟩) hHeld ?_
      rotate_left
      ·intro w hSw
       (try dsimp only at hSw)
       go_simp
       first | done | (with_reducible rfl)
      try simp only [Act.put, zs, z0, z1, gt, g1, g0]
      refine wpAnyH_take (i := 17) (v := ?_) rfl (by kernel_rfl) (by kernel_rfl) (by kernel_rfl) (fun _ _ _ h => h) (Or.inl ⟨by rfl, ?_⟩) hHeld ?_
      rotate_left
      ·intro w hSw
       (try dsimp only at hSw)
       go_simp
       first | done | (with_reducible rfl)
      try simp only [Act.put, zs, z0, z1, gt, g1, g0]
      refine wpAnyH_take (i := 18) (v := ?_) rfl (by kernel_rfl) (by kernel_rfl) (by kernel_rfl) (fun _ _ _ h => h) (Or.inl ⟨by rfl, ?_⟩) hHeld ?_
      rotate_left
      ·intro w hSw
       (try dsimp only at hSw)
       go_simp
       first | done | (with_reducible rfl)
      try simp only [Act.put, zs, z0, z1, gt, g1, g0]
      refine wpAnyH_ready (rs := [19]) (by kernel_rfl) (by simp) ?_
      refine AllReadyH.cons (o := _) rfl (fun K hK => ?_) AllReadyH.nil
      go_simp
      refine HSame.out.mono ?_
      rintro e w5 ⟨rfl, hb5⟩
      have BX := Lib.hid hb5
      clear hb5
      refine hK.out _ _ ?_ (fun hHeld => ?_)
      ·exact HK.out _ BX.out
      clear hK K
      try simp only [Act.put, zs, z0, z1, gt, g1, g0]
      refine wpAnyH_take (i := 20) (v := ?_) rfl (by kernel_rfl) (by kernel_rfl) (by kernel_rfl) (fun _ _ _ h => h) (Or.inl ⟨by rfl, ?_⟩) hHeld ?_
      rotate_left
      ·intro w hSw
       (try dsimp only at hSw)
       go_simp
       first | done | (with_reducible rfl)
      try simp only [Act.put, zs, z0, z1, gt, g1, g0]
      refine wpAnyH_take (i := 21) (v := ?_) rfl (by kernel_rfl) (by kernel_rfl) (by kernel_rfl) (fun _ _ _ h => h) (Or.inl ⟨by rfl, ?_⟩) hHeld ?_
      rotate_left
      ·intro w hSw
       (try dsimp only at hSw)
       go_simp
       first | done | (with_reducible rfl)
      try simp only [Act.put, zs, z0, z1, gt, g1, g0]
      refine wpAnyH_take (i := 22) (v := ?_) rfl (by kernel_rfl) (by kernel_rfl) (by kernel_rfl) (fun _ _ _ h => h) (Or.inl ⟨by rfl, ?_⟩) hHeld ?_
      rotate_left
      ·intro w hSw
       (try dsimp only at hSw)
       go_simp
       first | done | (with_reducible rfl)
      try simp only [Act.put, zs, z0, z1, gt, g1, g0]
      refine wpAnyH_take (i := 23) (v := ?_) rfl (by kernel_rfl) (by kernel_rfl) (by kernel_rfl) (fun _ _ _ h => h) (Or.inl ⟨by rfl, ?_⟩) hHeld ?_
      rotate_left
      ·intro w hSw
       (try dsimp only at hSw)
       go_simp
       first | done | (with_reducible rfl)
      try simp only [Act.put, zs, z0, z1, gt, g1, g0]
      refine wpAnyH_take (i := 24) (v := ?_) rfl (by kernel_rfl) (by kernel_rfl) (by kernel_rfl) (fun _ _ _ h => h) (Or.inl ⟨by rfl, ?_⟩) hHeld ?_
      rotate_left
      ·intro w hSw
       (try dsimp only at hSw)
       go_simp
       first | done | (with_reducible rfl)
      try simp only [Act.put, zs, z0, z1, gt, g1, g0]
      refine wpAnyH_take (i := 26) (v := ?_) rfl (by kernel_rfl) (by kernel_rfl) (by kernel_rfl) (fun _ _ _ h => h) (Or.inl ⟨by rfl, ?_⟩) hHeld ?_
      rotate_left
      ·intro w hSw
       (try dsimp only at hSw)
       go_simp
       first | done | (with_reducible rfl)
      try simp only [Act.put, zs, z0, z1, gt, g1, g0]
      refine wpAnyH_take (i := 27) (v := ?_) rfl (by kernel_rfl) (by kernel_rfl) (by kernel_rfl) (fun _ _ _ h => h) (Or.inl ⟨by rfl, ?_⟩) hHeld ?_
      rotate_left
      ·intro w hSw
       (try dsimp only at hSw)
       go_simp
       first | done | (with_reducible rfl)
      try simp only [Act.put, zs, z0, z1, gt, g1, g0]
      refine wpAnyH_take (i := 28) (v := ?_) rfl (by kernel_rfl) (by kernel_rfl) (by kernel_rfl) (fun _ _ _ h => h) (Or.inl ⟨by rfl, ?_⟩) hHeld ?_
      rotate_left
      ·intro w hSw
       (try dsimp only at hSw)
       go_simp
       first | done | (with_reducible rfl)
      try simp only [Act.put, zs, z0, z1, gt, g1, g0]
      refine wpAnyH_take (i := 29) (v := ?_) rfl (by kernel_rfl) (by kernel_rfl) (by kernel_rfl) (fun _ _ _ h => h) (Or.inl ⟨by rfl, ?_⟩) hHeld ?_
      rotate_left
      ·intro w hSw
       (try dsimp only at hSw)
       go_simp
       first | done | (with_reducible rfl)
      try simp only [Act.put, zs, z0, z1, gt, g1, g0]
      refine wpAnyH_take (i := 30) (v := ?_) rfl (by kernel_rfl) (by kernel_rfl) (by kernel_rfl) (fun _ _ _ h => h) (Or.inl ⟨by rfl, ?_⟩) hHeld ?_
      rotate_left
      ·intro w hSw
       (try dsimp only at hSw)
       go_simp
       first | done | (with_reducible rfl)
      try simp only [Act.put, zs, z0, z1, gt, g1, g0]
      refine wpAnyH_take (i := 31) (v := ?_) rfl (by kernel_rfl) (by kernel_rfl) (by kernel_rfl) (fun _ _ _ h => h) (Or.inl ⟨by rfl, ?_⟩) hHeld ?_
      rotate_left
      ·intro w hSw
       (try dsimp only at hSw)
       go_simp
       first | done | (with_reducible rfl)
      try simp only [Act.put, zs, z0, z1, gt, g1, g0]
      refine wpAnyH_take (i := 32) (v := ?_) rfl (by kernel_rfl) (by kernel_rfl) (by kernel_rfl) (fun _ _ _ h => h) (Or.inl ⟨by rfl, ?_⟩) hHeld ?_
      rotate_left
      ·intro w hSw
       (try dsimp only at hSw)
       go_simp
       first | done | (with_reducible rfl)
      try simp only [Act.put, zs, z0, z1, gt, g1, g0]
      refine wpAnyH_ready (rs := [25]) (by kernel_rfl) (by simp) ?_
      refine AllReadyH.cons (o := _) rfl (fun K hK => ?_) AllReadyH.nil
      go_simp
      refine (HDown.out _ BX.out).mono ?_
      rintro e w6 ⟨rfl, rfl⟩
      refine hK.out _ _ ?_ (fun hHeld => ?_)
      ·exact HK.out _ BX.out
      clear hK K
      try simp only [Act.put, zs, z0, z1, gt, g1, g0]
      refine wpAnyH_take (i := 33) (v := ?_) rfl (by kernel_rfl) (by kernel_rfl) (by kernel_rfl) (fun _ _ _ h => h) (Or.inl ⟨by rfl, ?_⟩) hHeld ?_
      rotate_left
      ·intro w hSw
       (try dsimp only at hSw)
       go_simp
       first | done | (with_reducible rfl)
      try simp only [Act.put, zs, z0, z1, gt, g1, g0]
      refine wpAnyH_take (i := 34) (v := ?_) rfl (by kernel_rfl) (by kernel_rfl) (by kernel_rfl) (fun _ _ _ h => h) (Or.inl ⟨by rfl, ?_⟩) hHeld ?_
      rotate_left
      ·intro w hSw
       (try dsimp only at hSw)
       go_simp
       first | done | (with_reducible rfl)
      try simp only [Act.put, zs, z0, z1, gt, g1, g0]
      refine wpAnyH_take (i := 35) (v := ?_) rfl (by kernel_rfl) (by kernel_rfl) (by kernel_rfl) (fun _ _ _ h => h) (Or.inl ⟨by rfl, ?_⟩) hHeld ?_
      rotate_left
      ·intro w hSw
       (try dsimp only at hSw)
       go_simp
       first | done | (with_reducible rfl)
      try simp only [Act.put, zs, z0, z1, gt, g1, g0]
      refine wpAnyH_take (i := 36) (v := ?_) rfl (by kernel_rfl) (by kernel_rfl) (by kernel_rfl) (fun _ _ _ h => h) (Or.inl ⟨by rfl, ?_⟩) hHeld ?_
      rotate_left
      ·intro w hSw
       (try dsimp only at hSw)
       go_simp
       first | done | (with_reducible rfl)
      try simp only [Act.put, zs, z0, z1, gt, g1, g0]
      refine wpAnyH_take (i := 38) (v := ?_) rfl (by kernel_rfl) (by kernel_rfl) (by kernel_rfl) (fun _ _ _ h => h) (Or.inl ⟨by rfl, ?_⟩) hHeld ?_
      rotate_left
      ·intro w hSw
       (try dsimp only at hSw)
       go_simp
       first | done | (with_reducible rfl)
      try simp only [Act.put, zs, z0, z1, gt, g1, g0]
      refine wpAnyH_take (i := 39) (v := ?_) rfl (by kernel_rfl) (by kernel_rfl) (by kernel_rfl) (fun _ _ _ h => h) (Or.inl ⟨by rfl, ?_⟩) hHeld ?_
      rotate_left
      ·intro w hSw
       (try dsimp only at hSw)
       go_simp
       first | done | (with_reducible rfl)
      try simp only [Act.put, zs, z0, z1, gt, g1, g0]
      refine wpAnyH_take (i := 40) (v := ?_) rfl (by kernel_rfl) (by kernel_rfl) (by kernel_rfl) (fun _ _ _ h => h) (Or.inl ⟨by rfl, ?_⟩) hHeld ?_
      rotate_left
      ·intro w hSw
       (try dsimp only at hSw)
       go_simp
       first | done | (with_reducible rfl)
      try simp only [Act.put, zs, z0, z1, gt, g1, g0]
      refine wpAnyH_take (i := 41) (v := ?_) rfl (by kernel_rfl) (by kernel_rfl) (by kernel_rfl) (fun _ _ _ h => h) (Or.inl ⟨by rfl, ?_⟩) hHeld ?_
      rotate_left
      ·intro w hSw
       (try dsimp only at hSw)
       go_simp
       first | done | (with_reducible rfl)
      try simp only [Act.put, zs, z0, z1, gt, g1, g0]
      refine wpAnyH_take (i := 42) (v := ?_) rfl (by kernel_rfl) (by kernel_rfl) (by kernel_rfl) (fun _ _ _ h => h) (Or.inl ⟨by rfl, ?_⟩) hHeld ?_
      rotate_left
      ·intro w hSw
       (try dsimp only at hSw)
       go_simp
       first | done | (with_reducible rfl)
      try simp only [Act.put, zs, z0, z1, gt, g1, g0]
      refine wpAnyH_take (i := 43) (v := ?_) rfl (by kernel_rfl) (by kernel_rfl) (by kernel_rfl) (fun _ _ _ h => h) (Or.inl ⟨by rfl, ?_⟩) hHeld ?_
      rotate_left
      ·intro w hSw
       (try dsimp only at hSw)
       go_simp
       first | done | (with_reducible rfl)
      try simp only [Act.put, zs, z0, z1, gt, g1, g0]
      refine wpAnyH_take (i := 44) (v := ?_) rfl (by kernel_rfl) (by kernel_rfl) (by kernel_rfl) (fun _ _ _ h => h) (Or.inl ⟨by rfl, ?_⟩) hHeld ?_
      rotate_left
      ·intro w hSw
       (try dsimp only at hSw)
       go_simp
       first | done | (with_reducible rfl)
      try simp only [Act.put, zs, z0, z1, gt, g1, g0]
      refine wpAnyH_take (i := 45) (v := ?_) rfl (by kernel_rfl) (by kernel_rfl) (by kernel_rfl) (fun _ _ _ h => h) (Or.inl ⟨by rfl, ?_⟩) hHeld ?_
      rotate_left
      ·intro w hSw
       (try dsimp only at hSw)
       go_simp
       first | done | (with_reducible rfl)
      try simp only [Act.put, zs, z0, z1, gt, g1, g0]
      refine wpAnyH_ready (rs := [37]) (by kernel_rfl) (by simp) ?_
      refine AllReadyH.cons (o := _) rfl (fun K hK => ?_) AllReadyH.nil
      go_simp
      refine (HWts.out _ BX.out).mono ?_
      rintro e w6 ⟨rfl, rfl⟩
      refine hK.out _ _ ?_ (fun hHeld => ?_)
      ·exact HK.out _ BX.out
      clear hK K
      try simp only [Act.put, zs, z0, z1, gt, g1, g0]
      refine wpAnyH_take (i := 46) (v := ?_) rfl (by kernel_rfl) (by kernel_rfl) (by kernel_rfl) (fun _ _ _ h => h) (Or.inl ⟨by rfl, ?_⟩) hHeld ?_
      rotate_left
      ·intro w hSw
       (try dsimp only at hSw)
       go_simp
       first | done | (with_reducible rfl)
      try simp only [Act.put, zs, z0, z1, gt, g1, g0]
      refine wpAnyH_take (i := 47) (v := ?_) rfl (by kernel_rfl) (by kernel_rfl) (by kernel_rfl) (fun _ _ _ h => h) (Or.inl ⟨by rfl, ?_⟩) hHeld ?_
      rotate_left
      ·intro w hSw
       (try dsimp only at hSw)
       go_simp
       first | done | (with_reducible rfl)
      try simp only [Act.put, zs, z0, z1, gt, g1, g0]
      refine wpAnyH_done (by kernel_rfl) ?_ _
      refine NoPanic.normal ?_
      go_wp2
      go_roundg (gk - 1)
      case measure => have := HJM.out; omega
      case rel => exact ⟨j + 1, m4, by have := HJM.out; omega, by go_num, PS4.out.below BX.out⟩
    ·obtain rfl : j = m := by have := HJM.out; omega
     go_wp2
     go_ret
     exact ⟨rfl, B2.out.trans (HS.out.bel.mono B2.out.size)⟩
end Go.Proofs.YtifjddkgnfanaaaDoor
