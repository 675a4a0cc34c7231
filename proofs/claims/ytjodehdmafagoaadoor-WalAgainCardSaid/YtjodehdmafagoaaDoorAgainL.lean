/- WalAgain: its walk. -/
import Derived.Test.YtjodehdmafagoaaDoorAlive18
import Derived.Test.YtjodehdmafagoaaDoorWalN
import Derived.Test.YtjodehdmafagoaaDoorActs18
import Derived.Test.YtjodehdmafagoaaDoorSameLists
import Derived.Deep.LoopGhost
import Derived.Deep.RegionWith
namespace Go.Proofs.YtjodehdmafagoaaDoor
open Go.RowKit

theorem run_equal_i3 (w : World) (a b c : Int) : (Op.equalIn 10000 41 (.agg #[.int .i64 a, .int .i64 b, .int .i64 c]) (.agg #[.int .i64 a, .int .i64 b, .int .i64 c])).run Tryd.prog w = .ok true w := by
  have hsz : ∀ w, (Go.sizeOf 3).run Tryd.prog w = .ok 1 w := fun w => by kernel_rfl
  rw [show (10000 : Nat) = 9998 + 2 from rfl, Op.equalIn]
  simp only [Sem.run_bind, run_underlying Tryd.underlying41, Result.andThen_ok, hsz, Std.Legacy.Range.forIn_eq_forIn_range', Std.Legacy.Range.size, Nat.sub_zero, Nat.add_sub_cancel, Nat.div_one]
  have px : ∀ i (hi : i < 3), (part 3 #[.int .i64 a, .int .i64 b, .int .i64 c] (i * 1)).run Tryd.prog w = .ok ((#[.int .i64 a, .int .i64 b, .int .i64 c] : Array Value)[i]'hi) w := fun i hi => by
    simp [part, isAgg, run_underlying Tryd.underlying3, Array.getElem?_eq_getElem (show i < (#[.int .i64 a, .int .i64 b, .int .i64 c] : Array Value).size from hi)]
  have pe : ∀ x : Int, (Op.equalIn (9998 + 1) 3 (.int .i64 x) (.int .i64 x)).run Tryd.prog w = .ok true w := fun x => by
    rw [run_equalIn_int w 9998 3 .i64 .i64 x x Tryd.underlying3]; simp
  rw [show List.range' 0 3 1 = [0, 1, 2] from rfl]
  simp [px 0 (by decide), px 1 (by decide), px 2 (by decide), pe]

set_option maxHeartbeats 8000000 in
set_option maxRecDepth 100000 in
theorem WalAgain_any (A B : Option Addr) (n c m d : Nat) (areas : List (List UInt8)) (l : List Act18) (w : World) (hl : RBL w A n areas) (ha : RActs18 w B m l) (hm : m ≤ maxLen) {ea : Nat → Addr} (hE : EW w ea) :
    Calls Tryd.prog 3 #[.slice A n c, .slice B m d] w fun e w' => e = .returned (.bool true) ∧ Below w.heap.size w w' := by
  have HE := Lib.hid hE
  have HL := Lib.hid hl
  have HA := Lib.hid ha
  have HLG : Hid (∀ W, Keeps w W → Calls Tryd.prog 7 #[.slice B m d] W fun e w' => e = .returned (.bool (longW l)) ∧ Below W.heap.size W w') := Lib.hid fun W k => long18_any B m d l W (ha.keep k) hm
  clear hE hl ha
  cases hlg : longW l with
  | true =>
    rw [hlg] at HLG
    clear hlg
    go_enter Tryd.func3, Tryd.ntmps3
    go_wp2_with (first
      | (go_at_call 6; (with_reducible refine (alive18_any _ HE.out).mono ?_); rintro e w1 ⟨rfl, hb1⟩; have B1 := Lib.hid hb1; clear hb1)
      | (go_at_call 7; (with_reducible refine (HLG.out w1 (Keeps.of_below B1.out)).mono ?_); rintro e w2 ⟨rfl, hb2⟩; have B2 := Lib.hid hb2; clear hb2)
      | fail)
    go_ret
    exact ⟨rfl, B1.out.trans (B2.out.mono B1.out.size)⟩
  | false =>
  rw [hlg] at HLG
  have HM : Hid (m ≤ 40 ∧ ∀ a ∈ l, a.bs.length ≤ 200) := Lib.hid (by
    unfold longW at hlg
    rw [Bool.or_eq_false_iff, decide_eq_false_iff_not, HA.out.1] at hlg
    refine ⟨by omega, fun a ha => ?_⟩
    have := List.any_eq_false.1 hlg.2 a ha
    unfold over18 at this
    simpa using this)
  clear hlg
  by_cases hn3 : 3 < n
  · have q3 : decide ((n : Int) > 3) = true := decide_eq_true (by omega)
    have q3' : decide (3 < (n : Int)) = true := decide_eq_true (by omega)
    go_enter Tryd.func3, Tryd.ntmps3
    go_wp2_with (first
      | (go_at_call 6; (with_reducible refine (alive18_any _ HE.out).mono ?_); rintro e w1 ⟨rfl, hb1⟩; have B1 := Lib.hid hb1; clear hb1)
      | (go_at_call 7; (with_reducible refine (HLG.out w1 (Keeps.of_below B1.out)).mono ?_); rintro e w2 ⟨rfl, hb2⟩; have B2 := Lib.hid hb2; clear hb2)
      | fail)
    go_ret
    exact ⟨rfl, B1.out.trans (B2.out.mono B1.out.size)⟩
  have q3 : decide ((n : Int) > 3) = false := decide_eq_false (by omega)
  have q3' : decide (3 < (n : Int)) = false := decide_eq_false (by omega)
  have HN3 : Hid (n ≤ 3) := Lib.hid (by omega)
  clear hn3
  have HLive0 := Lib.hid (live0 2000 (by decide) (by decide))
  obtain ⟨m0, hm0⟩ : ∃ m0 : DM, m0 = ⟨2000, fun _ => [], [], false, 0, false⟩ := ⟨_, rfl⟩
  have HNew : Hid (∀ W, Below w.heap.size w W → Calls Tryd.prog 8 #[.int .i64 2000] W fun e w' => e = .returned (.tuple #[.pointer (some ⟨W.heap.size, 0, none⟩), .nilIface]) ∧ DS w w' W.heap.size m0) := Lib.hid fun W hb => by rw [hm0]; exact New_S 2000 hb (by decide) (by decide)
  have HM0 : Hid (m0.waits.length = 0 ∧ m0.room = 2000) := Lib.hid (by rw [hm0]; exact ⟨rfl, rfl⟩)
  rw [← hm0] at HLive0
  clear hm0
  go_enter Tryd.func3, Tryd.ntmps3
  go_wp2_with (first
    | (go_at_call 6; (with_reducible refine (alive18_any _ HE.out).mono ?_); rintro e w1 ⟨rfl, hb1⟩; have B1 := Lib.hid hb1; clear hb1)
    | (go_at_call 7; (with_reducible refine (HLG.out w1 (Keeps.of_below B1.out)).mono ?_); rintro e w2 ⟨rfl, hb2⟩; have B2 : Hid (Below w.heap.size w w2) := Lib.hid (B1.out.trans (hb2.mono B1.out.size)); clear hb2)
    | (go_at_call 8; (with_reducible refine (HNew.out w2 B2.out).mono ?_); rintro e w3 ⟨rfl, hs3⟩; have S3 := Lib.hid hs3; clear hs3)
    | fail)
  have HG26 : Hid (26 ≤ w2.heap.size) := Lib.hid (Nat.le_trans HE.out.size B2.out.size)
  generalize w2.heap.size = g at *
  go_loopg [31] n (fun gk s31 wr => ∃ (k : Nat) (mk : DM) (Ak : Nat → List UInt8), k + gk = n ∧ s31 = .int .i64 (k : Int) ∧ DS w wr g mk ∧ mk.Live Ak ∧ mk.waits.length = k ∧ mk.room = 2000 ∧ (∀ i, i < 3 → (Ak i).length ≤ 300) ∧ ∀ i, k ≤ i → i < 3 → Ak i = [])
  case atStart => exact ⟨0, m0, fun _ => [], by omega, rfl, S3.out, HLive0.out, HM0.out.1, HM0.out.2, fun _ _ => by simp, fun _ _ _ => rfl⟩
  case round =>
    obtain ⟨k, mk, Ak, hkn, rfl, hS, hLv, hwk, hrm, h300, hnil⟩ := hrel
    have HS := Lib.hid hS
    have HLv := Lib.hid hLv
    have HWK := Lib.hid hwk
    have HRM := Lib.hid hrm
    have H300 := Lib.hid h300
    have HNil := Lib.hid hnil
    have HKN := Lib.hid hkn
    clear hS hLv hwk hrm h300 hnil hkn
    by_cases hlt : k < n
    · obtain ⟨b, o, rfl, hc⟩ := HL.out.2 (by omega)
      obtain ⟨v, cv, A1, c1, rfl, _, _, hr⟩ := hc k hlt
      have kk := Keeps.of_below HS.out.bel
      have cw := kk _ _ cv
      have R1 := Lib.hid (hr.keep kk)
      generalize areas.getD k [] = bs at *
      have k0 : (0 : Int) ≤ (k : Int) := by omega
      have k1 : (k : Int) < (n : Int) := by omega
      have k2 : (k : Int) ≤ 3 := by have := HN3.out; omega
      clear hc cv hr
      by_cases hlen : 300 < bs.length
      · have q1 : decide ((bs.length : Int) > 300) = true := decide_eq_true (by omega)
        have q1' : decide (300 < (bs.length : Int)) = true := decide_eq_true (by omega)
        clear hlen
        go_wp2
        go_ret
        exact ⟨rfl, HS.out.bel⟩
      · have q1 : decide ((bs.length : Int) > 300) = false := decide_eq_false (by omega)
        have q1' : decide (300 < (bs.length : Int)) = false := decide_eq_false (by omega)
        have HBL : Hid (bs.length ≤ 300) := Lib.hid (by omega)
        have HK3 : Hid (k < 3) := Lib.hid (by have := HN3.out; omega)
        have HP := Lib.hid (Live.put HLv.out HK3.out (HNil.out k (Nat.le_refl _) HK3.out) bs (by
          rw [Live.freeL HLv.out, HRM.out]
          have h0 := H300.out 0 (by decide)
          have h1 := H300.out 1 (by decide)
          have h2 := H300.out 2 (by decide)
          have := HBL.out
          omega) (by rw [HWK.out]; have := HK3.out; omega))
        have HWr := Lib.hid (Write_S (k : Int) 0 A1 bs.length c1 bs HS.out HLv.out.ok HE.out.d HG26.out R1.out (by have := HBL.out; omega) (by rw [HWK.out]; have := HK3.out; omega))
        rw [HP.out.1, dErr_zero] at HWr
        clear hlen
        go_wp2_with (first
          | (go_at_call 9; go_loud ((with_reducible refine HWr.out.mono ?_); rintro e w4 ⟨rfl, hs4⟩; have S4 := Lib.hid hs4; clear hs4))
          | fail)
        go_roundg (gk - 1)
        case measure => have := HKN.out; omega
        case rel =>
          refine ⟨k + 1, _, _, by have := HKN.out; omega, by go_num, S4.out, HP.out.2.1, by rw [HP.out.2.2.1, HWK.out], by rw [HP.out.2.2.2, HRM.out], fun i hi => ?_, fun i h1 h2 => ?_⟩
          · by_cases e : i = k
            · subst e; rw [updB_same]; exact HBL.out
            · rw [updB_other _ _ _ _ e]; exact H300.out i hi
          · rw [updB_other _ _ _ _ (by omega)]
            exact HNil.out i (by omega) h2
    · obtain rfl : k = n := by have := HKN.out; omega
      have HOp : Hid (∀ L, Reads (fun i => mk.b (3 + i)) L → opE mk (endOf L.recs) = 0 ∧ ∃ Bk, (opM mk (endOf L.recs)).Live Bk ∧ L.On Bk) := Lib.hid fun L hR => by
        obtain ⟨o1, Bk, o2, o3, _⟩ := open_live HLv.out (hR.congr fun i hi => (HLv.out.seen i hi).symm)
        exact ⟨o1, Bk, o2, o3⟩
      have HWk : Hid (mk.waits.length ≤ 1000) := Lib.hid (by have := HLv.out.waits; omega)
      go_wp2_with (first
        | (go_at_call 10; go_loud ((with_reducible refine (Open_any HS.out.dd HE.out HLv.out.ok HWk.out HLv.out.gone).mono ?_); rintro e w5 ⟨L, hR, hd, hf, ho⟩; obtain ⟨o1, Bk, o2, o3⟩ := HOp.out L hR; rw [o1] at ho; rcases ho with ⟨_, gl, rfl, hd5⟩ | ⟨h0, _⟩; rotate_left; exact absurd rfl h0; have D5 := Lib.hid hd5; have OL := Lib.hid o2; have ON := Lib.hid o3; have LD := Lib.hid hd; clear hd5 hR hd hf o2 o3 o1))
        | fail)
      obtain ⟨S5, hS5⟩ : ∃ S5, S5 = ext (fun k => w.heap.size ≤ k ∧ k < wr.heap.size) wr w5 := ⟨_, rfl⟩
      rw [← hS5] at D5
      clear hS5
      generalize opM mk (endOf L.recs) = m5 at *
      clear HOp HWk HLv HS HWK HRM H300 HNil HKN HLive0 HM0
      go_loopg [54] m (fun gk s54 wr => ∃ (j : Nat) (mj : DM) (Lj : LM) (Sj : Nat → Prop) (Bj : Nat → List UInt8), j + gk = m ∧ s54 = .int .i64 (j : Int) ∧ DW w wr Sj g mj gl Lj ∧ mj.Live Bj ∧ Lj.On Bj ∧ Lj.dead = false)
      case atStart => exact ⟨0, m5, L, S5, Bk, by omega, rfl, D5.out, OL.out, ON.out, LD.out⟩
      case round =>
        obtain ⟨j, mj, Lj, Sj, Bj, hjm, rfl, hDj, hLj, hOj, hdj⟩ := hrel
        have DJ := Lib.hid hDj
        have LJ := Lib.hid hLj
        have OJ := Lib.hid hOj
        have DDJ := Lib.hid hdj
        have HJM := Lib.hid hjm
        have HW1 : Hid (mj.waits.length ≤ 1000) := Lib.hid (by have := hLj.waits; omega)
        clear hDj hLj hOj hdj hjm
        by_cases hlt : j < m
        · obtain ⟨b, o, rfl, hc⟩ := HA.out.2.2 (by omega)
          obtain ⟨g0, g1, g2, g3, g4⟩ := hc j hlt
          have e : l.getD j default = l[j]'(by rw [HA.out.1]; exact hlt) := by rw [List.getD_eq_getElem?_getD, List.getElem?_eq_getElem (by rw [HA.out.1]; exact hlt)]; rfl
          have hmem : l[j]'(by rw [HA.out.1]; exact hlt) ∈ l := List.getElem_mem _
          rw [← e] at hmem
          have hxr := HA.out.2.1 _ hmem
          have hx2 := HM.out.2 _ hmem
          have kk := Keeps.of_below DJ.out.bel
          have c0 := kk _ _ g0
          have c1' := kk _ _ g1
          have c2 := kk _ _ g2
          have c3 := kk _ _ g3
          have c4 := kk _ _ g4
          clear e g0 g1 g2 g3 g4 hc hmem
          generalize l.getD j default = x at *
          have HX := Lib.hid hxr
          have HX2 := Lib.hid hx2
          have k0 : (0 : Int) ≤ (j : Int) := by omega
          have k1 : (j : Int) < (m : Int) := by omega
          have k2 : (j : Int) ≤ 40 := by have := HM.out.1; omega
          have D0 := (Below.refl wr.heap.size wr).alloc (Nat.le_refl _) (.cells #[.int .i64 x.kind, .int .i64 x.n, .int .i64 x.torn, .int .u64 x.scat, x.v] 38)
          have DA := Lib.hid (DJ.out.below D0)
          have RA := Lib.hid ((HX.out.1.keep kk).keep (Keeps.of_below D0))
          have OA := Lib.hid (fun h => off_arg DJ.out HX.out.1 h)
          unfold Act18.v at c4 DA RA
          clear D0 hxr hx2 kk
          by_cases hk : x.kind = 1
          · have qk : (x.kind == 1) = true := by rw [hk]; rfl
            clear hk
            go_wp2_with (first
              | (go_at_call 11; go_loud ((with_reducible refine (Compact_any x.A x.bs.length x.c x.bs DA.out HE.out LJ.out.ok (LJ.out.okL OJ.out.reads) RA.out (by have := HX2.out; omega) HW1.out).mono ?_); rintro e w6 ⟨rfl, hd6, hf6⟩; have D6 := Lib.hid hd6; clear hd6 hf6))
              | fail)
            go_roundg (gk - 1)
            case measure => have := HJM.out; omega
            case rel =>
              obtain ⟨B', b1, b2, b3⟩ := Live.cp LJ.out OJ.out DDJ.out x.bs
              exact ⟨j + 1, _, _, _, B', by have := HJM.out; omega, by go_num, D6.out, b1, b2, b3⟩
          · have qk : (x.kind == 1) = false := beq_eq_false_iff_ne.2 hk
            clear hk
            go_wp2_with (first
              | (go_at_call 12; go_loud ((with_reducible refine (Append_any x.A x.bs.length x.c x.bs DA.out HE.out LJ.out.ok (LJ.out.okL OJ.out.reads) RA.out OA.out HX.out.2.1 HX.out.2.2 HW1.out).mono ?_); rintro e w6 ⟨rfl, hd6, hf6⟩; have D6 := Lib.hid hd6; clear hd6 hf6))
              | fail)
            go_roundg (gk - 1)
            case measure => have := HJM.out; omega
            case rel =>
              obtain ⟨B', b1, b2, b3⟩ := Live.app LJ.out OJ.out DDJ.out x.bs
              exact ⟨j + 1, _, _, _, B', by have := HJM.out; omega, by go_num, D6.out, b1, b2, b3⟩
        · obtain rfl : j = m := by have := HJM.out; omega
          clear HM HA HL HNew HLG HN3 HJM
          obtain ⟨O, P, pO, pP, hOS, hPS, hPO⟩ := DJ.out.parts
          obtain ⟨n0, hn0⟩ : ∃ k, k = (mj.b 3).length := ⟨_, rfl⟩
          obtain ⟨n1, hn1⟩ : ∃ k, k = (mj.b 4).length := ⟨_, rfl⟩
          obtain ⟨n2, hn2⟩ : ∃ k, k = (mj.b 5).length := ⟨_, rfl⟩
          have HSz : Hid (∀ W S' gp Lp, DW w W S' g mj gp Lp → (Calls Tryd.prog 13 #[.pointer (some ⟨g, 0, none⟩), .int .i64 0] W fun e w' => e = .returned (.int .i64 (n0 : Int)) ∧ W = w') ∧
              (Calls Tryd.prog 13 #[.pointer (some ⟨g, 0, none⟩), .int .i64 1] W fun e w' => e = .returned (.int .i64 (n1 : Int)) ∧ W = w') ∧
              (Calls Tryd.prog 13 #[.pointer (some ⟨g, 0, none⟩), .int .i64 2] W fun e w' => e = .returned (.int .i64 (n2 : Int)) ∧ W = w')) := Lib.hid fun W S' gp Lp h => by
            rw [hn0, hn1, hn2]
            exact ⟨Size_W 0 (by decide) h, Size_W 1 (by decide) h, Size_W 2 (by decide) h⟩
          clear hn0 hn1 hn2
          have D0 := (Below.refl wr.heap.size wr).alloc (Nat.le_refl _) (.cells #[.int .i64 (n0 : Int), .int .i64 (n1 : Int), .int .i64 (n2 : Int)] 41)
          obtain ⟨wq, hwq⟩ : ∃ W, W = wr.alloc (.cells #[.int .i64 (n0 : Int), .int .i64 (n1 : Int), .int .i64 (n2 : Int)] 41) := ⟨_, rfl⟩
          have HQ : Hid (DD w wq O g mj) := Lib.hid (by
            rw [hwq]
            obtain ⟨bv, wv, ws, hd⟩ := pO
            exact ⟨⟨O, ⟨bv, wv, ws, hd.below D0⟩, fun _ h => h⟩, fun k hk => DJ.out.up k (hOS k hk), fun k hk => Nat.lt_of_lt_of_le (DJ.out.hi k (hOS k hk)) D0.size, DJ.out.bel.trans (D0.mono DJ.out.bel.size)⟩)
          have HP : Hid (LogAt wq P gl g Lj) := Lib.hid (by rw [hwq]; exact pP.below D0)
          have HRow : Hid (wq.heap[wr.heap.size]? = some (.cells #[.int .i64 (n0 : Int), .int .i64 (n1 : Int), .int .i64 (n2 : Int)] 41 (0, 0))) := Lib.hid (by rw [hwq]; exact heap_alloc_new wr _)
          have HqO : Hid (¬ O wr.heap.size ∧ wr.heap.size < wq.heap.size) := Lib.hid ⟨fun h => absurd (DJ.out.hi _ (hOS _ h)) (Nat.lt_irrefl _), by rw [hwq]; simp⟩
          have HPO := Lib.hid hPO
          have HF := Lib.hid (fun L' hR => Live.found (L' := L') LJ.out OJ.out hR)
          have HLjOk := Lib.hid (LJ.out.okL OJ.out.reads)
          clear pO pP hOS hPS hPO D0
          go_wp2_with (first
            | (go_at_call 13; (with_reducible refine (HSz.out _ _ _ _ DJ.out).1.mono ?_); rintro e w' ⟨rfl, rfl⟩)
            | (go_at_call 13; (with_reducible refine (HSz.out _ _ _ _ DJ.out).2.1.mono ?_); rintro e w' ⟨rfl, rfl⟩)
            | (go_at_call 13; (with_reducible refine (HSz.out _ _ _ _ DJ.out).2.2.mono ?_); rintro e w' ⟨rfl, rfl⟩)
            | (go_at_call 10; go_loud (rw [← hwq]; (with_reducible refine (Open_any HQ.out HE.out LJ.out.ok HW1.out LJ.out.gone).mono ?_); rintro e w6 ⟨L2, hR, hd, hf, ho⟩; obtain ⟨e1, -, e3, e4, ok2, o1, o2⟩ := HF.out L2 hR; rw [o1, o2] at ho; rcases ho with ⟨_, gl2, rfl, hd6⟩ | ⟨h0, _⟩; rotate_left; exact absurd rfl h0; have D6 := Lib.hid hd6; have F6 := Lib.hid hf; have EQ := Lib.hid (And.intro e1 (And.intro e3 (And.intro e4 ok2))); clear hd6 hR hf hd e1 e3 e4 ok2 o1 o2))
            | fail)
          obtain ⟨G, hG⟩ : ∃ x, x = Lj.gen := ⟨_, rfl⟩
          obtain ⟨T, hT⟩ : ∃ x, x = Lj.text := ⟨_, rfl⟩
          obtain ⟨R, hR⟩ : ∃ x, x = Lj.recs := ⟨_, rfl⟩
          have P6 : Hid (LogAt w6 P gl g Lj) := Lib.hid (HP.out.fr F6.out HPO.out)
          have HG2 : Hid (∀ W, Below w6.heap.size w6 W → Calls Tryd.prog 14 #[.pointer (some ⟨gl2, 0, none⟩)] W fun e w' => e = .returned (.int .i64 (G : Int)) ∧ W = w') := Lib.hid fun W hW => by rw [hG, ← EQ.out.1]; exact Gen_any (D6.out.below hW)
          have HG1 : Hid (∀ W, Below w6.heap.size w6 W → Calls Tryd.prog 14 #[.pointer (some ⟨gl, 0, none⟩)] W fun e w' => e = .returned (.int .i64 (G : Int)) ∧ W = w') := Lib.hid fun W hW => by rw [hG]; exact Gen_L (P6.out.below hW)
          have HS2 : Hid (∀ W, Below w6.heap.size w6 W → Calls Tryd.prog 15 #[.pointer (some ⟨gl2, 0, none⟩)] W fun e w' => ∃ A c, e = .returned (.slice A T.length c) ∧ RB w' A T.length T ∧ Below W.heap.size W w') := Lib.hid fun W hW => by
            rw [hT, ← EQ.out.2.1]
            exact (Snapshot_any (D6.out.below hW) EQ.out.2.2.2).mono fun e w' ⟨A, c, h1, h2, h3⟩ => ⟨A, c, h1, h2.rbl, h3⟩
          have HS1 : Hid (∀ W, Below w6.heap.size w6 W → Calls Tryd.prog 15 #[.pointer (some ⟨gl, 0, none⟩)] W fun e w' => ∃ A c, e = .returned (.slice A T.length c) ∧ RB w' A T.length T ∧ Below W.heap.size W w') := Lib.hid fun W hW => by
            rw [hT]
            exact (Snapshot_L (P6.out.below hW) HLjOk.out).mono fun e w' ⟨A, c, h1, h2, h3⟩ => ⟨A, c, h1, h2.rbl, h3⟩
          have HR2 : Hid (∀ W, Below w6.heap.size w6 W → Calls Tryd.prog 17 #[.pointer (some ⟨gl2, 0, none⟩)] W fun e w' => ∃ A c, e = .returned (.slice A R.length c) ∧ R.length ≤ maxLen ∧ RBL w' A R.length R ∧ Below W.heap.size W w') := Lib.hid fun W hW => by
            rw [hR, ← EQ.out.2.2.1]
            exact (Records_any (D6.out.below hW) EQ.out.2.2.2).mono fun e w' ⟨A, c, h1, h2, h3, h4, _, h5⟩ => ⟨A, c, h1, Nat.le_trans h2 h3, h4, h5⟩
          have HR1 : Hid (∀ W, Below w6.heap.size w6 W → Calls Tryd.prog 17 #[.pointer (some ⟨gl, 0, none⟩)] W fun e w' => ∃ A c, e = .returned (.slice A R.length c) ∧ R.length ≤ maxLen ∧ RBL w' A R.length R ∧ Below W.heap.size W w') := Lib.hid fun W hW => by
            rw [hR]
            exact (Records_L (P6.out.below hW) HLjOk.out).mono fun e w' ⟨A, c, h1, h2, h3, h4, _, h5⟩ => ⟨A, c, h1, Nat.le_trans h2 h3, h4, h5⟩
          have HSL : Hid (∀ W A n c B d, RBL W A R.length R → RBL W B R.length R → R.length ≤ maxLen → n = R.length → Calls Tryd.prog 16 #[.slice A n c, .slice B n d] W fun e w' => e = .returned (.bool true) ∧ ∃ k, w' = W.drewN k) := Lib.hid fun W A n c B d h1 h2 h3 e => by
            subst e
            exact (SameLists_any A B _ _ c d R R W h1 h2 h3 h3).mono fun e w' ⟨h, h'⟩ => ⟨by rw [h, decide_eq_true rfl], h'⟩
          have sl := str_list T
          have HCV : Hid (∀ W A c, RB W A T.length T → (convert 31 9 (.slice A T.length c)).run Tryd.prog W = .ok (.string ⟨T.toArray⟩) W) := Lib.hid fun W A c h => run_bytes_string (P := Tryd.prog) Tryd.underlying31 Tryd.underlying5 Tryd.underlying9 (c := c) h
          clear hG hT hR
          go_region_with
            (first
              | (go_at_call 14; (with_reducible refine (HG2.out _ (below_d1 (Below.refl _ _))).mono ?_); rintro e w' ⟨rfl, rfl⟩)
              | (go_at_call 14; (with_reducible refine (HG1.out _ (below_d1 (Below.refl _ _))).mono ?_); rintro e w' ⟨rfl, rfl⟩)
              | (go_at_call 15; (with_reducible refine (HS2.out w6.drew (below_d1 (Below.refl _ _))).mono ?_); rintro e w7 ⟨A7, c7, rfl, hr7, hb7⟩; have B7 : Hid (Below w6.heap.size w6 w7) := Lib.hid (Below.undrewW hb7); have cv7 := HCV.out w7 A7 c7 hr7; have R7 := Lib.hid hr7; clear hr7 hb7)
              | (go_at_call 15; (with_reducible refine (HS1.out w7 B7.out).mono ?_); rintro e w8 ⟨A8, c8, rfl, hr8, hb8⟩; have B8 : Hid (Below w6.heap.size w6 w8) := Lib.hid (B7.out.trans (hb8.mono B7.out.size)); have cv8 := HCV.out w8 A8 c8 hr8; have cv78 := HCV.out w8 A7 c7 (R7.out.keep (Keeps.of_below hb8)); clear hr8 hb8)
              | (go_at_call 17; (with_reducible refine (HR2.out w8 B8.out).mono ?_); rintro e w9 ⟨A9, c9, rfl, hm9, hr9, hb9⟩; have B9 : Hid (Below w6.heap.size w6 w9) := Lib.hid (B8.out.trans (hb9.mono B8.out.size)); have R9 := Lib.hid hr9; have M9 := Lib.hid hm9; clear hr9 hb9 hm9)
              | (go_at_call 17; (with_reducible refine (HR1.out w9 B9.out).mono ?_); rintro e w10 ⟨A10, c10, rfl, -, hr10, hb10⟩; have B10 : Hid (Below w6.heap.size w6 w10) := Lib.hid (B9.out.trans (hb10.mono B9.out.size)); have R910 := Lib.hid (R9.out.keep (Keeps.of_below hb10)); have R10 := Lib.hid hr10; clear hr10 hb10)
              | (go_at_call 16; (with_reducible refine (HSL.out w10 A9 _ c9 A10 c10 R910.out R10.out M9.out rfl).mono ?_); rintro e w11 ⟨rfl, k11, rfl⟩))
          all_goals
            obtain ⟨w12, hw12⟩ : ∃ W, W = w10.drewN k11 := ⟨_, rfl⟩
            have B12 : Hid (Below w6.heap.size w6 w12) := Lib.hid (by rw [hw12]; exact below_drewN B10.out k11)
            rw [← hw12]
            have hrow : w12.heap[wr.heap.size]? = some (.cells #[.int .i64 (n0 : Int), .int .i64 (n1 : Int), .int .i64 (n2 : Int)] 41 (0, 0)) := (B12.out.block _ (Nat.lt_of_lt_of_le HqO.out.2 F6.out.size)).trans ((F6.out.block _ HqO.out.2 HqO.out.1).trans HRow.out)
            have d0 : w12.cell? ⟨wr.heap.size, 0, none⟩ = some (.int .i64 (n0 : Int)) := cell_of_row _ _ 0 _ _ _ hrow
            have d1 : w12.cell? ⟨wr.heap.size, 1, none⟩ = some (.int .i64 (n1 : Int)) := cell_of_row _ _ 1 _ _ _ hrow
            have d2 : w12.cell? ⟨wr.heap.size, 2, none⟩ = some (.int .i64 (n2 : Int)) := cell_of_row _ _ 2 _ _ _ hrow
            have D12 := Lib.hid (fun k => D6.out.below (below_drewN B12.out k))
            have HBE : Hid (Below w.heap.size w w12) := Lib.hid (D6.out.bel.trans (B12.out.mono D6.out.bel.size))
            clear hw12 hrow
            have heq := fun W => run_equal_i3 W (n0 : Int) (n1 : Int) (n2 : Int)
            go_wp2
            go_quiet (first
              | (go_at_call 13; with_reducible exact quiet_left (HSz.out _ _ _ _ (D12.out _)).1)
              | (go_at_call 13; with_reducible exact quiet_left (HSz.out _ _ _ _ (D12.out _)).2.1)
              | (go_at_call 13; with_reducible exact quiet_left (HSz.out _ _ _ _ (D12.out _)).2.2))
            go_wp2
            go_ret
            exact ⟨rfl, below_drewN HBE.out _⟩
end Go.Proofs.YtjodehdmafagoaaDoor
