/- ShaConstants: the walk. -/
import Derived.Test.YtbpmigcbfbdnjaaDoorConst
namespace Go.Proofs.YtbpmigcbfbdnjaaDoor
open Go.RowKit Go.ChangeShapes Go.WideShapes Go.ChangeAt

set_option maxRecDepth 100000 in
set_option maxHeartbeats 2000000 in
theorem Constants_any (w : World) :
    Calls Tryd.prog 19 #[] w fun e w' => ∃ v, e = .returned v ∧ OI w' w.heap.size v ktab ∧ Below w.heap.size w w' := by
  have Hlit := Lib.hid (OI.lit w w.heap.size (Nat.le_refl _) [] 0 rfl (by decide))
  go_enter Tryd.func19, Tryd.ntmps19
  go_wp2_with fail
  go_loopg [1, 2] 310 (fun k s1 s2 wr => ∃ (A : Option Addr) (n cap p : Nat), s1 = .slice A n cap ∧ s2 = .int .i64 (p : Int) ∧ p + k = 312 ∧ 2 ≤ p ∧ (constL p).length = n ∧ OI wr w.heap.size (.slice A n cap) (constL p) ∧ Below w.heap.size w wr)
  case atStart => exact ⟨_, 0, 0, 2, rfl, rfl, rfl, Nat.le_refl _, rfl, Hlit.out, (Below.refl _ w).alloc (Nat.le_refl _) _⟩
  case round =>
    obtain ⟨A, n, cap, p, rfl, rfl, hpk, hp2, hn, hown, hbel⟩ := hrel
    have Hn := Lib.hid hn
    have Hown := Lib.hid hown
    have Hbel := Lib.hid hbel
    clear hn hown hbel
    by_cases hp : p < 312
    · have hlt : decide ((n : Int) < 64) = true := decide_eq_true (by have := constL_small p hp2 hp; have := Hn.out; omega)
      have hle : n ≤ 64 := by have := constL_small p hp2 hp; have := Hn.out; omega
      have HS := Lib.hid (constL_succ p hp2)
      generalize constL p = L0 at *
      generalize hL1 : constL (p + 1) = L1 at *
      have HL1 := Lib.hid hL1
      clear hL1
      obtain ⟨wo, hwo⟩ : ∃ wo : World, wo = wr := ⟨_, rfl⟩
      subst hwo
      go_wp2_with fail
      go_loopg [3, 4] (p - 2) (fun k s3 s4 wr => ∃ d : Nat, s3 = .bool (primeK p d) ∧ s4 = .int .i64 (d : Int) ∧ d + k = p ∧ 2 ≤ d ∧ wr = wo)
      case atStart => exact ⟨2, rfl, rfl, by omega, Nat.le_refl _, rfl⟩
      case round =>
        obtain ⟨d, rfl, rfl, hdk, hd2, rfl⟩ := hrel
        by_cases hd : d < p
        · have HK := Lib.hid (primeK_succ p d hd2)
          have hm : ((p : Int) % (d : Int) != 0) = (p % d != 0) := by
            rw [Bool.eq_iff_iff, bne_iff_ne, bne_iff_ne]
            constructor
            · intro h e; exact h (by rw [← Int.natCast_emod, e]; rfl)
            · intro h e; exact h (by rw [← Int.natCast_emod] at e; exact_mod_cast e)
          have Hm := Lib.hid hm
          have hd0 : (0 : Int) < (d : Int) := by omega
          have hd1 : ((d : Int) == 0) = false := by simp; omega
          clear hm
          cases hb : primeK p d with
          | true =>
            have Hb := Lib.hid hb
            clear hb
            go_wp2
            rw [Hm.out]
            go_roundg (gk - 1)
            case measure => omega
            case rel => exact ⟨d + 1, by rw [HK.out, Hb.out, Bool.true_and], by go_num, by omega, by omega, rfl⟩
          | false =>
            have Hb := Lib.hid hb
            clear hb
            go_wp2
            go_roundg (gk - 1)
            case measure => omega
            case rel => exact ⟨d + 1, by rw [HK.out, Hb.out, Bool.false_and], by go_num, by omega, by omega, rfl⟩
        · obtain rfl : d = p := by omega
          have HP := Lib.hid (show isP d = primeK d d from rfl)
          cases hb : primeK d d with
          | true =>
            have Hb := Lib.hid hb
            clear hb
            rw [HP.out, Hb.out, if_pos rfl] at HS
            go_wp2_with (first
              | (go_at_call 56; refine (root_any d wr (by omega)).mono ?_; rintro e w2 ⟨rfl, hb2⟩; have Hb2 := Lib.hid (Hbel.out.trans (hb2.mono Hbel.out.size)); have Ho2 := Lib.hid (Hown.out.below hb2); clear hb2)
              | (at_builtin; refine wpList_append_i rfl (.tmp 24) (.tmp 27) 36 rfl (Ho2.out.alloc _) rfl (Src.liti w2 _ [constW d] (by rw [icells, List.map_cons, List.map_nil, constW_nat]) 1 1 rfl) rfl ?_ ?_ ?_; rotate_right; intro v3 w3 hown3 hgr3 hat3; rw [← HS.out] at hown3; obtain ⟨A3, c3, hv3, hc3, hm3, hr3⟩ := hown3.form; subst hv3)
              | fail)
            case refine_1 => have := Hn.out; simp; omega
            case refine_2 => have := Hb2.out.size; simp; omega
            have Hown3 := Lib.hid hown3
            have Hb3 := Lib.hid (below_append_i (Hb2.out.alloc Hb2.out.size _) hgr3 (Ho2.out.alloc _) (Nat.le_refl _) (by have := Hb2.out.size; simp; omega))
            clear hown3 hgr3 hat3 hr3 hc3 hm3
            go_wp2
            go_roundg (312 - (d + 1))
            case measure => omega
            case rel => exact ⟨A3, _, c3, d + 1, rfl, by go_num, by omega, by omega, by rw [HL1.out], by rw [HL1.out]; exact Hown3.out, Hb3.out⟩
          | false =>
            have Hb := Lib.hid hb
            clear hb
            rw [HP.out, Hb.out, if_neg (by decide), List.append_nil] at HS
            go_wp2
            go_roundg (312 - (d + 1))
            case measure => omega
            case rel => exact ⟨A, n, cap, d + 1, rfl, by go_num, by omega, by omega, by rw [HL1.out, HS.out]; exact Hn.out, by rw [HL1.out, HS.out]; exact Hown.out, Hbel.out⟩
    · obtain rfl : p = 312 := by omega
      rw [constL_312] at Hown Hn
      have hn64 : n = 64 := by rw [← Hn.out]; rfl
      subst hn64
      go_wp2
      go_ret
      exact ⟨_, rfl, Hown.out, Hbel.out⟩

set_option maxRecDepth 100000 in
theorem SameInts_eq (A B : Option Addr) (n c d : Nat) (l : List UInt32) (w : World) (hl : IR w A n l) (hr : IR w B n l) (hn : n ≤ 1000000) :
    Calls Tryd.prog 18 #[.slice A n c, .slice B n d] w fun e w' => e = .returned (.bool true) ∧ ∃ k, w' = w.drewN k := by
  have hne : ((n : Int) != (n : Int)) = false := by simp
  go_enter Tryd.func18, Tryd.ntmps18
  go_wp2_with fail
  go_loopw [13] (fun i wr => ∃ k : Nat, k ≤ n ∧ i = .int .i64 (k : Int) ∧ ∃ q, wr = w.drewN q) (fun i _ => n - (intOf i).toNat)
  case atStart => exact ⟨0, by omega, rfl, 0, rfl⟩
  case round =>
    obtain ⟨k, hk, rfl, q, rfl⟩ := hrel
    by_cases hlt : k < n
    · obtain ⟨b, o, rfl, hb⟩ := hl.2 (by omega)
      obtain ⟨b', o', rfl, hb'⟩ := hr.2 (by omega)
      have c0 := hb k hlt
      have c1 := hb' k hlt
      clear hb hb' hl hr
      have k0 : (0 : Int) ≤ (k : Int) := by omega
      have k1 : (k : Int) < (n : Int) := by omega
      generalize l.getD k 0 = x at *
      go_wp2_with fail
      go_quiet (fail)
      go_wp2
      go_roundw
      case rel => exact ⟨k + 1, by omega, by go_num, _, rfl⟩
      case measure => simp [intOf]; omega
    · obtain rfl : k = n := by omega
      go_wp2
      go_ret
      exact ⟨rfl, _, rfl⟩

set_option maxRecDepth 100000 in
theorem ShaConstants_any (w : World) (ht : ShaTabs w) : Calls Tryd.prog 5 #[] w fun e w' => e = .returned (.bool true) ∧ Below w.heap.size w w' := by
  go_enter Tryd.func5, Tryd.ntmps5
  go_wp2_with fail
  refine (alive01_any w ht).mono ?_
  rintro e w1 ⟨rfl, hb1⟩
  go_wp2_with fail
  refine (Constants_any w1).mono ?_
  rintro e w2 ⟨v, rfl, hown2, hb2⟩
  obtain ⟨A, c, rfl, _, _, hr2⟩ := hown2.form
  clear hown2
  rw [show ktab.length = 64 from rfl] at *
  go_wp2_with fail
  refine (Table_any w2).mono ?_
  rintro e w3 ⟨rfl, hown3, hb3⟩
  have hr3 := hown3.ir rfl
  have hr2' := hr2.keep (Keeps.of_below hb3)
  clear hown3 hr2
  go_wp2_with fail
  refine (SameInts_eq _ _ 64 _ _ ktab w3 hr2' hr3 (by omega)).mono ?_
  rintro e w4 ⟨rfl, q, rfl⟩
  go_wp2_with fail
  go_ret
  have h2 := hb1.trans (hb2.mono hb1.size)
  exact ⟨rfl, below_drewN (h2.trans (hb3.mono h2.size)) q⟩

set_option maxRecDepth 100000 in
theorem shaConstants_contract {H : Type} {enc : TypeId × Value → H} {W : World} {base : Nat} {args : Array Value} {ds : List (DataW H)} {p : List MemPlace}
    (_hval : ∀ (j : Nat) t v, Tryd.f5.params[j]? = some t → args[j]? = some v → Value.okWide Tryd.prog W .any base t v)
    (hA : DataW.TrodAll enc Tryd.prog W 0 (fun _ => true) true Tryd.f5.params.toList args.toList ds p) (hL : laidMetH Tryd.prog Rows.shaConstantsRow.laid W) :
    Calls Tryd.prog 5 args W fun e w' => e = .returned (.bool true) ∧ Below W.heap.size W w' := by
  rw [Tryd.params5] at hA
  obtain ⟨rfl, rfl, rfl⟩ := trodAll_none hA
  exact ShaConstants_any W (ShaTabs.of_laid hL (by kernel_rfl) (by simp [Rows.shaConstantsRow]) (by simp [Rows.shaConstantsRow]))
end Go.Proofs.YtbpmigcbfbdnjaaDoor
