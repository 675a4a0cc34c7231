/- Layers 4 and 20: serial numbers' figures, keys' beginnings, kinds. -/
import Derived.Test.YtfmagnpmjlppiaaGreatDoorStP
import Derived.Test.YtfmagnpmjlppiaaGreatDoorWho
import Derived.Deep.LoopGhost
import Derived.Test.YtfmagnpmjlppiaaGreatDoorShelf
import Derived.Deep.RegionHeld3
namespace Go.Proofs.YtfmagnpmjlppiaaGreatDoor
open Go.RowKit SO
def restD (n : Nat) : List UInt8 := if n = 0 then [] else lowD n
theorem restD_zero : restD 0 = [] := rfl
theorem lowD_eq (n : Nat) : lowD n = UInt8.ofNat (48 + n % 10) :: restD (n / 10) := by
 by_cases h : n < 10
 ·rw [lowD_small h, restD, if_pos (by omega), Nat.mod_eq_of_lt h]
 ·rw [lowD_more h, restD, if_neg (by omega)]
theorem restD_pos {n : Nat} (h : 0 < n) : restD n = UInt8.ofNat (48 + n % 10) :: restD (n / 10) := by
 rw [← lowD_eq, restD, if_neg (by omega)]
theorem lowD_len : ∀ (k n : Nat), n < 10 ^ (k + 1) → (lowD n).length ≤ k + 1
 | 0, n, h => by rw [lowD_small (by simpa using h)]; simp
 | k + 1, n, h => by
  by_cases h10 : n < 10
  ·rw [lowD_small h10]; simp
  ·have hp : n / 10 < 10 ^ (k + 1) := by
    rw [Nat.div_lt_iff_lt_mul (by omega)]
    rw [Nat.pow_succ] at h
    exact h
   have := lowD_len k (n / 10) hp
   rw [lowD_more h10, List.length_cons]
   omega
/-- A number of the machine. -/
def Sm (n : Nat) : Prop := n < 9223372036854775808
theorem Sm.le {n m : Nat} (h : Sm n) (k : m ≤ n) : Sm m := Nat.lt_of_le_of_lt k h
theorem Sm.len {n : Nat} (h : Sm n) : (lowD n).length ≤ 19 := lowD_len 18 n (by unfold Sm at h; omega)
theorem dig_val (n : Nat) (hn : Sm n) : ∃ (c : UInt8) (m : Nat), c = UInt8.ofNat (48 + n % 10) ∧ m = n / 10 ∧ 48 + (n : Int).tmod 10 = (c.toNat : Int) ∧ 48 + (n : Int) % 10 = (c.toNat : Int) ∧ (n : Int).tdiv 10 = (m : Int) ∧ (n : Int) / 10 = (m : Int) ∧
  wrap64 (m : Int) = (m : Int) ∧ wrap64 (c.toNat : Int) = (c.toNat : Int) ∧ (c.toNat : Int) % 256 = (c.toNat : Int) := by
 unfold Sm at hn
 have h1 : (n : Int).tmod 10 = ((n % 10 : Nat) : Int) := by rw [Int.tmod_eq_emod_of_nonneg (by omega)]; omega
 have h2 : (UInt8.ofNat (48 + n % 10)).toNat = 48 + n % 10 := by rw [UInt8.toNat_ofNat']; omega
 refine ⟨_, _, rfl, rfl, ?_, ?_, ?_, ?_, ?_, ?_, ?_⟩
 ·rw [h1, h2]; omega
 ·rw [h2]; omega
 ·rw [Int.tdiv_eq_ediv_of_nonneg (by omega)]; omega
 ·omega
 ·unfold wrap64; omega
 ·rw [h2]; unfold wrap64; omega
 ·rw [h2]; omega

theorem inSp_any (kind : Int) (w : World) : Calls Tryz.prog 41 #[.int .i64 kind] w fun e w' => e = .returned (.bool (inSp kind)) ∧ w = w' := by
 by_cases h5 : kind = 5
 ·have HI : Hid (inSp kind = true) := Hj (by rw [h5]; rfl)
  have q : (kind == 5) = true := by rw [h5]; rfl
  clear h5
  go_enter Tryz.func41, Tryz.ntmps41
  go_wp2
  go_ret
  exact ⟨ret_bool HI.out.symm, rfl⟩
 ·have HI : Hid (inSp kind = (kind == 6)) := Hj (by unfold inSp; rw [decide_eq_false h5, Bool.false_or]; rfl)
  have q : (kind == 5) = false := beq_eq_false_iff_ne.2 h5
  clear h5
  go_enter Tryz.func41, Tryz.ntmps41
  go_wp2
  go_ret
  exact ⟨ret_bool HI.out.symm, rfl⟩
theorem quota_any (kind : Int) (w : World) : Calls Tryz.prog 42 #[.int .i64 kind] w fun e w' => e = .returned (.int .i64 (if kind = 1 then 8 else 32)) ∧ w = w' := by
 by_cases h5 : kind = 1
 ·rw [if_pos h5]
  have q : (kind == 1) = true := by rw [h5]; rfl
  clear h5
  go_enter Tryz.func42, Tryz.ntmps42
  go_wp2
  go_ret
  exact ⟨rfl, rfl⟩
 ·rw [if_neg h5]
  have q : (kind == 1) = false := beq_eq_false_iff_ne.2 h5
  clear h5
  go_enter Tryz.func42, Tryz.ntmps42
  go_wp2
  go_ret
  exact ⟨rfl, rfl⟩

set_option maxHeartbeats 2000000 in
set_option maxRecDepth 100000 in
theorem Serial_any (k : Int) (w : World) (hk : k ≤ 9223372036854775807) :
  Calls Tryz.prog 99 #[.int .i64 k] w fun e w' => e = .returned (.string (strB (serL k))) ∧ Below w.heap.size w w' := by
 by_cases hneg : k < 0
 ·have HS : Hid (serL k = []) := Hj (if_pos hneg)
  go_enter Tryz.func99, Tryz.ntmps99
  go_wp2
  go_ret
  exact ⟨by rw [HS.out]; rfl, Below.refl _ _⟩
 obtain ⟨n, rfl⟩ : ∃ n : Nat, k = (n : Int) := ⟨k.toNat, by omega⟩
 have HS : Hid (serL (n : Int) = (lowD n).reverse) := Hj (by unfold serL; rw [if_neg hneg]; rfl)
 have hn : Sm n := by unfold Sm; omega
 have HN := Hj hn
 have n0 : ¬ (n : Int) < 0 := by omega
 obtain ⟨c0, m0, hc0, hm0, hd1, hd2, hd3, hd4, hd5, hd6, hd7⟩ := dig_val n hn
 have HM0 := Hj hm0
 have HC0 := Hj hc0
 have HLit := Hj (OB.lit w w.heap.size Kj [c0] 1 rfl (by simp [maxLen]))
 clear hneg hk hn hm0 hc0
 go_enter Tryz.func99, Tryz.ntmps99
 go_wp2
 clear hd1 hd2 hd3 hd4 hd5 hd6 hd7 n0
 have HLL : Hid ((lowD n).length ≤ 19) := Hj HN.out.len
 go_loopg [0, 3] n (fun gk s0 s3 wr => ∃ (acc : List UInt8) (m : Nat), s0 = .int .i64 (m : Int) ∧ OB wr w.heap.size s3 acc ∧ lowD n = acc ++ restD m ∧ m ≤ gk ∧ m ≤ n ∧ Below w.heap.size w wr)
 case atStart => exact ⟨[c0], m0, rfl, HLit.out, by rw [HC0.out, HM0.out]; exact lowD_eq n, by rw [HM0.out]; omega, by rw [HM0.out]; omega, (Below.refl _ w).alloc Kj _⟩
 case round =>
  obtain ⟨acc, m, rfl, hob, hlow, hmg, hmn, hb⟩ := hrel
  have hlen : acc.length ≤ 19 := by
   have h1 := congrArg List.length hlow
   have := HLL.out
   rw [List.length_append] at h1
   omega
  obtain ⟨A, c, e, hc1, hc2, hrb⟩ := hob.form
  subst e
  have HOB := Hj hob
  have HB := Hj hb
  have HLow := Hj hlow
  have HMG := Hj hmg
  have HMN := Hj hmn
  have HLen := Hj hlen
  by_cases hm : m = 0
  ·subst hm
   have hacc : lowD n = acc := by rw [hlow, restD_zero, List.append_nil]
   have hpos : 0 < acc.length := by rw [← hacc, lowD_eq]; simp
   obtain ⟨b, o, rfl, -⟩ := hrb.2 hpos
   have HRv := Hj (Reverse_any b o c w.heap.size acc wr hob (by omega))
   have hbl := (OB.lt hob b rfl).1
   have HBL := Hj hbl
   have HA := Hj hacc
   obtain ⟨k, hk⟩ : ∃ k, k = acc.length := ⟨_, rfl⟩
   rw [← hk] at HRv ⊢
   have HK : Hid (acc.reverse.length = k) := Hj (by rw [List.length_reverse, hk])
   clear hob hb hlow hmg hmn hlen hc1 hc2 hrb hacc hpos hbl hk
   go_wp2_with (go_at_call 146; go_loud ((with_reducible refine HRv.out.mono ?_); rintro e w2 ⟨rfl, ho2, hf2⟩; have F2 := Hj hf2; have hcv : ∀ d, Tryz.prog.underlying d = some .string → (convert 24 d (.slice (some ⟨b, o, none⟩) k c)).run Tryz.prog w2 = .ok (.string (strB acc.reverse)) w2 := (fun d hd => by
     obtain ⟨A', c', e', -, -, h3⟩ := ho2.form
     injection e' with e1 e2 e3
     subst e1
     rw [HK.out] at h3
     exact run_bytes_string Tryz.underlying24 Tryz.underlying5 hd h3); have hcv2 := hcv 9 Tryz.underlying9; clear hcv ho2 hf2))
   go_ret
   exact ⟨by rw [HS.out, HA.out]; rfl, HB.out.trans (F2.out.below HB.out.size fun q _ e => by rw [e]; exact HBL.out)⟩
  ·have m0 : (0 : Int) < (m : Int) := Int.natCast_pos.2 (Nat.pos_of_ne_zero hm)
   obtain ⟨y, m1, hy, hm1, hd1, hd2, hd3, hd4, hd5, hd6, hd7⟩ := dig_val m (HN.out.le hmn)
   have HW5 := Hj hd5
   have HM1 := Hj hm1
   have HY := Hj hy
   have HM := Hj hm
   clear hob hb hlow hmg hmn hlen hc1 hc2 hrb hm1 hy hm
   go_wp2_with (at_builtin; go_loud (refine wpList_append_b rfl (.tmp 17) (.tmp 22) 24 rfl (OB.alloc HOB.out _) rfl (Src.lit wr _ [y] rfl 1 1 rfl) rfl (by clear hd1 hd2 hd3 hd4 hd5 hd6 hd7; have := HLen.out; simp; omega) (by clear hd1 hd2 hd3 hd4 hd5 hd6 hd7; have := HB.out.size; simp; omega) ?_; intro v2 w2 hown2 hgr2 hat2; obtain ⟨A2, c2, e2, -, -, -⟩ := hown2.form; subst e2; have O2 := Hj hown2; have B2 : Hid (Below w.heap.size w w2) := Hj (below_append ((HB.out).alloc HB.out.size _) hgr2 (OB.alloc HOB.out _) Kj (by clear hd1 hd2 hd3 hd4 hd5 hd6 hd7; have := HB.out.size; simp; omega)); clear hown2 hgr2 hat2))
   go_roundg m1
   case measure => clear hd1 hd2 hd3 hd4 hd5 hd6 hd7; have := HMG.out; have := HM.out; have := HM1.out; omega
   case rel => exact ⟨acc ++ [y], m1, by first | rfl | rw [HW5.out], by have h := O2.out; rw [show (acc ++ [y]).length = acc.length + 1 by simp] at h; exact h, by rw [HLow.out, restD_pos (Nat.pos_of_ne_zero HM.out), ← HY.out, ← HM1.out, List.append_assoc]; rfl, Nat.le_refl _, by clear hd1 hd2 hd3 hd4 hd5 hd6 hd7; have := HM1.out; have := HMN.out; omega, B2.out⟩
end Go.Proofs.YtfmagnpmjlppiaaGreatDoor

/- Layers 4, 7 and 20: labels, serial numbers' figures, keys. -/
namespace Go.Proofs.YtfmagnpmjlppiaaGreatDoor
open Go.RowKit SO
abbrev lettersS : ByteArray := ⟨#[97, 98, 99, 100, 101, 102, 103, 104, 105, 106, 107, 108, 109, 110, 111, 112, 113, 114, 115, 116, 117, 118, 119, 120, 121, 122, 48, 49, 50, 51, 52, 53, 54, 55, 56, 57]⟩
theorem let_all : ((List.range 256).all fun n => decide (0 ≤ Lib.indexByte lettersS.data.toList (UInt8.ofNat n)) == letC (UInt8.ofNat n)) = true := by decide +kernel
theorem let_is (c : UInt8) : decide (0 ≤ Lib.indexByte lettersS.data.toList c) = letC c := by
 have h := List.all_eq_true.1 let_all c.toNat (by simpa using c.toNat_lt)
 simpa using h
theorem lab_get {s : ByteArray} {i : Nat} (h : i < s.size) : s.data.toList.getD i 0 = s[i] := by
 rw [List.getD_eq_getElem?_getD, List.getElem?_eq_getElem (by rw [size_data]; exact h)]
 rfl
theorem lab_all {l : List UInt8} {p : UInt8 → Bool} (h : ∀ j, j < l.length → p (l.getD j 0) = true) : l.all p = true := by
 rw [List.all_eq_true]
 intro x hx
 obtain ⟨j, hj, e⟩ := List.mem_iff_getElem.1 hx
 have := h j hj
 rwa [List.getD_eq_getElem?_getD, List.getElem?_eq_getElem hj, Option.getD_some, e] at this

theorem hyp0 : ((⟨#[45]⟩ : ByteArray)[0].toNat : Int) = 45 := rfl
theorem drewN_add (w : World) (a b : Nat) : (w.drewN a).drewN b = w.drewN (a + b) := by simp [World.drewN, Nat.add_assoc]

set_option maxHeartbeats 2000000 in
set_option maxRecDepth 100000 in
theorem Label_any (s : ByteArray) (w : World) :
  Calls Tryz.prog 102 #[.string s] w fun e w' => e = .returned (.bool (labB s.data.toList)) ∧ ∃ k, w' = w.drewN k := by
 have hsz := size_data s
 by_cases h0 : s.size = 0
 ·have q : (s.toList == []) = true := by rw [ByteArray.toList_eq, List.eq_nil_of_length_eq_zero (l := s.data.toList) (by rw [hsz]; exact h0)]; rfl
  have HL : Hid (labB s.data.toList = false) := Hj (by unfold labB; rw [hsz, h0]; rfl)
  clear h0 hsz
  go_enter Tryz.func102, Tryz.ntmps102
  go_wp2
  go_ret
  exact ⟨ret_bool HL.out.symm, 0, rfl⟩
 have q : (s.toList == []) = false := by
  rw [ByteArray.toList_eq]
  cases hl : s.data.toList with
  | nil => rw [hl] at hsz; exact absurd hsz.symm h0
  | cons a b => rfl
 by_cases h24 : 24 < s.size
 ·have HL : Hid (labB s.data.toList = false) := Hj (by unfold labB; rw [hsz, decide_eq_false (show ¬ s.size ≤ 24 by omega), Bool.false_and, Bool.and_false])
  have q2 : (24 : Int) < (s.size : Int) := by omega
  clear h0 hsz h24
  go_enter Tryz.func102, Tryz.ntmps102
  go_wp2
  go_ret
  exact ⟨ret_bool HL.out.symm, 0, rfl⟩
 have q2 : ¬ (24 : Int) < (s.size : Int) := by omega
 have HL : Hid (labB s.data.toList = (!(Lib.hasPrefix s.data.toList [45]) && (!(Lib.hasSuffix s.data.toList [45]) && s.data.toList.all fun c => (c == 45) || letC c))) := Hj (by
  unfold labB; rw [hsz, decide_eq_true (show 0 < s.size by omega), decide_eq_true (show s.size ≤ 24 by omega), Bool.true_and, Bool.true_and])
 have HP : Hid (Calls Tryz.prog 151 #[.string s, .string ⟨#[45]⟩] w fun e w' => e = .returned (.bool (Lib.hasPrefix s.data.toList [45])) ∧ w' = w) := Hj (Tryz.strings_HasPrefix s ⟨#[45]⟩ w)
 have HS : Hid (Calls Tryz.prog 152 #[.string s, .string ⟨#[45]⟩] w fun e w' => e = .returned (.bool (Lib.hasSuffix s.data.toList [45])) ∧ w' = w) := Hj (Tryz.strings_HasSuffix s ⟨#[45]⟩ w (by omega))
 have HZ := Hj hsz
 have HZ24 : Hid (s.size ≤ 24) := Hj (by omega)
 clear hsz h0 h24
 cases hp : Lib.hasPrefix s.data.toList [45] with
 | true =>
  rw [hp] at HP HL
  clear hp
  go_enter Tryz.func102, Tryz.ntmps102
  go_wp2_with (go_at_call 151; refine HP.out.mono ?_; rintro e w' ⟨rfl, hw⟩; rw [hw]; clear hw)
  go_ret
  exact ⟨ret_bool (by rw [HL.out]; rfl), 0, rfl⟩
 | false =>
  rw [hp] at HP HL
  clear hp
  cases hp : Lib.hasSuffix s.data.toList [45] with
  | true =>
   rw [hp] at HS HL
   clear hp
   go_enter Tryz.func102, Tryz.ntmps102
   go_wp2_with (first
    | (go_at_call 151; refine HP.out.mono ?_; rintro e w' ⟨rfl, hw⟩; rw [hw]; clear hw)
    | (go_at_call 152; refine HS.out.mono ?_; rintro e w' ⟨rfl, hw⟩; rw [hw]; clear hw))
   go_ret
   exact ⟨ret_bool (by rw [HL.out]; rfl), 0, rfl⟩
  | false =>
   rw [hp] at HS HL
   clear hp
   have HL2 : Hid (labB s.data.toList = s.data.toList.all fun c => (c == 45) || letC c) := Hj (by rw [HL.out]; rfl)
   clear HL
   go_enter Tryz.func102, Tryz.ntmps102
   go_wp2_with (first
    | (go_at_call 151; refine HP.out.mono ?_; rintro e w' ⟨rfl, hw⟩; rw [hw]; clear hw)
    | (go_at_call 152; refine HS.out.mono ?_; rintro e w' ⟨rfl, hw⟩; rw [hw]; clear hw))
   go_loopg [21] s.size (fun gk s21 wr => ∃ i k : Nat, s21 = .int .i64 (i : Int) ∧ i + gk = s.size ∧ (∀ j, j < i → ((s.data.toList.getD j 0 == 45) || letC (s.data.toList.getD j 0)) = true) ∧ wr = w.drewN k)
   case atStart => exact ⟨0, 0, rfl, by omega, fun j hj => absurd hj (by omega), rfl⟩
   case round =>
    obtain ⟨i, k, rfl, hik, hall, hwr⟩ := hrel
    have HI := Hj hik
    have HAll := Hj hall
    have HW := Hj hwr
    have HLt := Hj HZ24.out
    by_cases hlt : i < s.size
    ·have HG := Hj (lab_get hlt)
     have hsi : (i : Int) < (s.size : Int) := by omega
     have hi0 : (0 : Int) ≤ (i : Int) := by omega
     by_cases hc : s[i].toNat = 45
     ·have hcc : s[i] = 45 := UInt8.toNat_inj.1 hc
      have HC := Hj hcc
      have hq : (s[i].toNat : Int) = 45 := by omega
      have h45 := hyp0
      clear hik hall hwr hc hcc
      go_wp2
      go_quiet (fail)
      go_wp2
      go_roundg (gk - 1)
      case measure => have := HI.out; omega
      case rel =>
       refine ⟨i + 1, _, by go_num, by have := HI.out; omega, fun j hj => ?_, by rw [HW.out, drewN_add]⟩
       by_cases e : j = i
       ·subst e; rw [HG.out, HC.out]; rfl
       ·exact HAll.out j (by omega)
     ·have hq : ¬ (s[i].toNat : Int) = 45 := by omega
      have hqb : ((s[i].toNat : Int) != 45) = true := by simpa using hq
      have h45 := hyp0
      have HI2 := let_is s[i]
      cases hlc : letC s[i] with
      | true =>
       have HC := Hj hlc
       rw [hlc] at HI2
       have h3 : 0 ≤ Lib.indexByte lettersS.data.toList s[i] := of_decide_eq_true HI2
       obtain ⟨X, hX⟩ : ∃ X, X = Lib.indexByte lettersS.data.toList s[i] := ⟨_, rfl⟩
       rw [← hX] at h3
       have HIx : Hid (∀ W, Calls Tryz.prog 153 #[.string ⟨#[97, 98, 99, 100, 101, 102, 103, 104, 105, 106, 107, 108, 109, 110, 111, 112, 113, 114, 115, 116, 117, 118, 119, 120, 121, 122, 48, 49, 50, 51, 52, 53, 54, 55, 56, 57]⟩, .int .u8 (s[i].toNat : Int)] W fun e w' => e = .returned (.int .i64 X) ∧ w' = W) := Hj fun W => by
        have h := Tryz.strings_IndexByte lettersS (s[i].toNat : Int) W
        rw [show ((s[i].toNat : Int)).toNat.toUInt8 = s[i] by simp, ← hX] at h
        exact h
       clear hik hall hwr hc hlc HI2 hX
       go_wp2
       go_quiet ((go_at_call 153; with_reducible exact Calls.quiet_of_same (HIx.out _)))
       go_wp2
       go_roundg (gk - 1)
       case measure => have := HI.out; omega
       case rel =>
        refine ⟨i + 1, _, by go_num, by have := HI.out; omega, fun j hj => ?_, by rw [HW.out, drewN_add]⟩
        by_cases e : j = i
        ·subst e; rw [HG.out, HC.out, Bool.or_true]
        ·exact HAll.out j (by omega)
      | false =>
       have HC := Hj hlc
       rw [hlc] at HI2
       have h3 : ¬ 0 ≤ Lib.indexByte lettersS.data.toList s[i] := of_decide_eq_false HI2
       obtain ⟨X, hX⟩ : ∃ X, X = Lib.indexByte lettersS.data.toList s[i] := ⟨_, rfl⟩
       rw [← hX] at h3
       have h4 : X < 0 := by omega
       have HIx : Hid (∀ W, Calls Tryz.prog 153 #[.string ⟨#[97, 98, 99, 100, 101, 102, 103, 104, 105, 106, 107, 108, 109, 110, 111, 112, 113, 114, 115, 116, 117, 118, 119, 120, 121, 122, 48, 49, 50, 51, 52, 53, 54, 55, 56, 57]⟩, .int .u8 (s[i].toNat : Int)] W fun e w' => e = .returned (.int .i64 X) ∧ w' = W) := Hj fun W => by
        have h := Tryz.strings_IndexByte lettersS (s[i].toNat : Int) W
        rw [show ((s[i].toNat : Int)).toNat.toUInt8 = s[i] by simp, ← hX] at h
        exact h
       have HN : Hid (¬ s[i] = 45) := Hj fun e => hc (by rw [e]; rfl)
       clear hik hall hwr hc hlc HI2 hX h3
       go_wp2
       go_quiet ((go_at_call 153; with_reducible exact Calls.quiet_of_same (HIx.out _)))
       go_wp2
       go_ret
       refine ⟨ret_bool ?_, _, by rw [HW.out, drewN_add]⟩
       rw [HL2.out]
       symm
       rw [Bool.eq_false_iff]
       intro h
       have := List.all_eq_true.1 h s[i] (by rw [← HG.out, List.getD_eq_getElem?_getD, List.getElem?_eq_getElem (by rw [HZ.out]; exact hlt)]; exact List.getElem_mem _)
       rw [HC.out, Bool.or_false] at this
       exact HN.out (by simpa using this)
    ·have e : i = s.size := by omega
     have q5 : ¬ (i : Int) < (s.size : Int) := by omega
     have HLab : Hid (labB s.data.toList = true) := Hj (by rw [HL2.out]; exact lab_all fun j hj => HAll.out j (by rw [HZ.out] at hj; omega))
     clear hik hall hwr e hlt
     go_wp2
     go_ret
     exact ⟨ret_bool HLab.out.symm, _, HW.out⟩
end Go.Proofs.YtfmagnpmjlppiaaGreatDoor
