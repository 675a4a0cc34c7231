/- Layer 20 (store): Count, used, Rev. -/
import Derived.Test.YtfmagnpmjlppiaaGreatDoorStS
import Derived.Test.YtfmagnpmjlppiaaGreatDoorNam
namespace Go.Proofs.YtfmagnpmjlppiaaGreatDoor
open Go.RowKit SO
def toL (kind : Int) (space : ByteArray) : List UInt8 := serL kind ++ [47] ++ space.data.toList ++ [48]
/-- How many there are of a kind. -/
def cntM (M : StM) (kind : Int) (space : ByteArray) : Int := (rank klt (strB (toL kind space)) M.tab : Int) - (rank klt (strB (rowL kind space)) M.tab : Int)
theorem rank_map {κ ν μ : Type} {lt : κ → κ → Bool} (f : ν → μ) (k : κ) (l : List (κ × ν)) : rank lt k (l.map fun x => (x.1, f x.2)) = rank lt k l := by
 unfold rank
 rw [List.filter_map, List.length_map]
 rfl
theorem rank_le {κ ν : Type} {lt : κ → κ → Bool} (k : κ) (l : List (κ × ν)) : rank lt k l ≤ l.length := List.length_filter_le _ _
section
variable {w w0 : World} {Q : Nat → Prop} {g gs : Nat} {m : DM} {L : LM} {M : StM}
set_option maxHeartbeats 2000000 in
theorem Count_any (kind : Int) (space : ByteArray) (h : SW w0 w Q g m gs L M) (hk : kind ≤ 9223372036854775807) (hs : space.size ≤ 1000) (hl : M.tab.length ≤ 1000000) :
  Calls Tryz.prog 22 #[.pointer (some ⟨gs, 0, none⟩), .int .i64 kind, .string space] w fun e w' => e = .returned (.int .i64 (cntM M kind space)) ∧ Below w.heap.size w w' := by
 obtain ⟨Z, gl, gt, sh, ev, xs, ys, hV, -, -⟩ := h.use
 have hxl : xs.length ≤ 1000000 := by have := congrArg List.length hV.tabM; rw [List.length_map] at this; omega
 have HR := Hj (row_any kind space w hk hs)
 obtain ⟨s1, hs1⟩ : ∃ s, s = strB (rowL kind space) := ⟨_, rfl⟩
 obtain ⟨s0, hs0⟩ : ∃ s, s = strB (serL kind ++ [47] ++ space.data.toList) := ⟨_, rfl⟩
 have hz1 : s1.size = (serL kind ++ [47] ++ space.data.toList).length + 1 := by rw [hs1, strB_size]; unfold rowL; rw [List.length_append]; rfl
 have hz0 : s0.size = (serL kind ++ [47] ++ space.data.toList).length := by rw [hs0, strB_size]
 obtain ⟨J, hJ⟩ : ∃ j, j = (serL kind ++ [47] ++ space.data.toList).length := ⟨_, rfl⟩
 rw [← hJ] at hz1 hz0
 have hJl : J ≤ 1021 := by have := rowL_len hk hs; rw [hJ]; unfold rowL at this; rw [List.length_append] at this; simp only [List.length_cons, List.length_nil] at this; omega
 have hex : s1.extract 0 J = s0 := by
  rw [hs1, hs0]
  unfold rowL
  refine ByteArray.ext ?_
  rw [hJ]
  simp [strB]
  rw [← List.cons_append, List.dropLast_concat]
 have hsl : ∀ W, (Instr.slice 9 (.string s1) none (some (.int .i64 (J : Int))) none).run Tryz.prog W = .ok (.string s0) W := fun W => by
  rw [run_slice_string_h W 9 s1 Tryz.underlying9 .i64 (J : Int) (by omega) (by omega)]
  rw [show (J : Int).toNat = J from rfl, hex]
 have hw1 : IntKind.i64.wrap ((s1.size : Int) - 1) = (J : Int) := by rw [IntWalk.i64_in _ (by omega)]; omega
 have hw2 : wrap64 ((s1.size : Int) - 1) = (J : Int) := by unfold wrap64; omega
 have hcat : ¬ 9223372036854775807 < s0.size + 1 := by omega
 rw [← hs1] at HR
 have HTab : Hid (∀ W, Below w.heap.size w W → TabAt W gt sh (xs.map fun x => (x.1, x.2.1))) := Hj fun W hW => (hV.below hW).tab
 have HC : Hid (∀ W, Below w.heap.size w W → W.cell? ⟨gs, 1, none⟩ = some (.pointer (some ⟨gt, 0, none⟩))) := Hj fun W hW => (hV.below hW).cell.2.1
 obtain ⟨a, ha⟩ : ∃ a, a = rank klt (strB (toL kind space)) M.tab := ⟨_, rfl⟩
 obtain ⟨b, hb⟩ : ∃ b, b = rank klt (strB (rowL kind space)) M.tab := ⟨_, rfl⟩
 have hae : rank klt (s0 ++ ⟨#[48]⟩) (xs.map fun x => (x.1, x.2.1)) = a := by
  rw [rank_map (fun y : OV × ObM => y.1), ha, hV.tabM, rank_map (fun y : OV × ObM => y.2)]
  rw [show s0 ++ ⟨#[48]⟩ = strB (toL kind space) from by rw [hs0]; exact strB_app _ [48]]
 have hbe : rank klt s1 (xs.map fun x => (x.1, x.2.1)) = b := by
  rw [rank_map (fun y : OV × ObM => y.1), hb, hV.tabM, rank_map (fun y : OV × ObM => y.2), hs1]
 have hal : a ≤ 1000000 := by rw [ha]; exact Kv (rank_le _ _) hl
 have hbl : b ≤ 1000000 := by rw [hb]; exact Kv (rank_le _ _) hl
 have HCnt : Hid (cntM M kind space = (a : Int) - (b : Int)) := Hj (by unfold cntM; rw [← ha, ← hb])
 have hris := hV.ris
 have HRk1 : Hid (∀ W, TabAt W gt sh (xs.map fun x => (x.1, x.2.1)) → Calls Tryz.prog 55 #[.pointer (some ⟨gt, 0, none⟩), (.string (s0 ++ ⟨#[48]⟩))] W fun e w' => e = .returned (.int .i64 (a : Int)) ∧ W = w') := Hj fun W ht => by
  have h := Rank_T gt (s0 ++ ⟨#[48]⟩) sh _ W ht hris (by rw [List.length_map]; omega)
  rw [hae] at h
  exact h
 have HRk2 : Hid (∀ W, TabAt W gt sh (xs.map fun x => (x.1, x.2.1)) → Calls Tryz.prog 55 #[.pointer (some ⟨gt, 0, none⟩), (.string s1)] W fun e w' => e = .returned (.int .i64 (b : Int)) ∧ W = w') := Hj fun W ht => by
  have h := Rank_T gt s1 sh _ W ht hris (by rw [List.length_map]; omega)
  rw [hbe] at h
  exact h
 have hwr : IntKind.i64.wrap ((a : Int) - (b : Int)) = (a : Int) - (b : Int) := IntWalk.i64_in _ (by omega)
 have hJ0 : (0 : Int) ≤ (J : Int) := by omega
 have hJ1 : (J : Int) ≤ (s1.size : Int) := by omega
 clear h hk hs hl hV hxl hs1 hs0 hz1 hz0 hJ hJl hex ha hb hae hbe hal hbl hris
 go_enter Tryz.func22, Tryz.ntmps22
 go_wp2_with (go_at_call 51; (with_reducible refine HR.out.mono ?_); rintro e w2 ⟨rfl, hb2⟩; have HB2 := Hj hb2; have c1 : w2.drew.cell? ⟨gs, 1, none⟩ = some (.pointer (some ⟨gt, 0, none⟩)) := (HC.out w2 hb2 : w2.cell? _ = _); have HT2 : Hid (TabAt w2.drew gt sh (xs.map fun x => (x.1, x.2.1))) := Hj (HTab.out w2.drew ⟨hb2.os, hb2.tape, hb2.output, hb2.size, hb2.block⟩); clear hb2)
 refine wp_region_noPanic ?_
 refine wp_region_held_drew (S := (fun w' => w'.cell? ⟨gs, 1, none⟩ = some (.pointer (some ⟨gt, 0, none⟩)))) (by kernel_rfl) ?_ (fun hHeld => ?_)
 ·exact c1
 refine tk 0 hHeld ?_
 try simp only [pa]
 refine tk 1 hHeld ?_
 try simp only [pa]
 refine tk 2 hHeld ?_
 try simp only [pa]
 refine tk 3 hHeld ?_
 try simp only [pa]
 refine tk 4 hHeld ?_
 try simp only [pa]
 refine tk 5 hHeld ?_
 try simp only [pa]
 refine tk 6 hHeld ?_
 try simp only [pa]
 refine tk 7 hHeld ?_
 try simp only [pa]
 refine tk 8 hHeld ?_
 try simp only [pa]
 refine tk 9 hHeld ?_
 try simp only [pa]
 refine tk 11 hHeld ?_
 try simp only [pa]
 refine tk 12 hHeld ?_
 try simp only [pa]
 refine tk 13 hHeld ?_
 try simp only [pa]
 refine tk 14 hHeld ?_
 try simp only [pa]
 refine tk 15 hHeld ?_
 try simp only [pa]
 refine rd1 10 rfl (fun K hK => ?_)
 go_simp
 refine (HRk1.out w2.drew HT2.out).mono ?_
 rintro e w' ⟨rfl, rfl⟩
 refine hK.out _ _ ?_ (fun hHeld => ?_)
 ·exact hHeld
 clear hK K
 try simp only [pa]
 refine rd1 16 rfl (fun K hK => ?_)
 go_simp
 refine (HRk2.out w2.drew HT2.out).mono ?_
 rintro e w' ⟨rfl, rfl⟩
 refine hK.out _ _ ?_ (fun hHeld => ?_)
 ·exact hHeld
 clear hK K
 try simp only [pa]
 refine tk 17 hHeld ?_
 try simp only [pa]
 refine tk 18 hHeld ?_
 try simp only [pa]
 refine wpAnyH_done (by kernel_rfl) ?_ _
 refine NoPanic.normal ?_
 go_wp2
 go_ret
 exact ⟨by rw [HCnt.out]; rfl, below_dr HB2.out⟩
theorem used_any (space : ByteArray) (h : SW w0 w Q g m gs L M) (hs : space.size ≤ 1000) (hl : M.tab.length ≤ 1000000) :
  Calls Tryz.prog 45 #[.pointer (some ⟨gs, 0, none⟩), .string space] w fun e w' => e = .returned (.bool (decide (0 < cntM M 5 space) || decide (0 < cntM M 6 space))) ∧ Below w.heap.size w w' := by
 have H5 := Hj (Count_any 5 space h (by omega) hs hl)
 have H6 : Hid (∀ W, Below w.heap.size w W → Calls Tryz.prog 22 #[.pointer (some ⟨gs, 0, none⟩), .int .i64 6, .string space] W fun e w' => e = .returned (.int .i64 (cntM M 6 space)) ∧ Below W.heap.size W w') := Hj fun W hW => Count_any 6 space (h.below hW) (by omega) hs hl
 generalize cntM M 5 space = a at *
 generalize cntM M 6 space = b at *
 clear h hs hl
 by_cases ha : 0 < a
 ·have HR : Hid ((decide (0 < a) || decide (0 < b)) = true) := Hj (by rw [decide_eq_true ha]; rfl)
  go_enter Tryz.func45, Tryz.ntmps45
  go_wp2_with (go_at_call 22; (with_reducible refine H5.out.mono ?_); rintro e w2 ⟨rfl, hb2⟩; have HB2 := Hj hb2; clear hb2)
  go_ret
  exact ⟨by rw [HR.out]; rfl, HB2.out⟩
 ·have HR : Hid ((decide (0 < a) || decide (0 < b)) = decide (0 < b)) := Hj (by rw [decide_eq_false ha]; rfl)
  have ha2 : a ≤ 0 := by omega
  go_enter Tryz.func45, Tryz.ntmps45
  go_wp2_with (first
   | (go_at_call 22; (with_reducible refine H5.out.mono ?_); rintro e w2 ⟨rfl, hb2⟩; have HB2 := Hj hb2; clear hb2)
   | (go_at_call 22; (with_reducible refine (H6.out w2 HB2.out).mono ?_); rintro e w3 ⟨rfl, hb3⟩; have HB3 := Hj (HB2.out.trans (hb3.mono HB2.out.size)); clear hb3))
  go_ret
  exact ⟨by rw [HR.out]; rfl, HB3.out⟩
theorem Rev_any (h : SW w0 w Q g m gs L M) : Calls Tryz.prog 17 #[.pointer (some ⟨gs, 0, none⟩)] w fun e w' => e = .returned (.int .i64 (M.rev : Int)) ∧ w = w' := by
 obtain ⟨Z, gl, gt, sh, ev, xs, ys, hV, -, -⟩ := h.use
 have c2 := hV.cell.2.2.1
 clear h hV
 go_enter Tryz.func17, Tryz.ntmps17
 go_wp2
 go_ret
 exact ⟨rfl, rfl⟩
end
end Go.Proofs.YtfmagnpmjlppiaaGreatDoor
