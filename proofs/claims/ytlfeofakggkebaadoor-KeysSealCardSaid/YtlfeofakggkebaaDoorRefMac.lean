/- The reference's Sum of layer 2: HMAC of a text. -/
import Derived.Test.YtlfeofakggkebaaDoorWith
import Derived.Test.YtlfeofakggkebaaDoorMacSumW
namespace Go.Proofs.YtlfeofakggkebaaDoor
open Go.RowKit

set_option linter.unusedSimpArgs false in
set_option maxHeartbeats 4000000 in
set_option maxRecDepth 100000 in
theorem RefMac_any (A : Option Addr) (n c : Nat) (key : List UInt8) (A2 : Option Addr) (n2 c2 : Nat) (text : List UInt8) (w : World) (hb : RB w A n key) (hn : n ≤ 1000000) (ht : RB w A2 n2 text) (hn2 : n2 ≤ 400000000000) :
    Calls Tryd.prog 59 #[.slice A n c, .slice A2 n2 c2] w fun e w' => e = .returned (.agg (bcells (hmacF key text)).toArray) ∧ Below w.heap.size w w' := by
  have Hb := Lib.hid hb
  have Hx := Lib.hid ht
  have Hxl := Lib.hid ht.1
  have Hn := Lib.hid hn
  clear hb ht hn
  have hb1 : Below w.heap.size w (w.alloc (.cells zer32 48)) := (Below.refl _ w).alloc (Nat.le_refl _) _
  have Hz1 := Lib.hid (heap_alloc_new w (.cells zer32 48))
  have Hb1 := Lib.hid hb1
  clear hb1
  go_enter Tryd.func59, Tryd.ntmps59
  go_wp2_with fail
  refine (with_any A n c key 54 _ (Hb.out.keep (Keeps.of_below ((Below.refl _ w).alloc (Nat.le_refl _) _))) Hn.out).mono ?_
  rintro e w2 ⟨v2, rfl, hown2, hb2⟩
  have Hown2 := Lib.hid (OB.mono hown2 (show w.heap.size + 1 ≤ _ by simp))
  have Hb2 := Lib.hid (Hb1.out.trans (hb2.mono (by simp)))
  have Hz2 := Lib.hid ((hb2.block w.heap.size (by simp)).trans Hz1.out)
  have Hs2 := Lib.hid (show w.heap.size + 1 ≤ w2.heap.size by have := hb2.size; simpa using this)
  have Hp64 := Lib.hid (padL_length key 54)
  clear hown2 hb2 Hz1 Hb1
  generalize hpk : padL key 54 = pk at *
  have Hpk := Lib.hid hpk
  clear hpk
  go_wp2_with (first
    | (at_builtin; refine wpList_append_b rfl (.tmp 7) (.tmp 8) 22 rfl Hown2.out rfl (RB.src Tryd.underlying22 (Hx.out.keep (Keeps.of_below Hb2.out))) rfl (by have := Hp64.out; have := Hxl.out; omega) Hs2.out ?_; intro v3 w3 hown3 hgr3 hat3)
    | fail)
  have hb3 : Below (w.heap.size + 1) w2 w3 := below_append (Below.refl _ _) hgr3 Hown2.out (Nat.le_refl _) Hs2.out
  have Hb3 := Lib.hid (Hb2.out.trans (hb3.mono (by omega)))
  have Hz3 := Lib.hid ((hb3.block w.heap.size (by omega)).trans Hz2.out)
  obtain ⟨A3, c3, hv3, _, _, hr3⟩ := hown3.form
  have Hr3 := Lib.hid hr3
  have Hl3 : Hid ((pk ++ text).length = 64 + n2) := by show _ = _; rw [List.length_append, Hp64.out, Hxl.out]
  subst hv3
  clear hb3 hgr3 hat3 hr3 hown3 Hz2 Hb2
  rw [Hl3.out]
  go_wp2_with fail
  refine (RefSum_any A3 (64 + n2) c3 (pk ++ text) w3 (by have h := Hr3.out; rw [Hl3.out] at h; exact h) (by omega)).mono ?_
  rintro e w5 ⟨rfl, hb5⟩
  obtain ⟨d1, hd1⟩ : ∃ d1, d1 = shaB kfun htab (pk ++ text) := ⟨_, rfl⟩
  have Hd32 : Hid (d1.length = 32) := by show _ = _; rw [hd1]; exact shaB_length _ _ _
  have HH : Hid (hmacF key text = shaB kfun htab (padL key 92 ++ d1)) := by show _ = _; rw [hd1, ← Hpk.out]; rfl
  rw [← hd1]
  obtain ⟨cur, hcur⟩ : ∃ cur, cur = (bcells d1).toArray := ⟨_, rfl⟩
  rw [← hcur]
  have HCur := Lib.hid hcur
  have HB1 : Hid (cur.all (·.oneCell') = true) := by
    show _ = true
    rw [hcur, Array.all_eq_true_iff_forall_mem]
    intro y hy
    exact bcells_one _ y (by simpa using hy)
  have Hcs : Hid (cur.size = 32) := by show _ = _; rw [hcur]; simp [bcells, Hd32.out]
  have Hb5 := Lib.hid (Hb3.out.trans (hb5.mono Hb3.out.size))
  have Hz5 := Lib.hid ((hb5.block w.heap.size (Array.getElem?_eq_some_iff.1 Hz3.out).1).trans Hz3.out)
  clear hd1 hcur hb5
  go_wp2_with (first
    | (refine wpList_store_row rfl 48 (.tmp 5) (.tmp 10) rfl w5.heap.size cur rfl rfl 48 _ (heap_alloc_new w5 _) (by rw [Hcs.out]; exact info_32) (by rw [Hcs.out]; rfl) HB1.out ?_)
    | fail)
  obtain ⟨w6, hw6⟩ : ∃ W, W = (w5.alloc (.cells zer32 48)).setRow w5.heap.size cur := ⟨_, rfl⟩
  have Hr6 : Hid (w6.heap[w5.heap.size]? = some (.cells (bcells d1).toArray 48 (0, 0))) := by show _ = _; rw [hw6, ← HCur.out]; exact setRow_heap _ _ _ _ _ _ (heap_alloc_new w5 _)
  have Hb56 : Hid (Below w5.heap.size w5 w6) := by show Below _ _ _; rw [hw6]; exact below_setRow ((Below.refl _ w5).alloc (Nat.le_refl _) _) (Nat.le_refl _) cur
  change Code.wp _ _ _ _ ((w5.alloc (.cells zer32 48)).setRow w5.heap.size cur)
  rw [← hw6]
  clear hw6
  have Hb6 := Lib.hid (Hb5.out.trans (Hb56.out.mono Hb5.out.size))
  have Hz6 := Lib.hid ((Hb56.out.block w.heap.size (Array.getElem?_eq_some_iff.1 Hz5.out).1).trans Hz5.out)
  refine wp_region_noPanic ?_
  refine wp_region_held_drew (S := (fun _ => True)) (by kernel_rfl) ?_ (fun hHeld => ?_)
  · trivial
  refine wpAnyH_take (i := 0) (v := ?_) rfl (by kernel_rfl) (by kernel_rfl) (by kernel_rfl) (fun _ _ _ h => h) (Or.inl ⟨by rfl, ?_⟩) hHeld ?_
  rotate_left
  · intro w hSw
    go_simp
    first | done | (with_reducible rfl)
  try simp only [Act.put, List.setIfInBounds_toArray, List.set_cons_zero, List.set_cons_succ, List.getElem_toArray, List.getElem_cons_succ, List.getElem_cons_zero]
  refine wpAnyH_take (i := 2) (v := ?_) rfl (by kernel_rfl) (by kernel_rfl) (by kernel_rfl) (fun _ _ _ h => h) (Or.inl ⟨by rfl, ?_⟩) hHeld ?_
  rotate_left
  · intro w hSw
    go_simp
    first | done | (with_reducible rfl)
  try simp only [Act.put, List.setIfInBounds_toArray, List.set_cons_zero, List.set_cons_succ, List.getElem_toArray, List.getElem_cons_succ, List.getElem_cons_zero]
  refine wpAnyH_ready (rs := [1]) (by kernel_rfl) (by simp) ?_
  refine AllReadyH.cons (o := _) rfl (fun K hK => ?_) AllReadyH.nil
  go_simp
  have hb6d : Below w.heap.size w w6.drew := below_drew Hb6.out
  refine (with_any A n c key 92 w6.drew (Hb.out.keep (Keeps.of_below hb6d)) Hn.out).mono ?_
  rintro e w7 ⟨v7, rfl, hown7, hb7⟩
  refine hK.out _ _ ?_ (fun hHeld => ?_)
  · trivial
  clear hK K
  try simp only [Act.put, List.setIfInBounds_toArray, List.set_cons_zero, List.set_cons_succ, List.getElem_toArray, List.getElem_cons_succ, List.getElem_cons_zero]
  have hb67 : Below w6.heap.size w6 w7 := (below_drew (Below.refl _ w6)).trans hb7
  have Hown7 := Lib.hid hown7
  have Hr67 := Lib.hid ((hb67.block w5.heap.size (Array.getElem?_eq_some_iff.1 Hr6.out).1).trans Hr6.out)
  have Hb7 := Lib.hid (Hb6.out.trans (hb67.mono Hb6.out.size))
  have Hz7 := Lib.hid ((hb67.block w.heap.size (Array.getElem?_eq_some_iff.1 Hz6.out).1).trans Hz6.out)
  have Hs7 := Lib.hid (show w6.heap.size ≤ w7.heap.size from hb67.size)
  have Hlt6 := Lib.hid (show w.heap.size < w6.heap.size from (Array.getElem?_eq_some_iff.1 Hz6.out).1)
  clear hown7 hb7 hb67 hb6d
  refine wpAnyH_ready (rs := [3]) (by kernel_rfl) (by simp) ?_
  refine AllReadyH.cons (o := _) rfl (fun K hK => ?_) AllReadyH.nil
  refine step_append_b rfl (.tmp 12) (.tmp 13) 22 rfl Hown7.out rfl (RB.src Tryd.underlying22 (RB.row Hr67.out Hd32.out)) rfl (by rw [padL_length, Hd32.out]; omega) Hs7.out ?_
  intro v8 w8 hown8 hgr8 hat8
  refine hK.out _ _ ?_ (fun hHeld => ?_)
  · trivial
  clear hK K
  try simp only [Act.put, List.setIfInBounds_toArray, List.set_cons_zero, List.set_cons_succ, List.getElem_toArray, List.getElem_cons_succ, List.getElem_cons_zero]
  have hb8 : Below (w.heap.size + 1) w7 w8 := below_append (Below.refl _ _) hgr8 Hown7.out (show w.heap.size + 1 ≤ w6.heap.size from Hlt6.out) (by have := Hlt6.out; have := Hs7.out; omega)
  have Hb8 := Lib.hid (Hb7.out.trans (hb8.mono (by omega)))
  have Hz8 := Lib.hid ((hb8.block w.heap.size (by omega)).trans Hz7.out)
  obtain ⟨A8, c8, hv8, _, _, hr8⟩ := hown8.form
  have Hr8 := Lib.hid hr8
  have Hl8 : Hid ((padL key 92 ++ d1).length = 96) := by show _ = _; rw [List.length_append, padL_length, Hd32.out]
  subst hv8
  rw [Hl8.out]
  clear hb8 hgr8 hat8 hr8 hown8
  refine wpAnyH_ready (rs := [4]) (by kernel_rfl) (by simp) ?_
  refine AllReadyH.cons (o := _) rfl (fun K hK => ?_) AllReadyH.nil
  go_simp
  refine (RefSum_any A8 96 c8 (padL key 92 ++ d1) w8 (by have h := Hr8.out; rw [Hl8.out] at h; exact h) (by omega)).mono ?_
  rintro e w9 ⟨rfl, hb9⟩
  rw [← HH.out]
  have Hb9 := Lib.hid (Hb8.out.trans (hb9.mono Hb8.out.size))
  have Hz9 := Lib.hid ((hb9.block w.heap.size (Array.getElem?_eq_some_iff.1 Hz8.out).1).trans Hz8.out)
  have Hm32 : Hid ((hmacF key text).length = 32) := by show _ = _; rw [HH.out]; exact shaB_length _ _ _
  clear hb9
  generalize hmac : hmacF key text = mac at *
  have Hmac := Lib.hid hmac
  clear hmac
  refine hK.out _ _ ?_ (fun hHeld => ?_)
  · trivial
  clear hK K
  try simp only [Act.put, List.setIfInBounds_toArray, List.set_cons_zero, List.set_cons_succ, List.getElem_toArray, List.getElem_cons_succ, List.getElem_cons_zero]
  refine wpAnyH_ready (rs := [5]) (by kernel_rfl) (by simp) ?_
  refine AllReadyH.cons (o := _) rfl (fun K hK => ?_) AllReadyH.nil
  rw [if_pos (by rfl)]
  have HC2 : Hid ((bcells mac).toArray.size = 32) := by show _ = _; simp [bcells, Hm32.out]
  have HB2 : Hid ((bcells mac).toArray.all (·.oneCell') = true) := by
    show _ = true
    rw [Array.all_eq_true_iff_forall_mem]
    intro y hy
    exact bcells_one _ y (by simpa using hy)
  refine wp_store_row 48 (.tmp 4) (.tmp 15) rfl w.heap.size (bcells mac).toArray rfl rfl 48 _ Hz9.out (by rw [HC2.out]; exact info_32) (by rw [HC2.out]; rfl) HB2.out ?_
  refine hK.out _ _ ?_ (fun hHeld => ?_)
  · trivial
  clear hK K
  try simp only [Act.put, List.setIfInBounds_toArray, List.set_cons_zero, List.set_cons_succ, List.getElem_toArray, List.getElem_cons_succ, List.getElem_cons_zero]
  refine wpAnyH_done (by kernel_rfl) ?_ _
  refine NoPanic.normal ?_
  have Hfin := Lib.hid (show Below w.heap.size w (w9.setRow w.heap.size (bcells mac).toArray) from ⟨Hb9.out.os, Hb9.out.tape, Hb9.out.output, by simpa [World.setRow] using Hb9.out.size, fun i hi => (setRow_other _ _ _ _ (by omega)).trans (Hb9.out.block i hi)⟩)
  have Hrz := Lib.hid (setRow_heap w9 w.heap.size _ (bcells mac).toArray 48 _ Hz9.out)
  go_wp2_with fail
  refine bodyPost_ret (results_cell_row rfl _ _ w.heap.size 48 (bcells mac).toArray (0, 0) _ rfl Hrz.out Tryd.underlying48 rfl (by rw [HC2.out]; exact info_32)) rfl ⟨by rw [Hmac.out], Hfin.out⟩
end Go.Proofs.YtlfeofakggkebaaDoor
