/- mac.Sum: HMAC of parts. -/
import Derived.Test.YtlfeofakggkebaaDoorPad
import Derived.Test.YtlfeofakggkebaaDoorRefSum
import Derived.OrdersHeld
import Derived.Deep.RegionHeld3
namespace Go.Proofs.YtlfeofakggkebaaDoor
open Go.RowKit

def hmacF (key text : List UInt8) : List UInt8 := shaB kfun htab (padL key 92 ++ shaB kfun htab (padL key 54 ++ text))
theorem RB.row {w : World} {g n : Nat} {l : List UInt8} {T : TypeId} {fr : Nat × Nat} (h : w.heap[g]? = some (.cells (bcells l).toArray T fr)) (hn : l.length = n) : RB w (some ⟨g, 0, none⟩) n l :=
  ⟨hn, fun _ => ⟨g, 0, rfl, fun k hk => by rw [cell_of_row _ _ _ _ _ _ h, Nat.zero_add, List.getElem?_toArray]; exact bcells_get (by omega)⟩⟩

set_option linter.unusedSimpArgs false in
set_option maxHeartbeats 4000000 in
set_option maxRecDepth 100000 in
theorem MacSum_any (A : Option Addr) (n c : Nat) (key : List UInt8) (A2 : Option Addr) (n2 c2 : Nat) (ls : List (List UInt8)) (w : World) (hb : RB w A n key) (hn : n ≤ 1000000) (hnc : n ≤ c) (hc : c ≤ maxLen)
    (hl : RBL w A2 n2 ls) (hn2 : n2 ≤ maxLen) (hlen : ls.flatten.length ≤ 400000000000) (ht : ShaTabs w) :
    Calls Tryd.prog 92 #[.slice A n c, .slice A2 n2 c2] w fun e w' => e = .returned (.agg (bcells (hmacF key ls.flatten)).toArray) ∧ Below w.heap.size w w' := by
  have Hb := Lib.hid hb
  have Hl := Lib.hid hl
  have Ht := Lib.hid ht
  have Hnc := Lib.hid (And.intro hn (And.intro hnc hc))
  have Hlen : Hid (∀ k, (ls.take k).flatten.length ≤ 400000000000) := fun k => Nat.le_trans (flat_take_le ls k) hlen
  have HLs := Lib.hid hl.1
  have Hlfl := Lib.hid hlen
  clear hb hl ht hn hnc hc hlen
  unfold maxLen at hn2
  go_enter Tryd.func92, Tryd.ntmps92
  have ka : ∀ o, Keeps w (w.alloc o) := fun o => Keeps.of_below ((Below.refl _ w).alloc (Nat.le_refl _) o)
  go_wp2_with fail
  refine (New_any _ htab kfun (Ht.out.f.keep (ka _))).mono ?_
  rintro e w1 ⟨rfl, hh1, hbel1⟩
  rw [show ∀ o, (w.alloc o).heap.size = w.heap.size + 1 from fun o => by simp] at hh1
  have Hh1 := Lib.hid hh1
  have Hz1 := Lib.hid ((hbel1.block w.heap.size (by simp)).trans (heap_alloc_new w _))
  have Hs1 := Lib.hid (show w.heap.size + 1 ≤ w1.heap.size by have := hbel1.size; simpa using this)
  have Hbw1 := Lib.hid (((Below.refl _ w).alloc (Nat.le_refl _) _).trans (hbel1.mono (by simp)))
  clear hh1 hbel1
  go_wp2_with fail
  refine (pad_any A n c key 54 w1 (Hb.out.keep (Keeps.of_below Hbw1.out)) Hnc.out.1 Hnc.out.2.1 Hnc.out.2.2 (Ht.out.keep (Keeps.of_below Hbw1.out))).mono ?_
  rintro e w2 ⟨g2, rfl, hg2, hr2, hb2⟩
  have Hh2 := Lib.hid (Hh1.out.below hb2)
  have Hz2 := Lib.hid ((hb2.block w.heap.size (by have := Hs1.out; omega)).trans Hz1.out)
  have Hs2 := Lib.hid (show w.heap.size + 1 ≤ w2.heap.size by have := hb2.size; have := Hs1.out; omega)
  have Hbw2 := Lib.hid (Hbw1.out.trans (hb2.mono (by have := Hs1.out; omega)))
  have Hr2 := Lib.hid (RB.row hr2 (padL_length key 54))
  clear hg2 hr2 hb2 Hh1 Hz1
  go_wp2_with fail
  refine (Write_is (w.heap.size + 1) 64 64 (w.heap.size + 1) _ none kfun htab [] (padL key 54) w2 Hh2.out Hr2.out (Ht.out.k.keep (Keeps.of_below Hbw2.out)) (by have := Ht.out.lt; omega) (by rw [padL_length]; simp)).mono ?_
  rintro e w3 ⟨rfl, hfr3, ro3, hh3, _⟩
  rw [List.nil_append] at hh3
  have hb3 : Below (w.heap.size + 1) w2 w3 := hfr3.below Hs2.out (fun j _ h => by rcases h with h | h; omega; cases h)
  have Hh3 := Lib.hid hh3
  have Hz3 := Lib.hid ((hb3.block w.heap.size (by omega)).trans Hz2.out)
  have Hb3 := Lib.hid (Hbw2.out.trans (hb3.mono (by omega)))
  have Hs3 := Lib.hid (show w.heap.size + 1 ≤ w3.heap.size by have := hb3.size; have := Hs2.out; omega)
  clear hfr3 hh3 hb3 Hh2 Hz2 Hr2
  have hp64 := padL_length key 54
  have Hp64 := Lib.hid hp64
  clear hp64
  generalize hpk : padL key 54 = pk at *
  have Hpk := Lib.hid hpk
  clear hpk
  go_wp2_with fail
  go_loopg [16] n2 (fun k s16 wr => ∃ (i : Nat) (ro : Option Nat), s16 = .int .i64 (i : Int) ∧ i + k = n2 ∧ HashIs wr (w.heap.size + 1) (w.heap.size + 1) ro kfun htab (pk ++ (ls.take i).flatten) ∧ Below (w.heap.size + 1) w3 wr)
  case atStart => exact ⟨0, ro3, rfl, by omega, by simpa using Hh3.out, Below.refl _ _⟩
  case round =>
    obtain ⟨i, ro, rfl, hik, hh, hbel⟩ := hrel
    have Hh := Lib.hid hh
    have Hbel := Lib.hid hbel
    have Hbw := Lib.hid (Hb3.out.trans (hbel.mono (Nat.le_succ _)))
    clear hh hbel
    have Hkw := Lib.hid (Keeps.of_below Hbw.out)
    by_cases hi : i < n2
    · obtain ⟨b, o, hA, hb⟩ := Hl.out.2 (by omega)
      obtain ⟨v, c1, A', c', hv, hc1, hc2, hrb⟩ := hb i hi
      subst hv
      have c2 := Hkw.out _ _ c1
      have Hrb := Lib.hid (hrb.keep Hkw.out)
      subst hA
      clear hb c1 hrb
      have i0 : (0 : Int) ≤ (i : Int) := by omega
      have i1 : (i : Int) < (n2 : Int) := by omega
      generalize hx : ls.getD i [] = x at *
      have Hx := Lib.hid hx
      clear hx
      have hlx : pk.length + (ls.take i).flatten.length + x.length ≤ 1099511627776 := by
        have := Hlen.out (i + 1)
        rw [flat_take ls i (by rw [HLs.out]; exact hi), Hx.out, List.length_append] at this
        have := Hp64.out
        omega
      go_wp2_with (first
        | (go_at_call 121; refine (Write_is (w.heap.size + 1) _ c' (w.heap.size + 1) A' ro kfun htab _ x wr Hh.out Hrb.out (Ht.out.k.keep Hkw.out) (by have := Ht.out.lt; omega) (by rw [List.length_append]; exact hlx)).mono ?_; rintro e w4 ⟨rfl, hfr4, ro4, hh4, hro4⟩; have Hfr4 := Lib.hid hfr4; have Hh4 := Lib.hid hh4; clear hfr4 hh4 hro4)
        | fail)
      go_roundg (gk - 1)
      case measure => omega
      case rel =>
        refine ⟨i + 1, ro4, by go_num, by omega, ?_, Hbel.out.trans (Hfr4.out.below (Nat.le_trans Hs3.out Hbel.out.size) fun j _ hs => ?_)⟩
        · rw [flat_take ls i (by rw [HLs.out]; exact hi), Hx.out, ← List.append_assoc]
          exact Hh4.out
        · rcases hs with h | h
          · omega
          · exact (Hh.out.rlt _ h.symm).1
    · obtain rfl : i = n2 := by omega
      rw [List.take_of_length_le (by rw [HLs.out]; exact Nat.le_refl _)] at Hh
      have Hz := Lib.hid ((Hbel.out.block w.heap.size (Nat.lt_succ_self _)).trans Hz3.out)
      have Hlf := Lib.hid (show (pk ++ ls.flatten).length ≤ 549755813888 by rw [List.length_append]; have := Hp64.out; have := Hlfl.out; omega)
      -- the sum
      go_wp2_with fail
      refine (HashSum_is (w.heap.size + 1) (w.heap.size + 1) ro kfun htab (pk ++ ls.flatten) wr Hh.out (Ht.out.k.keep Hkw.out) (ShaTabs.lt (Ht.out.keep Hkw.out)) Hlf.out).mono ?_
      rintro e w5 ⟨rfl, hb5⟩
      obtain ⟨d1, hd1⟩ : ∃ d1, d1 = shaB kfun htab (pk ++ ls.flatten) := ⟨_, rfl⟩
      have Hd32 : Hid (d1.length = 32) := by show _ = _; rw [hd1]; exact shaB_length _ _ _
      have HH : Hid (hmacF key ls.flatten = shaB kfun htab (padL key 92 ++ d1)) := by show _ = _; rw [hd1, ← Hpk.out]; rfl
      rw [← hd1]
      obtain ⟨cur, hcur⟩ : ∃ cur, cur = (bcells d1).toArray := ⟨_, rfl⟩
      rw [← hcur]
      have HCur := Lib.hid hcur
      have HB1 : Hid (cur.all (·.oneCell') = true) := by
        show _ = true
        rw [hcur, Array.all_eq_true_iff_forall_mem]
        intro y hy
        exact bcells_one _ y (by simpa using hy)
      have Hcs : Hid (cur.size = 32) := by show _ = _; rw [hcur]; simp [bcells, Hd32.out]
      have Hb5 := Lib.hid (Hbw.out.trans (hb5.mono Hbw.out.size))
      have Hz5 := Lib.hid ((hb5.block w.heap.size (Array.getElem?_eq_some_iff.1 Hz.out).1).trans Hz.out)
      clear hd1 hcur hb5
      go_wp2_with (first
        | (refine wpList_store_row rfl 48 (.tmp 8) (.tmp 25) rfl w5.heap.size cur rfl rfl 48 _ (heap_alloc_new w5 _) (by rw [Hcs.out]; exact info_32) (by rw [Hcs.out]; rfl) HB1.out ?_)
        | fail)
      obtain ⟨w6, hw6⟩ : ∃ W, W = (w5.alloc (.cells zer32 48)).setRow w5.heap.size cur := ⟨_, rfl⟩
      have Hr6 : Hid (w6.heap[w5.heap.size]? = some (.cells (bcells d1).toArray 48 (0, 0))) := by show _ = _; rw [hw6, ← HCur.out]; exact setRow_heap _ _ _ _ _ _ (heap_alloc_new w5 _)
      have Hb56 : Hid (Below w5.heap.size w5 w6) := by show Below _ _ _; rw [hw6]; exact below_setRow ((Below.refl _ w5).alloc (Nat.le_refl _) _) (Nat.le_refl _) cur
      change Code.wp _ _ _ _ ((w5.alloc (.cells zer32 48)).setRow w5.heap.size cur)
      rw [← hw6]
      clear hw6
      have Hb6 := Lib.hid (Hb5.out.trans (Hb56.out.mono Hb5.out.size))
      have Hz6 := Lib.hid ((Hb56.out.block w.heap.size (Array.getElem?_eq_some_iff.1 Hz5.out).1).trans Hz5.out)
      refine wp_region_noPanic ?_
      refine wp_region_held_drew (S := (fun _ => True)) (by kernel_rfl) ?_ (fun hHeld => ?_)
      · trivial
      refine wpAnyH_take (i := 0) (v := ?_) rfl (by kernel_rfl) (by kernel_rfl) (by kernel_rfl) (fun _ _ _ h => h) (Or.inl ⟨by rfl, ?_⟩) hHeld ?_
      rotate_left
      · intro w hSw
        go_simp
        first | done | (with_reducible rfl)
      try simp only [Act.put, List.setIfInBounds_toArray, List.set_cons_zero, List.set_cons_succ, List.getElem_toArray, List.getElem_cons_succ, List.getElem_cons_zero]
      refine wpAnyH_take (i := 2) (v := ?_) rfl (by kernel_rfl) (by kernel_rfl) (by kernel_rfl) (fun _ _ _ h => h) (Or.inl ⟨by rfl, ?_⟩) hHeld ?_
      rotate_left
      · intro w hSw
        go_simp
        first | done | (with_reducible rfl)
      try simp only [Act.put, List.setIfInBounds_toArray, List.set_cons_zero, List.set_cons_succ, List.getElem_toArray, List.getElem_cons_succ, List.getElem_cons_zero]
      refine wpAnyH_ready (rs := [1]) (by kernel_rfl) (by simp) ?_
      refine AllReadyH.cons (o := _) rfl (fun K hK => ?_) AllReadyH.nil
      go_simp
      have hb6d : Below w.heap.size w w6.drew := below_drew Hb6.out
      refine (pad_any A n c key 92 w6.drew (Hb.out.keep (Keeps.of_below hb6d)) Hnc.out.1 Hnc.out.2.1 Hnc.out.2.2 (Ht.out.keep (Keeps.of_below hb6d))).mono ?_
      rintro e w7 ⟨g7, rfl, hg7, hr7, hb7⟩
      refine hK.out _ _ ?_ (fun hHeld => ?_)
      · trivial
      clear hK K
      try simp only [Act.put, List.setIfInBounds_toArray, List.set_cons_zero, List.set_cons_succ, List.getElem_toArray, List.getElem_cons_succ, List.getElem_cons_zero]
      have hb67 : Below w6.heap.size w6 w7 := (below_drew (Below.refl _ w6)).trans hb7
      have Hr7 := Lib.hid hr7
      have Hr67 := Lib.hid ((hb67.block w5.heap.size (Array.getElem?_eq_some_iff.1 Hr6.out).1).trans Hr6.out)
      have Hb7 := Lib.hid (Hb6.out.trans (hb67.mono Hb6.out.size))
      have Hz7 := Lib.hid ((hb67.block w.heap.size (Array.getElem?_eq_some_iff.1 Hz6.out).1).trans Hz6.out)
      clear hr7 hb7 hb67 hb6d
      refine wpAnyH_ready (rs := [3]) (by kernel_rfl) (by simp) ?_
      refine AllReadyH.cons (o := _) rfl (fun K hK => ?_) AllReadyH.nil
      go_simp
      refine hK.out _ _ ?_ (fun hHeld => ?_)
      · trivial
      clear hK K
      try simp only [Act.put, List.setIfInBounds_toArray, List.set_cons_zero, List.set_cons_succ, List.getElem_toArray, List.getElem_cons_succ, List.getElem_cons_zero]
      refine wpAnyH_ready (rs := [4]) (by kernel_rfl) (by simp) ?_
      refine AllReadyH.cons (o := _) rfl (fun K hK => ?_) AllReadyH.nil
      go_simp
      have hrbl : RBL (w7.alloc (.cells #[.slice (some ⟨g7, 0, none⟩) 64 64, .slice (some ⟨w5.heap.size, 0, none⟩) 32 32] 22)) (some ⟨w7.heap.size, 0, none⟩) 2 [padL key 92, d1] := RBL.lits (vs := [.slice (some ⟨g7, 0, none⟩) 64 64, .slice (some ⟨w5.heap.size, 0, none⟩) 32 32]) (heap_alloc_new w7 _) rfl (fun k hk => by
        have hk2 : k = 0 ∨ k = 1 := by omega
        rcases hk2 with rfl | rfl
        · exact ⟨_, rfl, SB.cells ((Below.heap_alloc w7 _ _ (Array.getElem?_eq_some_iff.1 Hr7.out).1).trans Hr7.out) (padL_length key 92) (Nat.le_refl _) (by unfold maxLen; omega)⟩
        · exact ⟨_, rfl, SB.cells ((Below.heap_alloc w7 _ _ (Array.getElem?_eq_some_iff.1 Hr67.out).1).trans Hr67.out) Hd32.out (Nat.le_refl _) (by unfold maxLen; omega)⟩)
      have hb7a := Hb7.out.alloc Hb7.out.size (.cells #[.slice (some ⟨g7, 0, none⟩) 64 64, .slice (some ⟨w5.heap.size, 0, none⟩) 32 32] 22)
      have hkw := Keeps.of_below hb7a
      refine (Sum_any _ 2 2 [padL key 92, d1] kfun htab _ hrbl (Ht.out.k.keep hkw) (Ht.out.f.keep hkw) (ShaTabs.lt (Ht.out.keep hkw)) (by unfold maxLen; omega) (by have := padL_length key 92; have := Hd32.out; simp; omega)).mono ?_
      rintro e w9 ⟨rfl, hb9⟩
      rw [show [padL key 92, d1].flatten = padL key 92 ++ d1 by simp, ← HH.out]
      have Hb9 := Lib.hid (hb7a.trans (hb9.mono hb7a.size))
      have Hz9 := Lib.hid ((hb9.block w.heap.size (by have := (Array.getElem?_eq_some_iff.1 Hz7.out).1; simp; omega)).trans ((Below.heap_alloc w7 _ _ (Array.getElem?_eq_some_iff.1 Hz7.out).1).trans Hz7.out))
      have Hm32 : Hid ((hmacF key ls.flatten).length = 32) := by show _ = _; rw [HH.out]; exact shaB_length _ _ _
      clear hrbl hb7a hkw hb9
      generalize hmac : hmacF key ls.flatten = mac at *
      have Hmac := Lib.hid hmac
      clear hmac
      refine hK.out _ _ ?_ (fun hHeld => ?_)
      · trivial
      clear hK K
      try simp only [Act.put, List.setIfInBounds_toArray, List.set_cons_zero, List.set_cons_succ, List.getElem_toArray, List.getElem_cons_succ, List.getElem_cons_zero]
      refine wpAnyH_ready (rs := [5]) (by kernel_rfl) (by simp) ?_
      refine AllReadyH.cons (o := _) rfl (fun K hK => ?_) AllReadyH.nil
      rw [if_pos (by rfl)]
      have HC2 : Hid ((bcells mac).toArray.size = 32) := by show _ = _; simp [bcells, Hm32.out]
      have HB2 : Hid ((bcells mac).toArray.all (·.oneCell') = true) := by
        show _ = true
        rw [Array.all_eq_true_iff_forall_mem]
        intro y hy
        exact bcells_one _ y (by simpa using hy)
      refine wp_store_row 48 (.tmp 4) (.tmp 30) rfl w.heap.size (bcells mac).toArray rfl rfl 48 _ Hz9.out (by rw [HC2.out]; exact info_32) (by rw [HC2.out]; rfl) HB2.out ?_
      refine hK.out _ _ ?_ (fun hHeld => ?_)
      · trivial
      clear hK K
      try simp only [Act.put, List.setIfInBounds_toArray, List.set_cons_zero, List.set_cons_succ, List.getElem_toArray, List.getElem_cons_succ, List.getElem_cons_zero]
      refine wpAnyH_done (by kernel_rfl) ?_ _
      refine NoPanic.normal ?_
      have Hfin := Lib.hid (show Below w.heap.size w (w9.setRow w.heap.size (bcells mac).toArray) from ⟨Hb9.out.os, Hb9.out.tape, Hb9.out.output, by simpa [World.setRow] using Hb9.out.size, fun i hi => (setRow_other _ _ _ _ (by omega)).trans (Hb9.out.block i hi)⟩)
      have Hrz := Lib.hid (setRow_heap w9 w.heap.size _ (bcells mac).toArray 48 _ Hz9.out)
      go_wp2_with fail
      refine bodyPost_ret (results_cell_row rfl _ _ w.heap.size 48 (bcells mac).toArray (0, 0) _ rfl Hrz.out Tryd.underlying48 rfl (by rw [HC2.out]; exact info_32)) rfl ⟨by rw [Hmac.out], Hfin.out⟩
end Go.Proofs.YtlfeofakggkebaaDoor
