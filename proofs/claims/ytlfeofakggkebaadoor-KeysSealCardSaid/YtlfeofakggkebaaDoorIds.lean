/- mac.ID, the reference's ID: the keys' numbers. -/
import Derived.Test.YtlfeofakggkebaaDoorTagged
namespace Go.Proofs.YtlfeofakggkebaaDoor
open Go.RowKit

theorem hexs_take_two (l : List UInt8) : ∀ k, (hexs l).take (2 * k) = hexs (l.take k) := by
  induction l with
  | nil => intro k; simp [hexs]
  | cons a l ih =>
    intro k
    cases k with
    | zero => simp [hexs]
    | succ k =>
      have h := ih k
      simp only [hexs, List.flatMap_cons, List.take_succ_cons] at *
      rw [show 2 * (k + 1) = 2 * k + 1 + 1 by omega]
      simp only [hexB, List.cons_append, List.nil_append, List.take_succ_cons]
      rw [h]

set_option maxHeartbeats 4000000 in
set_option maxRecDepth 100000 in
theorem RefID_any (A : Option Addr) (n c : Nat) (key : List UInt8) (w : World) (hb : RB w A n key) (hn : n ≤ 1000000) :
    Calls Tryd.prog 60 #[.slice A n c] w fun e w' => e = .returned (.string ⟨(idL key).toArray⟩) ∧ Below w.heap.size w w' := by
  have Hb := Lib.hid hb
  have Hn := Lib.hid hn
  clear hb hn
  go_enter Tryd.func60, Tryd.ntmps60
  go_wp2_with fail
  refine (RefTagged_good A n c key ⟨#[105, 100]⟩ none 0 0 [] w Hb.out Hn.out (RBL.nil _ _) id_good).mono ?_
  rintro e w2 ⟨rfl, hb2⟩
  have Hb2 := Lib.hid hb2
  have Hm32 : Hid ((hmacF key (frameB [105, 100] [])).length = 32) := by show _ = _; exact shaB_length _ _ _
  have HI : Hid (idL key = hexs ((hmacF key (frameB [105, 100] [])).take 16)) := by
    show _ = _
    unfold idL
    exact hexs_take_two _ 16
  rw [show (⟨#[105, 100]⟩ : ByteArray).data.toList = [105, 100] from rfl]
  clear hb2
  generalize hmacF key (frameB [105, 100] []) = mac at *
  obtain ⟨cur, hcur⟩ : ∃ cur, cur = (bcells mac).toArray := ⟨_, rfl⟩
  rw [← hcur]
  have HCur := Lib.hid hcur
  have HC2 : Hid (cur.size = 32) := by show _ = _; rw [hcur]; simp [bcells, Hm32.out]
  have HB2 : Hid (cur.all (·.oneCell') = true) := by
    show _ = true
    rw [hcur, Array.all_eq_true_iff_forall_mem]
    intro y hy
    exact bcells_one _ y (by simpa using hy)
  clear hcur
  go_wp2_with (first
    | (refine wpList_store_row rfl 48 (.tmp 3) (.tmp 5) rfl w2.heap.size cur rfl rfl 48 _ (heap_alloc_new w2 _) (by rw [HC2.out]; exact info_32) (by rw [HC2.out]; rfl) HB2.out ?_)
    | fail)
  obtain ⟨w6, hw6⟩ : ∃ W, W = (w2.alloc (.cells zer32 48)).setRow w2.heap.size cur := ⟨_, rfl⟩
  have Hr6 : Hid (w6.heap[w2.heap.size]? = some (.cells (bcells mac).toArray 48 (0, 0))) := by show _ = _; rw [hw6, ← HCur.out]; exact setRow_heap _ _ _ _ _ _ (heap_alloc_new w2 _)
  have Hb6 : Hid (Below w.heap.size w w6) := by show Below _ _ _; rw [hw6]; exact below_setRow (Hb2.out.alloc Hb2.out.size _) Hb2.out.size cur
  change Calls _ _ _ ((w2.alloc (.cells zer32 48)).setRow w2.heap.size cur) _
  rw [← hw6]
  clear hw6
  have hrb : RB w6 (some ⟨w2.heap.size, 0, none⟩) 16 (mac.take 16) := by
    have h := RB.row Hr6.out Hm32.out
    rw [← List.take_append_drop 16 mac] at h
    exact h.front (by rw [List.length_take, Hm32.out]; rfl)
  refine (RefText_any _ 16 32 (mac.take 16) w6 hrb (by omega)).mono ?_
  rintro e w7 ⟨rfl, hb7⟩
  rw [← HI.out]
  have Hb7 := Lib.hid (Hb6.out.trans (hb7.mono Hb6.out.size))
  clear hb7 hrb
  go_wp2
  go_ret
  exact ⟨rfl, Hb7.out⟩

set_option maxHeartbeats 4000000 in
set_option maxRecDepth 100000 in
theorem ID_any (A : Option Addr) (n c : Nat) (key : List UInt8) (w : World) (hb : RB w A n key) (hn : n ≤ 1000000) (hnc : n ≤ c) (hc : c ≤ maxLen) (ht : ShaTabs w) :
    Calls Tryd.prog 56 #[.slice A n c] w fun e w' => e = .returned (.string ⟨(idL key).toArray⟩) ∧ Below w.heap.size w w' := by
  have Hb := Lib.hid hb
  have Ht := Lib.hid ht
  have Hnc := Lib.hid (And.intro hn (And.intro hnc hc))
  clear hb hn hnc hc ht
  go_enter Tryd.func56, Tryd.ntmps56
  go_wp2_with fail
  refine (Tagged_good A n c key ⟨#[105, 100]⟩ none 0 0 [] w Hb.out Hnc.out.1 Hnc.out.2.1 Hnc.out.2.2 (RBL.nil _ _) id_good Ht.out).mono ?_
  rintro e w2 ⟨rfl, hb2⟩
  have Hb2 := Lib.hid hb2
  have Hm32 : Hid ((hmacF key (frameB [105, 100] [])).length = 32) := by show _ = _; exact shaB_length _ _ _
  have HI : Hid (idL key = (hexs (hmacF key (frameB [105, 100] []))).take 32) := rfl
  rw [show (⟨#[105, 100]⟩ : ByteArray).data.toList = [105, 100] from rfl]
  clear hb2
  generalize hmacF key (frameB [105, 100] []) = mac at *
  obtain ⟨cur, hcur⟩ : ∃ cur, cur = (bcells mac).toArray := ⟨_, rfl⟩
  rw [← hcur]
  have HCur := Lib.hid hcur
  have HC2 : Hid (cur.size = 32) := by show _ = _; rw [hcur]; simp [bcells, Hm32.out]
  have HB2 : Hid (cur.all (·.oneCell') = true) := by
    show _ = true
    rw [hcur, Array.all_eq_true_iff_forall_mem]
    intro y hy
    exact bcells_one _ y (by simpa using hy)
  clear hcur
  go_wp2_with (first
    | (refine wpList_store_row rfl 48 (.tmp 3) (.tmp 8) rfl w2.heap.size cur rfl rfl 48 _ (heap_alloc_new w2 _) (by rw [HC2.out]; exact info_32) (by rw [HC2.out]; rfl) HB2.out ?_; obtain ⟨w6, hw6⟩ : ∃ W, W = (w2.alloc (.cells zer32 48)).setRow w2.heap.size cur := ⟨_, rfl⟩; change wpList _ _ _ _ _ ((w2.alloc (.cells zer32 48)).setRow w2.heap.size cur); rw [← hw6]; have Hr6 : Hid (w6.heap[w2.heap.size]? = some (.cells cur 48 (0, 0))) := (by show _ = _; rw [hw6]; exact setRow_heap _ _ _ _ _ _ (heap_alloc_new w2 _)); have Hb6 : Hid (Below w.heap.size w w6) := (by show Below _ _ _; rw [hw6]; exact below_setRow (Hb2.out.alloc Hb2.out.size _) Hb2.out.size cur); clear hw6)
    | (refine wpList_load_row rfl 48 (.tmp 3) rfl w2.heap.size rfl 48 cur (0, 0) _ Hr6.out Tryd.underlying48 rfl (by rw [HC2.out]; exact info_32) ?_)
    | fail)
  rw [HCur.out]
  refine (Text_any mac w6 Hm32.out).mono ?_
  rintro e w7 ⟨rfl, hb7⟩
  have Hb7 := Lib.hid (Hb6.out.trans (hb7.mono Hb6.out.size))
  have Hl64 : Hid ((hexs mac).length = 64) := by show _ = _; rw [hexs_length, Hm32.out]
  clear hb7
  have hle : 32 ≤ (hexs mac).length := by rw [Hl64.out]; omega
  have HE : Hid ((⟨(hexs mac).toArray⟩ : ByteArray).extract 0 32 = ⟨((hexs mac).take 32).toArray⟩) := by
    show _ = _
    apply ByteArray.ext
    simp [ByteArray.data_extract]
  go_wp2_with fail
  go_ret
  exact ⟨by rw [HI.out, ← HE.out]; rfl, Hb7.out⟩
end Go.Proofs.YtlfeofakggkebaaDoor
