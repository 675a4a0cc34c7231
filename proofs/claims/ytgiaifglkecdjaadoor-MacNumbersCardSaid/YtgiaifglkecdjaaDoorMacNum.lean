/- mac.Number: the key's number of bytes. -/
import Derived.Test.YtgiaifglkecdjaaDoorMacByt
import Derived.Test.YtgiaifglkecdjaaDoorShaSum
namespace Go.Proofs.YtgiaifglkecdjaaDoor
open Go.RowKit

theorem Number_len (A : Option Addr) (n c : Nat) (w : World) (hn : n ≠ 16) (v : Value) (hv : w.cell? ⟨0, 0, none⟩ = some v) :
    Calls Tryd.prog 17 #[.slice A n c] w fun e w' => e = .returned (.tuple #[.string ⟨#[]⟩, v]) ∧ Below w.heap.size w w' := by
  have q : ((n : Int) == 16) = false := beq_eq_false_iff_ne.2 (by omega)
  have q2 : ((n : Int) != 16) = true := bne_iff_ne.2 (by omega)
  clear hn
  go_enter Tryd.func17, Tryd.ntmps17
  go_wp2
  go_quiet (fail)
  go_wp2
  go_ret2
  exact ⟨rfl, below_drewN (Below.refl _ _) _⟩

def zeros32b : List UInt8 := List.replicate 32 0
theorem hexs_take2 (l : List UInt8) : ∀ k, (hexs l).take (2 * k) = hexs (l.take k) := by
  induction l with
  | nil => intro k; simp [hexs]
  | cons a l ih =>
    intro k
    cases k with
    | zero => simp [hexs]
    | succ k =>
      have h := ih k
      simp only [hexs, List.flatMap_cons, List.take_succ_cons] at *
      rw [show 2 * (k + 1) = 2 * k + 1 + 1 by omega]
      simp only [hexB, List.cons_append, List.nil_append, List.take_succ_cons]
      rw [h]
theorem splice_16 (b : List UInt8) (h : b.length = 16) : splice (bcells zeros32b) 0 (bcells b) = bcells (b ++ List.replicate 16 0) := by
  show List.take 0 _ ++ (bcells b ++ List.drop (0 + (bcells b).length) (bcells zeros32b)) = _
  rw [List.take_zero, List.nil_append, Nat.zero_add, bcells_length, bcells_append, h]
  rfl

set_option maxHeartbeats 4000000 in
set_option maxRecDepth 100000 in
theorem Number_16 (A : Option Addr) (n c : Nat) (b : List UInt8) (w : World) (hb : RB w A n b) (hn : n = 16) (hnc : n ≤ c) :
    Calls Tryd.prog 17 #[.slice A n c] w fun e w' => e = .returned (.tuple #[.string ⟨(hexs b).toArray⟩, .nilIface]) ∧ Below w.heap.size w w' := by
  subst hn
  have Hb := Lib.hid hb
  have Hl := Lib.hid hb.1
  clear hb
  obtain ⟨d, hd⟩ : ∃ d, d = b ++ List.replicate 16 0 := ⟨_, rfl⟩
  have HD : Hid (d.length = 32) := Lib.hid (by rw [hd]; simp [Hl.out])
  have HT : Hid ((hexs d).take 32 = hexs b) := Lib.hid (by rw [hexs_take2 d 16, hd, List.take_left' Hl.out])
  have hle : 32 ≤ (hexs d).length := by rw [hexs_length, HD.out]; omega
  have HDe := Lib.hid hd
  have HX : Hid ((⟨(hexs d).toArray⟩ : ByteArray).extract 0 32 = ⟨(hexs b).toArray⟩) := by
    show _ = _
    apply ByteArray.ext
    rw [← HT.out]
    simp [ByteArray.data_extract]
  clear hd
  go_enter Tryd.func17, Tryd.ntmps17
  go_wp2_with (first
    | (refine wpList_copy_splice rfl (.tmp 9) (.tmp 10) 22 22 rfl 5 Tryd.underlying22 info_u8s (some ⟨w.heap.size, 0, none⟩) A 32 32 16 c rfl rfl w.heap.size 0 (bcells zeros32b) 57 (heap_alloc_new w _) (bcells b) ?_ ?_ ?_ (bcells_one _) w.heap.size w ?_ (Nat.le_refl _) ?_; rotate_right; intro w5 hr5 hb5; obtain ⟨cur, hcur⟩ : ∃ cur, cur = (bcells d).toArray := ⟨_, rfl⟩; rw [splice_16 b Hl.out, ← HDe.out, ← hcur] at hr5; have HCur := Lib.hid hcur; have Hb5 := Lib.hid hb5; have HC2 : Hid (cur.size = 32) := Lib.hid (by rw [hcur]; simp [bcells, HD.out]); clear hcur hb5)
    | (refine wpList_load_row rfl 57 (.tmp 4) rfl w.heap.size rfl 57 cur (0, 0) _ hr5.out Tryd.underlying57 rfl (by rw [HC2.out]; exact info_32) ?_)
    | (go_at_call 73; rw [HCur.out]; refine (Text_any d w5 HD.out).mono ?_; rintro e w6 ⟨rfl, hb6⟩; have Hb6 := Lib.hid (Hb5.out.trans (hb6.mono Hb5.out.size)); clear hb6))
  case refine_1 => rw [bcells_length, Hl.out]; rfl
  case refine_2 =>
    intro h0
    obtain ⟨b1, o1, e, hc⟩ := Hb.out.2 (by omega)
    refine ⟨⟨b1, o1, none⟩, e, fun j u hu => ?_⟩
    have := RB.news (n := 16) Hl.out (fun k hk => Keeps.of_below ((Below.refl _ w).alloc (Nat.le_refl _) (.cells zer32 57)) _ _ (hc k hk)) j u hu
    exact this
  case refine_3 => rw [bcells_length, bcells_length, Hl.out]; decide
  case refine_4 => exact (Below.refl _ w).alloc (Nat.le_refl _) _
  go_ret2
  exact ⟨by rw [HX.out]; rfl, Hb6.out⟩
end Go.Proofs.YtgiaifglkecdjaaDoor
