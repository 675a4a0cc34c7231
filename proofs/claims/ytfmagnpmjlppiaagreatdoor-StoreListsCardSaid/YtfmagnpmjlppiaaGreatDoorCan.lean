/- Layer 20 (store): can, of changes that can be done. -/
import Derived.Test.YtfmagnpmjlppiaaGreatDoorStS
import Derived.Test.YtfmagnpmjlppiaaGreatDoorNam
namespace Go.Proofs.YtfmagnpmjlppiaaGreatDoor
open Go.RowKit SO
section
variable {w w0 : World} {Q : Nat → Prop} {g gs : Nat} {m : DM} {L : LM} {M : StM}
set_option maxHeartbeats 4000000 in
set_option maxRecDepth 100000 in
theorem can_one (x : OV) (d : Bool) (h : SW w0 w Q g m gs L M) (hk : x.kind ≤ 9223372036854775807) (hs : x.space.size ≤ 1000) (hn : x.name.size ≤ 1000) (R : Nat) (hR : R = M.rev + 1) (hm : M.rev < 1099511627776) (hlk : (∃ o, look klt (keyB x.kind x.space x.name) M.tab = some o) ∨ (look klt (keyB x.kind x.space x.name) M.tab = none ∧ d = false)) :
  Calls Tryz.prog 35 #[.pointer (some ⟨gs, 0, none⟩), .agg #[.int .i64 (R : Int), .bool d, .int .i64 x.kind, .string x.space, .string x.name, .int .i64 x.ver, .slice x.A x.n x.c]] w fun e w' => e = .returned (.bool true) ∧ Below w.heap.size w w' := by
 obtain ⟨Z, gl, gt, sh, ev, xs, ys, hV, -, -⟩ := h.use
 obtain ⟨w1, hw1⟩ : ∃ W, W = w.alloc (.cells #[.int .i64 (R : Int), .bool d, .int .i64 x.kind, .string x.space, .string x.name, .int .i64 x.ver, .slice x.A x.n x.c] 61) := ⟨_, rfl⟩
 obtain ⟨B, hB⟩ : ∃ B, B = w.heap.size := ⟨_, rfl⟩
 have hb1 := (Below.refl w.heap.size w).alloc Kj (.cells #[.int .i64 (R : Int), .bool d, .int .i64 x.kind, .string x.space, .string x.name, .int .i64 x.ver, .slice x.A x.n x.c] 61)
 have hr1 := heap_alloc_new w (.cells #[.int .i64 (R : Int), .bool d, .int .i64 x.kind, .string x.space, .string x.name, .int .i64 x.ver, .slice x.A x.n x.c] 61)
 rw [← hw1] at hb1 hr1
 rw [← hB] at hr1
 have hV1 := hV.below hb1
 have HC : Hid (∀ W, Below w1.heap.size w1 W → W.cell? ⟨gs, 2, none⟩ = some (.int .i64 (M.rev : Int)) ∧ W.cell? ⟨B, 0, none⟩ = some (.int .i64 (R : Int)) ∧ W.cell? ⟨B, 1, none⟩ = some (.bool d)) := Hj fun W hW => by
  have hr := (hW.block B (Cz hr1)).trans hr1
  exact ⟨(hV1.below hW).cell.2.2.1, Kq 0 hr, Kq 1 hr⟩
 have HS : Hid (∀ W, Below w1.heap.size w1 W → (fun w' => w'.cell? ⟨gs, 1, none⟩ = some (.pointer (some ⟨gt, 0, none⟩)) ∧ w'.cell? ⟨B, 2, none⟩ = some (.int .i64 x.kind) ∧ w'.cell? ⟨B, 3, none⟩ = some (.string x.space) ∧ w'.cell? ⟨B, 4, none⟩ = some (.string x.name) ∧ w'.cell? ⟨B, 5, none⟩ = some (.int .i64 x.ver) ∧ w'.cell? ⟨B, 6, none⟩ = some (.slice x.A x.n x.c)) W) := Hj fun W hW => by
  have hr := (hW.block B (Cz hr1)).trans hr1
  exact ⟨(hV1.below hW).cell.2.1, Kq 2 hr, Kq 3 hr, Kq 4 hr, Kq 5 hr, Kq 6 hr⟩
 dsimp only at HS
 have HKey : Hid (∀ W, Calls Tryz.prog 38 #[.agg #[.int .i64 x.kind, .string x.space, .string x.name, .int .i64 x.ver, .slice x.A x.n x.c]] W fun e w' => e = .returned (.string (keyB x.kind x.space x.name)) ∧ Below W.heap.size W w') := Hj fun W => key_any x W hk hs hn
 have hris := hV.ris
 obtain ⟨v, ok, HGet, HOk⟩ : ∃ (v : OV) (ok : Bool), Hid (∀ W, Below w1.heap.size w1 W → Calls Tryz.prog 37 #[.pointer (some ⟨gt, 0, none⟩), (.string (keyB x.kind x.space x.name))] W fun e w' => e = .returned (.tuple #[(.agg #[.int .i64 v.kind, .string v.space, .string v.name, .int .i64 v.ver, .slice v.A v.n v.c]), .bool ok]) ∧ Below W.heap.size W w') ∧ Hid (ok = true ∨ (ok = false ∧ d = false)) := by
  rcases hlk with ⟨o, hlk⟩ | ⟨hlk, hd⟩
  ·have hlx : look klt (keyB x.kind x.space x.name) (xs.map fun x => (x.1, x.2.2)) = some o := by rw [← hV.tabM]; exact hlk
   rw [look_map (fun y : OV × ObM => y.2)] at hlx
   obtain ⟨⟨v, o'⟩, hxe, -⟩ := Option.map_eq_some_iff.1 hlx
   have hlv : look klt (keyB x.kind x.space x.name) (xs.map fun x => (x.1, x.2.1)) = some v := by rw [look_map (fun y : OV × ObM => y.1), hxe]; rfl
   exact ⟨v, true, Hj fun W hW => Get_some gt _ v sh _ W (hV1.below hW).tab hris hlv, Hj (.inl rfl)⟩
  ·have hlx : look klt (keyB x.kind x.space x.name) (xs.map fun x => (x.1, x.2.1)) = none := by
    rw [look_map (fun y : OV × ObM => y.1)]
    have := hlk
    rw [hV.tabM, look_map (fun y : OV × ObM => y.2)] at this
    rw [Option.map_eq_none_iff] at this ⊢
    exact this
   exact ⟨⟨0, ⟨#[]⟩, ⟨#[]⟩, 0, none, 0, 0⟩, false, Hj fun W hW => Get_none gt _ sh _ W (hV1.below hW).tab hris hlx, Hj (.inr ⟨rfl, hd⟩)⟩
 clear hlk
 have HB1 := Hj hb1
 have HW1 := Hj hw1
 have HBE := Hj hB
 have hwr : IntKind.i64.wrap ((M.rev : Int) + 1) = (R : Int) := by rw [IntWalk.i64_in _ (by omega)]; omega
 have hwr2 : wrap64 ((M.rev : Int) + 1) = (R : Int) := by unfold wrap64; omega
 clear hb1 hr1 hw1 hB hV hV1 h hris hk hs hn hm hR
 go_enter Tryz.func35, Tryz.ntmps35
 go_wp2
 rw [← HW1.out, ← HBE.out]
 refine wp_region_noPanic ?_
 refine wp_region_held_drew (S := (fun w' => w'.cell? ⟨gs, 1, none⟩ = some (.pointer (some ⟨gt, 0, none⟩)) ∧ w'.cell? ⟨B, 2, none⟩ = some (.int .i64 x.kind) ∧ w'.cell? ⟨B, 3, none⟩ = some (.string x.space) ∧ w'.cell? ⟨B, 4, none⟩ = some (.string x.name) ∧ w'.cell? ⟨B, 5, none⟩ = some (.int .i64 x.ver) ∧ w'.cell? ⟨B, 6, none⟩ = some (.slice x.A x.n x.c))) (by kernel_rfl) ?_ (fun hHeld => ?_)
 ·exact HS.out w1.drew ⟨rfl, rfl, rfl, Nat.le_refl _, fun _ _ => rfl⟩
 refine tk 0 hHeld ?_
 try simp only [pa]
 refine tk 1 hHeld ?_
 try simp only [pa]
 refine tk 2 hHeld ?_
 try simp only [pa]
 refine tk 3 hHeld ?_
 try simp only [pa]
 refine tk 4 hHeld ?_
 try simp only [pa]
 refine tk 5 hHeld ?_
 try simp only [pa]
 refine rd2 6 11 rfl rfl (fun K hK => ?_) (fun K hK => ?_)
 focus
  go_simp
  refine (HKey.out w1.drew).mono ?_
  rintro e wk ⟨rfl, hbk⟩
  have HBk : Hid (Below w1.heap.size w1 wk) := Hj (Below.trans (Below.refl w1.heap.size w1) (Below.mono ⟨hbk.os, hbk.tape, hbk.output, hbk.size, hbk.block⟩ ((Below.refl w1.heap.size w1)).size))
  have hwk := HS.out _ HBk.out
  clear hbk
  refine hK.out _ _ ?_ (fun hHeld => ?_)
  ·exact hwk
  clear hK K
  try simp only [pa]
  refine rd2 7 11 rfl rfl (fun K hK => ?_) (fun K hK => ?_)
  focus
   go_simp
   refine (HGet.out wk HBk.out).mono ?_
   rintro e wg ⟨rfl, hbg⟩
   have HBg : Hid (Below w1.heap.size w1 wg) := Hj (Below.trans HBk.out (Below.mono ⟨hbg.os, hbg.tape, hbg.output, hbg.size, hbg.block⟩ (HBk.out).size))
   have hwg := HS.out _ HBg.out
   clear hbg
   refine hK.out _ _ ?_ (fun hHeld => ?_)
   ·exact hwg
   clear hK K
   try simp only [pa]
   refine tk 8 hHeld ?_
   try simp only [pa]
   refine tk 9 hHeld ?_
   try simp only [pa]
   refine tk 10 hHeld ?_
   try simp only [pa]
   refine rd1 11 rfl (fun K hK => ?_)
   go_simp
   obtain ⟨wx, hwx⟩ : ∃ W, W = (wg).alloc (.cells #[.int .i64 0, .string ⟨#[]⟩, .string ⟨#[]⟩, .int .i64 0, .slice none 0 0] 26) := ⟨_, rfl⟩
   obtain ⟨BX, hBX⟩ : ∃ B, B = (wg).heap.size := ⟨_, rfl⟩
   have HRx : Hid (wx.heap[BX]? = some (.cells #[.int .i64 0, .string ⟨#[]⟩, .string ⟨#[]⟩, .int .i64 0, .slice none 0 0] 26 (0, 0))) := Hj (by rw [hwx, hBX]; exact heap_alloc_new (wg) _)
   have HBx : Hid (Below w1.heap.size w1 wx) := Hj (by rw [hwx]; exact (show Below w1.heap.size w1 (wg) from ⟨(HBg.out).os, (HBg.out).tape, (HBg.out).output, (HBg.out).size, (HBg.out).block⟩).alloc (HBg.out).size _)
   have HXu : Hid (w1.heap.size ≤ BX) := Hj (by rw [hBX]; exact (HBg.out).size)
   have fx : ∀ k, wx.frozen? ⟨BX, k, none⟩ = false := fun k => Kx HRx.out
   obtain ⟨d0, d1, d2, d3, d4⟩ := VB.of_row (v := ⟨0, ⟨#[]⟩, ⟨#[]⟩, 0, none, 0, 0⟩) HRx.out
   have hwxg := HS.out _ HBx.out
   rw [← hwx, ← hBX]
   clear hwx hBX
   refine hK.out _ _ ?_ (fun hHeld => ?_)
   ·exact hwxg
   clear hK K
   try simp only [pa]
   refine rd1 12 rfl (fun K hK => ?_)
   go_simp
   obtain ⟨wf, hwf⟩ : ∃ W, W = (((((wx.setCell ⟨BX, 0, none⟩ (.int .i64 v.kind)).setCell ⟨BX, 1, none⟩ (.string v.space)).setCell ⟨BX, 2, none⟩ (.string v.name)).setCell ⟨BX, 3, none⟩ (.int .i64 v.ver)).setCell ⟨BX, 4, none⟩ (.slice v.A v.n v.c)) := ⟨_, rfl⟩
   have HRF : Hid (wf.heap[BX]? = some (.cells #[.int .i64 v.kind, .string v.space, .string v.name, .int .i64 v.ver, .slice v.A v.n v.c] 26 (0, 0))) := Hj (by rw [hwf]; exact (st5 HRx.out))
   have HBF : Hid (Below w1.heap.size w1 wf) := Hj (by rw [hwf]; exact (bel5 HBx.out HXu.out (.int .i64 v.kind) (.string v.space) (.string v.name) (.int .i64 v.ver) (.slice v.A v.n v.c)))
  rotate_right
  focus
   go_simp
   obtain ⟨wx, hwx⟩ : ∃ W, W = (wk).alloc (.cells #[.int .i64 0, .string ⟨#[]⟩, .string ⟨#[]⟩, .int .i64 0, .slice none 0 0] 26) := ⟨_, rfl⟩
   obtain ⟨BX, hBX⟩ : ∃ B, B = (wk).heap.size := ⟨_, rfl⟩
   have HRx : Hid (wx.heap[BX]? = some (.cells #[.int .i64 0, .string ⟨#[]⟩, .string ⟨#[]⟩, .int .i64 0, .slice none 0 0] 26 (0, 0))) := Hj (by rw [hwx, hBX]; exact heap_alloc_new (wk) _)
   have HBx : Hid (Below w1.heap.size w1 wx) := Hj (by rw [hwx]; exact (show Below w1.heap.size w1 (wk) from ⟨(HBk.out).os, (HBk.out).tape, (HBk.out).output, (HBk.out).size, (HBk.out).block⟩).alloc (HBk.out).size _)
   have HXu : Hid (w1.heap.size ≤ BX) := Hj (by rw [hBX]; exact (HBk.out).size)
   have hwxg := HS.out _ HBx.out
   rw [← hwx, ← hBX]
   clear hwx hBX
   refine hK.out _ _ ?_ (fun hHeld => ?_)
   ·exact hwxg
   clear hK K
   try simp only [pa]
   refine rd1 7 rfl (fun K hK => ?_)
   go_simp
   refine (HGet.out wx HBx.out).mono ?_
   rintro e wg ⟨rfl, hbg⟩
   have HBg : Hid (Below w1.heap.size w1 wg) := Hj (Below.trans HBx.out (Below.mono ⟨hbg.os, hbg.tape, hbg.output, hbg.size, hbg.block⟩ (HBx.out).size))
   have HRg : Hid (wg.heap[BX]? = some (.cells #[.int .i64 0, .string ⟨#[]⟩, .string ⟨#[]⟩, .int .i64 0, .slice none 0 0] 26 (0, 0))) := Hj ((hbg.block BX (Cz HRx.out)).trans HRx.out)
   have fx : ∀ k, wg.frozen? ⟨BX, k, none⟩ = false := fun k => Kx HRg.out
   obtain ⟨d0, d1, d2, d3, d4⟩ := VB.of_row (v := ⟨0, ⟨#[]⟩, ⟨#[]⟩, 0, none, 0, 0⟩) HRg.out
   have hwg := HS.out _ HBg.out
   clear hbg
   refine hK.out _ _ ?_ (fun hHeld => ?_)
   ·exact hwg
   clear hK K
   try simp only [pa]
   refine tk 8 hHeld ?_
   try simp only [pa]
   refine tk 9 hHeld ?_
   try simp only [pa]
   refine tk 10 hHeld ?_
   try simp only [pa]
   refine rd1 12 rfl (fun K hK => ?_)
   go_simp
   obtain ⟨wf, hwf⟩ : ∃ W, W = (((((wg.setCell ⟨BX, 0, none⟩ (.int .i64 v.kind)).setCell ⟨BX, 1, none⟩ (.string v.space)).setCell ⟨BX, 2, none⟩ (.string v.name)).setCell ⟨BX, 3, none⟩ (.int .i64 v.ver)).setCell ⟨BX, 4, none⟩ (.slice v.A v.n v.c)) := ⟨_, rfl⟩
   have HRF : Hid (wf.heap[BX]? = some (.cells #[.int .i64 v.kind, .string v.space, .string v.name, .int .i64 v.ver, .slice v.A v.n v.c] 26 (0, 0))) := Hj (by rw [hwf]; exact (st5 HRg.out))
   have HBF : Hid (Below w1.heap.size w1 wf) := Hj (by rw [hwf]; exact (bel5 HBg.out HXu.out (.int .i64 v.kind) (.string v.space) (.string v.name) (.int .i64 v.ver) (.slice v.A v.n v.c)))
 rotate_right
 focus
  go_simp
  obtain ⟨wx, hwx⟩ : ∃ W, W = (w1.alloc (.cells #[.int .i64 0, .string ⟨#[]⟩, .string ⟨#[]⟩, .int .i64 0, .slice none 0 0] 26)).drew := ⟨_, rfl⟩
  obtain ⟨BX, hBX⟩ : ∃ B, B = w1.heap.size := ⟨_, rfl⟩
  have HRx : Hid (wx.heap[BX]? = some (.cells #[.int .i64 0, .string ⟨#[]⟩, .string ⟨#[]⟩, .int .i64 0, .slice none 0 0] 26 (0, 0))) := Hj (by rw [hwx, hBX]; exact heap_alloc_new w1 _)
  have HBx : Hid (Below w1.heap.size w1 wx) := Hj (by rw [hwx]; exact ⟨((Below.refl w1.heap.size w1).alloc Kj (.cells #[.int .i64 0, .string ⟨#[]⟩, .string ⟨#[]⟩, .int .i64 0, .slice none 0 0] 26)).os, ((Below.refl w1.heap.size w1).alloc Kj (.cells #[.int .i64 0, .string ⟨#[]⟩, .string ⟨#[]⟩, .int .i64 0, .slice none 0 0] 26)).tape, ((Below.refl w1.heap.size w1).alloc Kj (.cells #[.int .i64 0, .string ⟨#[]⟩, .string ⟨#[]⟩, .int .i64 0, .slice none 0 0] 26)).output, ((Below.refl w1.heap.size w1).alloc Kj (.cells #[.int .i64 0, .string ⟨#[]⟩, .string ⟨#[]⟩, .int .i64 0, .slice none 0 0] 26)).size, ((Below.refl w1.heap.size w1).alloc Kj (.cells #[.int .i64 0, .string ⟨#[]⟩, .string ⟨#[]⟩, .int .i64 0, .slice none 0 0] 26)).block⟩)
  have HXu : Hid (w1.heap.size ≤ BX) := Hj (by rw [hBX]; exact Nat.le_refl _)
  have hwxg := HS.out _ HBx.out
  rw [← hwx, ← hBX]
  clear hwx hBX
  refine hK.out _ _ ?_ (fun hHeld => ?_)
  ·exact hwxg
  clear hK K
  try simp only [pa]
  refine rd1 6 rfl (fun K hK => ?_)
  go_simp
  refine (HKey.out wx).mono ?_
  rintro e wk ⟨rfl, hbk⟩
  have HBk : Hid (Below w1.heap.size w1 wk) := Hj (Below.trans HBx.out (Below.mono ⟨hbk.os, hbk.tape, hbk.output, hbk.size, hbk.block⟩ (HBx.out).size))
  have HRk : Hid (wk.heap[BX]? = some (.cells #[.int .i64 0, .string ⟨#[]⟩, .string ⟨#[]⟩, .int .i64 0, .slice none 0 0] 26 (0, 0))) := Hj ((hbk.block BX (Cz HRx.out)).trans HRx.out)
  have hwk := HS.out _ HBk.out
  clear hbk
  refine hK.out _ _ ?_ (fun hHeld => ?_)
  ·exact hwk
  clear hK K
  try simp only [pa]
  refine rd1 7 rfl (fun K hK => ?_)
  go_simp
  refine (HGet.out wk HBk.out).mono ?_
  rintro e wg ⟨rfl, hbg⟩
  have HBg : Hid (Below w1.heap.size w1 wg) := Hj (Below.trans HBk.out (Below.mono ⟨hbg.os, hbg.tape, hbg.output, hbg.size, hbg.block⟩ (HBk.out).size))
  have HRg : Hid (wg.heap[BX]? = some (.cells #[.int .i64 0, .string ⟨#[]⟩, .string ⟨#[]⟩, .int .i64 0, .slice none 0 0] 26 (0, 0))) := Hj ((hbg.block BX (Cz HRk.out)).trans HRk.out)
  have fx : ∀ k, wg.frozen? ⟨BX, k, none⟩ = false := fun k => Kx HRg.out
  obtain ⟨d0, d1, d2, d3, d4⟩ := VB.of_row (v := ⟨0, ⟨#[]⟩, ⟨#[]⟩, 0, none, 0, 0⟩) HRg.out
  have hwg := HS.out _ HBg.out
  clear hbg
  refine hK.out _ _ ?_ (fun hHeld => ?_)
  ·exact hwg
  clear hK K
  try simp only [pa]
  refine tk 8 hHeld ?_
  try simp only [pa]
  refine tk 9 hHeld ?_
  try simp only [pa]
  refine tk 10 hHeld ?_
  try simp only [pa]
  refine rd1 12 rfl (fun K hK => ?_)
  go_simp
  obtain ⟨wf, hwf⟩ : ∃ W, W = (((((wg.setCell ⟨BX, 0, none⟩ (.int .i64 v.kind)).setCell ⟨BX, 1, none⟩ (.string v.space)).setCell ⟨BX, 2, none⟩ (.string v.name)).setCell ⟨BX, 3, none⟩ (.int .i64 v.ver)).setCell ⟨BX, 4, none⟩ (.slice v.A v.n v.c)) := ⟨_, rfl⟩
  have HRF : Hid (wf.heap[BX]? = some (.cells #[.int .i64 v.kind, .string v.space, .string v.name, .int .i64 v.ver, .slice v.A v.n v.c] 26 (0, 0))) := Hj (by rw [hwf]; exact (st5 HRg.out))
  have HBF : Hid (Below w1.heap.size w1 wf) := Hj (by rw [hwf]; exact (bel5 HBg.out HXu.out (.int .i64 v.kind) (.string v.space) (.string v.name) (.int .i64 v.ver) (.slice v.A v.n v.c)))
 all_goals
  have HSF := Hj (HS.out _ HBF.out)
  rw [← hwf]
  clear hwf d0 d1 d2 d3 d4 fx
  refine hK.out _ _ ?_ (fun hHeld => ?_)
  ·exact HSF.out
  clear hK K
  try simp only [pa]
  refine tk 13 hHeld ?_
  try simp only [pa]
  refine wpAnyH_done (by kernel_rfl) ?_ _
  refine NoPanic.normal ?_
  rcases HOk.out with rfl | ⟨rfl, rfl⟩
  all_goals
   obtain ⟨cr, c0, c1⟩ := HC.out _ HBF.out
   go_wp2
   go_quiet (fail)
   go_wp2
   go_ret
   exact ⟨rfl, below_drewN (HB1.out.trans (HBF.out.mono HB1.out.size)) _⟩
theorem can_some (x : OV) (d : Bool) (h : SW w0 w Q g m gs L M) (hk : x.kind ≤ 9223372036854775807) (hs : x.space.size ≤ 1000) (hn : x.name.size ≤ 1000) (R : Nat) (hR : R = M.rev + 1) (hm : M.rev < 1099511627776) (o : ObM) (hlk : look klt (keyB x.kind x.space x.name) M.tab = some o) :
  Calls Tryz.prog 35 #[.pointer (some ⟨gs, 0, none⟩), .agg #[.int .i64 (R : Int), .bool d, .int .i64 x.kind, .string x.space, .string x.name, .int .i64 x.ver, .slice x.A x.n x.c]] w fun e w' => e = .returned (.bool true) ∧ Below w.heap.size w w' :=
 can_one x d h hk hs hn R hR hm (.inl ⟨o, hlk⟩)
theorem can_none (x : OV) (d : Bool) (h : SW w0 w Q g m gs L M) (hk : x.kind ≤ 9223372036854775807) (hs : x.space.size ≤ 1000) (hn : x.name.size ≤ 1000) (R : Nat) (hR : R = M.rev + 1) (hm : M.rev < 1099511627776) (hlk : look klt (keyB x.kind x.space x.name) M.tab = none) (hd : d = false) :
  Calls Tryz.prog 35 #[.pointer (some ⟨gs, 0, none⟩), .agg #[.int .i64 (R : Int), .bool d, .int .i64 x.kind, .string x.space, .string x.name, .int .i64 x.ver, .slice x.A x.n x.c]] w fun e w' => e = .returned (.bool true) ∧ Below w.heap.size w w' :=
 can_one x d h hk hs hn R hR hm (.inr ⟨hlk, hd⟩)
end
end Go.Proofs.YtfmagnpmjlppiaaGreatDoor
