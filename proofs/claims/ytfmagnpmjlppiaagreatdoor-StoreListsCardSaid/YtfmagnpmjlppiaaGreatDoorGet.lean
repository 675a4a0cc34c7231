/- Layer 20 (store): Get. -/
import Derived.Test.YtfmagnpmjlppiaaGreatDoorStS
import Derived.Test.YtfmagnpmjlppiaaGreatDoorNam
namespace Go.Proofs.YtfmagnpmjlppiaaGreatDoor
open Go.RowKit SO
section
variable {w w0 : World} {Q : Nat → Prop} {g gs : Nat} {m : DM} {L : LM} {M : StM}
/-- The object of a kind, a namespace and a name. -/
def getM (M : StM) (kind : Int) (space name : ByteArray) : Option ObM := match look klt (keyB kind space name) M.tab with
 | some o => if (o.kind : Int) = kind ∧ o.space = space then some o else none
 | none => none
set_option maxHeartbeats 4000000 in
set_option maxRecDepth 100000 in
theorem Get_st (kind : Int) (space name : ByteArray) (h : SW w0 w Q g m gs L M) (hk : kind ≤ 9223372036854775807) (hs : space.size ≤ 1000) (hn : name.size ≤ 1000) :
  Calls Tryz.prog 11 #[.pointer (some ⟨gs, 0, none⟩), .int .i64 kind, .string space, .string name] w fun e w' => ∃ v, e = .returned (.tuple #[.agg #[.int .i64 v.kind, .string v.space, .string v.name, .int .i64 v.ver, .slice v.A v.n v.c], .bool (getM M kind space name).isSome]) ∧ (∀ o, getM M kind space name = some o → IsO w' v o ∧ ∀ k, (sl v).ownBlock = some k → w.heap.size ≤ k) ∧ Below w.heap.size w w' := by
 obtain ⟨Z, gl, gt, sh, ev, xs, ys, hV, -, -⟩ := h.use
 obtain ⟨w1, hw1⟩ : ∃ W, W = w.alloc (.cells #[.int .i64 0, .string ⟨#[]⟩, .string ⟨#[]⟩, .int .i64 0, .slice none 0 0] 26) := ⟨_, rfl⟩
 obtain ⟨B, hB⟩ : ∃ B, B = w.heap.size := ⟨_, rfl⟩
 have hb1 := (Below.refl w.heap.size w).alloc Kj (.cells #[.int .i64 0, .string ⟨#[]⟩, .string ⟨#[]⟩, .int .i64 0, .slice none 0 0] 26)
 have hr1 := heap_alloc_new w (.cells #[.int .i64 0, .string ⟨#[]⟩, .string ⟨#[]⟩, .int .i64 0, .slice none 0 0] 26)
 rw [← hw1] at hb1 hr1
 rw [← hB] at hr1
 have hV1 := hV.below hb1
 have HC1 : Hid (∀ W, Below w1.heap.size w1 W → W.cell? ⟨gs, 1, none⟩ = some (.pointer (some ⟨gt, 0, none⟩))) := Hj fun W hW => (hV1.below hW).cell.2.1
 have c1 : w1.drew.cell? ⟨gs, 1, none⟩ = some (.pointer (some ⟨gt, 0, none⟩)) := (HC1.out w1 (Below.refl _ w1) : w1.cell? _ = _)
 have HKey : Hid (∀ W, Calls Tryz.prog 38 #[.agg #[.int .i64 kind, .string space, .string name, .int .i64 0, .slice none 0 0]] W fun e w' => e = .returned (.string (keyB kind space name)) ∧ Below W.heap.size W w') := Hj fun W => key_any ⟨kind, space, name, 0, none, 0, 0⟩ W hk hs hn
 have hris := hV.ris
 obtain ⟨G, hG⟩ : ∃ G, G = getM M kind space name := ⟨_, rfl⟩
 obtain ⟨v, ok, HGet, HCase⟩ : ∃ (v : OV) (ok : Bool), Hid (∀ W, Below w1.heap.size w1 W → Calls Tryz.prog 37 #[.pointer (some ⟨gt, 0, none⟩), (.string (keyB kind space name))] W fun e w' => e = .returned (.tuple #[(.agg #[.int .i64 v.kind, .string v.space, .string v.name, .int .i64 v.ver, .slice v.A v.n v.c]), .bool ok]) ∧ Below W.heap.size W w') ∧ Hid ((ok = false ∧ G = none) ∨ (ok = true ∧ (v.kind != kind) = true ∧ G = none) ∨ (ok = true ∧ (v.kind != kind) = false ∧ (v.space.toList == space.toList) = false ∧ (v.space.toList != space.toList) = true ∧ G = none) ∨ ∃ o', ok = true ∧ (v.kind != kind) = false ∧ (v.space.toList == space.toList) = true ∧ (v.space.toList != space.toList) = false ∧ G = some o' ∧ IsO w v o' ∧ v.n ≤ 1000000) := by
  unfold getM at hG
  have hV0 := hV
  cases hlk : look klt (keyB kind space name) M.tab with
  | none =>
   have hlx : look klt (keyB kind space name) (xs.map fun x => (x.1, x.2.1)) = none := by
    rw [look_map (fun y : OV × ObM => y.1)]
    have := hlk
    rw [hV.tabM, look_map (fun y : OV × ObM => y.2)] at this
    rw [Option.map_eq_none_iff] at this ⊢
    exact this
   exact ⟨⟨0, ⟨#[]⟩, ⟨#[]⟩, 0, none, 0, 0⟩, false, Hj fun W hW => Get_none gt _ sh _ W (hV1.below hW).tab hris hlx, Hj (.inl ⟨rfl, by rw [hG, hlk]⟩)⟩
  | some o =>
   have hlx : look klt (keyB kind space name) (xs.map fun x => (x.1, x.2.2)) = some o := by rw [← hV.tabM]; exact hlk
   rw [look_map (fun y : OV × ObM => y.2)] at hlx
   obtain ⟨⟨v, o'⟩, hxe, rfl⟩ := Option.map_eq_some_iff.1 hlx
   have hlv : look klt (keyB kind space name) (xs.map fun x => (x.1, x.2.1)) = some v := by rw [look_map (fun y : OV × ObM => y.1), hxe]; rfl
   obtain ⟨k', hmem⟩ := look_in hxe
   have hIs := hV.each _ hmem
   simp only at hIs
   refine ⟨v, true, Hj fun W hW => Get_some gt _ v sh _ W (hV1.below hW).tab hris hlv, Hj (.inr ?_)⟩
   rw [hlk] at hG
   simp only at hG
   by_cases heq : (o'.kind : Int) = kind
   ·have q1 : (v.kind != kind) = false := by rw [hIs.kind]; simpa using heq
    by_cases hes : o'.space = space
    ·rw [if_pos ⟨heq, hes⟩] at hG
     refine .inr (.inr ⟨o', rfl, q1, by rw [hIs.space, hes]; simp, by rw [hIs.space, hes]; simp, hG, hIs, ?_⟩)
     rw [hIs.num]
     have hm2 : (k', o') ∈ M.tab := (by rw [hV.tabM]; exact List.mem_map.2 ⟨_, hmem, rfl⟩)
     have := (hV.ok.tab.each _ hm2).2.1.data
     simp only at this; omega
    ·rw [if_neg fun x => hes x.2] at hG
     have q2 : (v.space.toList == space.toList) = false := by
      rw [hIs.space]
      refine beq_eq_false_iff_ne.2 fun e => hes ?_
      rw [ByteArray.toList_eq, ByteArray.toList_eq] at e
      exact ByteArray.ext (Array.toList_inj.1 e)
     exact .inr (.inl ⟨rfl, q1, q2, by simpa using q2, hG⟩)
   ·rw [if_neg fun x => heq x.1] at hG
    exact .inl ⟨rfl, by rw [hIs.kind]; simpa using heq, hG⟩
 rw [← hG]
 clear hG
 have HB1 := Hj hb1
 have HRow := Hj hr1
 have HW1 := Hj hw1
 have HBE := Hj hB
 clear hb1 hr1 hw1 hB hV hV1 h hris hk hs hn
 go_enter Tryz.func11, Tryz.ntmps11
 go_wp2
 rw [← HW1.out, ← HBE.out]
 refine wp_region_noPanic ?_
 refine wp_region_held_drew (S := (fun w' => w'.cell? ⟨gs, 1, none⟩ = some (.pointer (some ⟨gt, 0, none⟩)))) (by kernel_rfl) ?_ (fun hHeld => ?_)
 ·exact c1
 refine tk 0 hHeld ?_
 try simp only [pa]
 refine tk 1 hHeld ?_
 try simp only [pa]
 refine tk 2 hHeld ?_
 try simp only [pa]
 refine tk 3 hHeld ?_
 try simp only [pa]
 refine tk 4 hHeld ?_
 try simp only [pa]
 refine tk 5 hHeld ?_
 try simp only [pa]
 refine tk 6 hHeld ?_
 try simp only [pa]
 refine tk 7 hHeld ?_
 try simp only [pa]
 refine rd2 8 13 rfl rfl (fun K hK => ?_) (fun K hK => ?_)
 focus
  go_simp
  refine (HKey.out w1.drew).mono ?_
  rintro e wk ⟨rfl, hbk⟩
  have HBk : Hid (Below w1.heap.size w1 wk) := Hj (Below.trans (Below.refl w1.heap.size w1) (Below.mono ⟨hbk.os, hbk.tape, hbk.output, hbk.size, hbk.block⟩ ((Below.refl w1.heap.size w1)).size))
  have hwk : wk.cell? ⟨gs, 1, none⟩ = some (.pointer (some ⟨gt, 0, none⟩)) := HC1.out _ HBk.out
  clear hbk
  refine hK.out _ _ ?_ (fun hHeld => ?_)
  ·exact hwk
  clear hK K
  try simp only [pa]
  refine rd2 9 13 rfl rfl (fun K hK => ?_) (fun K hK => ?_)
  focus
   go_simp
   refine (HGet.out wk HBk.out).mono ?_
   rintro e wg ⟨rfl, hbg⟩
   have HBg : Hid (Below w1.heap.size w1 wg) := Hj (Below.trans HBk.out (Below.mono ⟨hbg.os, hbg.tape, hbg.output, hbg.size, hbg.block⟩ (HBk.out).size))
   have hwg : wg.cell? ⟨gs, 1, none⟩ = some (.pointer (some ⟨gt, 0, none⟩)) := HC1.out _ HBg.out
   clear hbg
   refine hK.out _ _ ?_ (fun hHeld => ?_)
   ·exact hwg
   clear hK K
   try simp only [pa]
   refine tk 10 hHeld ?_
   try simp only [pa]
   refine tk 11 hHeld ?_
   try simp only [pa]
   refine tk 12 hHeld ?_
   try simp only [pa]
   refine rd1 13 rfl (fun K hK => ?_)
   go_simp
   obtain ⟨wx, hwx⟩ : ∃ W, W = (wg).alloc (.cells #[.int .i64 0, .string ⟨#[]⟩, .string ⟨#[]⟩, .int .i64 0, .slice none 0 0] 26) := ⟨_, rfl⟩
   obtain ⟨BX, hBX⟩ : ∃ B, B = (wg).heap.size := ⟨_, rfl⟩
   have HRx : Hid (wx.heap[BX]? = some (.cells #[.int .i64 0, .string ⟨#[]⟩, .string ⟨#[]⟩, .int .i64 0, .slice none 0 0] 26 (0, 0))) := Hj (by rw [hwx, hBX]; exact heap_alloc_new (wg) _)
   have HBx : Hid (Below w1.heap.size w1 wx) := Hj (by rw [hwx]; exact (show Below w1.heap.size w1 (wg) from ⟨(HBg.out).os, (HBg.out).tape, (HBg.out).output, (HBg.out).size, (HBg.out).block⟩).alloc (HBg.out).size _)
   have HXu : Hid (w1.heap.size ≤ BX) := Hj (by rw [hBX]; exact (HBg.out).size)
   have fx : ∀ k, wx.frozen? ⟨BX, k, none⟩ = false := fun k => Kx HRx.out
   obtain ⟨d0, d1, d2, d3, d4⟩ := VB.of_row (v := ⟨0, ⟨#[]⟩, ⟨#[]⟩, 0, none, 0, 0⟩) HRx.out
   have hwxg : wx.cell? ⟨gs, 1, none⟩ = some (.pointer (some ⟨gt, 0, none⟩)) := HC1.out _ HBx.out
   try simp only [World.size_drew] at hBX
   try rw [← hwx, ← hBX]
   clear hwx hBX
   refine hK.out _ _ ?_ (fun hHeld => ?_)
   ·exact hwxg
   clear hK K
   try simp only [pa]
   refine rd1 14 rfl (fun K hK => ?_)
   go_simp
   obtain ⟨wf, hwf⟩ : ∃ W, W = (((((wx.setCell ⟨BX, 0, none⟩ (.int .i64 v.kind)).setCell ⟨BX, 1, none⟩ (.string v.space)).setCell ⟨BX, 2, none⟩ (.string v.name)).setCell ⟨BX, 3, none⟩ (.int .i64 v.ver)).setCell ⟨BX, 4, none⟩ (.slice v.A v.n v.c)) := ⟨_, rfl⟩
   have HRF : Hid (wf.heap[BX]? = some (.cells #[.int .i64 v.kind, .string v.space, .string v.name, .int .i64 v.ver, .slice v.A v.n v.c] 26 (0, 0))) := Hj (by rw [hwf]; exact (st5 HRx.out))
   have HBF : Hid (Below w1.heap.size w1 wf) := Hj (by rw [hwf]; exact (bel5 HBx.out HXu.out (.int .i64 v.kind) (.string v.space) (.string v.name) (.int .i64 v.ver) (.slice v.A v.n v.c)))
  rotate_right
  focus
   go_simp
   obtain ⟨wx, hwx⟩ : ∃ W, W = (wk).alloc (.cells #[.int .i64 0, .string ⟨#[]⟩, .string ⟨#[]⟩, .int .i64 0, .slice none 0 0] 26) := ⟨_, rfl⟩
   obtain ⟨BX, hBX⟩ : ∃ B, B = (wk).heap.size := ⟨_, rfl⟩
   have HRx : Hid (wx.heap[BX]? = some (.cells #[.int .i64 0, .string ⟨#[]⟩, .string ⟨#[]⟩, .int .i64 0, .slice none 0 0] 26 (0, 0))) := Hj (by rw [hwx, hBX]; exact heap_alloc_new (wk) _)
   have HBx : Hid (Below w1.heap.size w1 wx) := Hj (by rw [hwx]; exact (show Below w1.heap.size w1 (wk) from ⟨(HBk.out).os, (HBk.out).tape, (HBk.out).output, (HBk.out).size, (HBk.out).block⟩).alloc (HBk.out).size _)
   have HXu : Hid (w1.heap.size ≤ BX) := Hj (by rw [hBX]; exact (HBk.out).size)
   have hwxg : wx.cell? ⟨gs, 1, none⟩ = some (.pointer (some ⟨gt, 0, none⟩)) := HC1.out _ HBx.out
   try simp only [World.size_drew] at hBX
   try rw [← hwx, ← hBX]
   clear hwx hBX
   refine hK.out _ _ ?_ (fun hHeld => ?_)
   ·exact hwxg
   clear hK K
   try simp only [pa]
   refine rd1 9 rfl (fun K hK => ?_)
   go_simp
   refine (HGet.out wx HBx.out).mono ?_
   rintro e wg ⟨rfl, hbg⟩
   have HBg : Hid (Below w1.heap.size w1 wg) := Hj (Below.trans HBx.out (Below.mono ⟨hbg.os, hbg.tape, hbg.output, hbg.size, hbg.block⟩ (HBx.out).size))
   have HRg : Hid (wg.heap[BX]? = some (.cells #[.int .i64 0, .string ⟨#[]⟩, .string ⟨#[]⟩, .int .i64 0, .slice none 0 0] 26 (0, 0))) := Hj ((hbg.block BX (Cz HRx.out)).trans HRx.out)
   have fx : ∀ k, wg.frozen? ⟨BX, k, none⟩ = false := fun k => Kx HRg.out
   obtain ⟨d0, d1, d2, d3, d4⟩ := VB.of_row (v := ⟨0, ⟨#[]⟩, ⟨#[]⟩, 0, none, 0, 0⟩) HRg.out
   have hwg : wg.cell? ⟨gs, 1, none⟩ = some (.pointer (some ⟨gt, 0, none⟩)) := HC1.out _ HBg.out
   clear hbg
   refine hK.out _ _ ?_ (fun hHeld => ?_)
   ·exact hwg
   clear hK K
   try simp only [pa]
   refine tk 10 hHeld ?_
   try simp only [pa]
   refine tk 11 hHeld ?_
   try simp only [pa]
   refine tk 12 hHeld ?_
   try simp only [pa]
   refine rd1 14 rfl (fun K hK => ?_)
   go_simp
   obtain ⟨wf, hwf⟩ : ∃ W, W = (((((wg.setCell ⟨BX, 0, none⟩ (.int .i64 v.kind)).setCell ⟨BX, 1, none⟩ (.string v.space)).setCell ⟨BX, 2, none⟩ (.string v.name)).setCell ⟨BX, 3, none⟩ (.int .i64 v.ver)).setCell ⟨BX, 4, none⟩ (.slice v.A v.n v.c)) := ⟨_, rfl⟩
   have HRF : Hid (wf.heap[BX]? = some (.cells #[.int .i64 v.kind, .string v.space, .string v.name, .int .i64 v.ver, .slice v.A v.n v.c] 26 (0, 0))) := Hj (by rw [hwf]; exact (st5 HRg.out))
   have HBF : Hid (Below w1.heap.size w1 wf) := Hj (by rw [hwf]; exact (bel5 HBg.out HXu.out (.int .i64 v.kind) (.string v.space) (.string v.name) (.int .i64 v.ver) (.slice v.A v.n v.c)))
 rotate_right
 focus
  go_simp
  obtain ⟨wx, hwx⟩ : ∃ W, W = (w1.alloc (.cells #[.int .i64 0, .string ⟨#[]⟩, .string ⟨#[]⟩, .int .i64 0, .slice none 0 0] 26)).drew := ⟨_, rfl⟩
  obtain ⟨BX, hBX⟩ : ∃ B, B = w1.heap.size := ⟨_, rfl⟩
  have HRx : Hid (wx.heap[BX]? = some (.cells #[.int .i64 0, .string ⟨#[]⟩, .string ⟨#[]⟩, .int .i64 0, .slice none 0 0] 26 (0, 0))) := Hj (by rw [hwx, hBX]; exact heap_alloc_new w1 _)
  have HBx : Hid (Below w1.heap.size w1 wx) := Hj (by rw [hwx]; exact ⟨((Below.refl w1.heap.size w1).alloc Kj (.cells #[.int .i64 0, .string ⟨#[]⟩, .string ⟨#[]⟩, .int .i64 0, .slice none 0 0] 26)).os, ((Below.refl w1.heap.size w1).alloc Kj (.cells #[.int .i64 0, .string ⟨#[]⟩, .string ⟨#[]⟩, .int .i64 0, .slice none 0 0] 26)).tape, ((Below.refl w1.heap.size w1).alloc Kj (.cells #[.int .i64 0, .string ⟨#[]⟩, .string ⟨#[]⟩, .int .i64 0, .slice none 0 0] 26)).output, ((Below.refl w1.heap.size w1).alloc Kj (.cells #[.int .i64 0, .string ⟨#[]⟩, .string ⟨#[]⟩, .int .i64 0, .slice none 0 0] 26)).size, ((Below.refl w1.heap.size w1).alloc Kj (.cells #[.int .i64 0, .string ⟨#[]⟩, .string ⟨#[]⟩, .int .i64 0, .slice none 0 0] 26)).block⟩)
  have HXu : Hid (w1.heap.size ≤ BX) := Hj (by rw [hBX]; exact Nat.le_refl _)
  have hwxg : wx.cell? ⟨gs, 1, none⟩ = some (.pointer (some ⟨gt, 0, none⟩)) := HC1.out _ HBx.out
  rw [← hwx, ← hBX]
  clear hwx hBX
  refine hK.out _ _ ?_ (fun hHeld => ?_)
  ·exact hwxg
  clear hK K
  try simp only [pa]
  refine rd1 8 rfl (fun K hK => ?_)
  go_simp
  refine (HKey.out wx).mono ?_
  rintro e wk ⟨rfl, hbk⟩
  have HBk : Hid (Below w1.heap.size w1 wk) := Hj (Below.trans HBx.out (Below.mono ⟨hbk.os, hbk.tape, hbk.output, hbk.size, hbk.block⟩ (HBx.out).size))
  have HRk : Hid (wk.heap[BX]? = some (.cells #[.int .i64 0, .string ⟨#[]⟩, .string ⟨#[]⟩, .int .i64 0, .slice none 0 0] 26 (0, 0))) := Hj ((hbk.block BX (Cz HRx.out)).trans HRx.out)
  have hwk : wk.cell? ⟨gs, 1, none⟩ = some (.pointer (some ⟨gt, 0, none⟩)) := HC1.out _ HBk.out
  clear hbk
  refine hK.out _ _ ?_ (fun hHeld => ?_)
  ·exact hwk
  clear hK K
  try simp only [pa]
  refine rd1 9 rfl (fun K hK => ?_)
  go_simp
  refine (HGet.out wk HBk.out).mono ?_
  rintro e wg ⟨rfl, hbg⟩
  have HBg : Hid (Below w1.heap.size w1 wg) := Hj (Below.trans HBk.out (Below.mono ⟨hbg.os, hbg.tape, hbg.output, hbg.size, hbg.block⟩ (HBk.out).size))
  have HRg : Hid (wg.heap[BX]? = some (.cells #[.int .i64 0, .string ⟨#[]⟩, .string ⟨#[]⟩, .int .i64 0, .slice none 0 0] 26 (0, 0))) := Hj ((hbg.block BX (Cz HRk.out)).trans HRk.out)
  have fx : ∀ k, wg.frozen? ⟨BX, k, none⟩ = false := fun k => Kx HRg.out
  obtain ⟨d0, d1, d2, d3, d4⟩ := VB.of_row (v := ⟨0, ⟨#[]⟩, ⟨#[]⟩, 0, none, 0, 0⟩) HRg.out
  have hwg : wg.cell? ⟨gs, 1, none⟩ = some (.pointer (some ⟨gt, 0, none⟩)) := HC1.out _ HBg.out
  clear hbg
  refine hK.out _ _ ?_ (fun hHeld => ?_)
  ·exact hwg
  clear hK K
  try simp only [pa]
  refine tk 10 hHeld ?_
  try simp only [pa]
  refine tk 11 hHeld ?_
  try simp only [pa]
  refine tk 12 hHeld ?_
  try simp only [pa]
  refine rd1 14 rfl (fun K hK => ?_)
  go_simp
  obtain ⟨wf, hwf⟩ : ∃ W, W = (((((wg.setCell ⟨BX, 0, none⟩ (.int .i64 v.kind)).setCell ⟨BX, 1, none⟩ (.string v.space)).setCell ⟨BX, 2, none⟩ (.string v.name)).setCell ⟨BX, 3, none⟩ (.int .i64 v.ver)).setCell ⟨BX, 4, none⟩ (.slice v.A v.n v.c)) := ⟨_, rfl⟩
  have HRF : Hid (wf.heap[BX]? = some (.cells #[.int .i64 v.kind, .string v.space, .string v.name, .int .i64 v.ver, .slice v.A v.n v.c] 26 (0, 0))) := Hj (by rw [hwf]; exact (st5 HRg.out))
  have HBF : Hid (Below w1.heap.size w1 wf) := Hj (by rw [hwf]; exact (bel5 HBg.out HXu.out (.int .i64 v.kind) (.string v.space) (.string v.name) (.int .i64 v.ver) (.slice v.A v.n v.c)))
 all_goals
  have HSF : Hid (wf.cell? ⟨gs, 1, none⟩ = some (.pointer (some ⟨gt, 0, none⟩))) := Hj (HC1.out _ HBF.out)
  obtain ⟨hf0, hf1, hf2, hf3, hf4⟩ := cells5 HRF.out
  rw [← hwf]
  clear hwf d0 d1 d2 d3 d4 fx
  refine hK.out _ _ ?_ (fun hHeld => ?_)
  ·exact HSF.out
  clear hK K
  try simp only [pa]
  refine tk 15 hHeld ?_
  try simp only [pa]
  refine wpAnyH_done (by kernel_rfl) ?_ _
  refine NoPanic.normal ?_
  have HRB : Hid (wf.heap[B]? = some (.cells #[.int .i64 0, .string ⟨#[]⟩, .string ⟨#[]⟩, .int .i64 0, .slice none 0 0] 26 (0, 0))) := Hj ((HBF.out.block B (by have := (Cz HRow.out); exact this)).trans HRow.out)
  rcases HCase.out with ⟨rfl, hg⟩ | ⟨rfl, q1, hg⟩ | ⟨rfl, q1, q2, q3, hg⟩ | ⟨o', rfl, q1, q2, q3, hg, hIs, hNn⟩
  all_goals replace hg := Hj hg
  iterate 3
   ·have fB : ∀ k, wf.frozen? ⟨B, k, none⟩ = false := fun k => Kx HRB.out
    obtain ⟨b0, b1, b2, b3, b4⟩ := VB.of_row (v := ⟨0, ⟨#[]⟩, ⟨#[]⟩, 0, none, 0, 0⟩) HRB.out
    go_wp2
    exact bodyPost_ret (results_cellT _ rfl rfl (st5 HRB.out) Tryz.underlying26 info_obj) rfl ⟨⟨0, ⟨#[]⟩, ⟨#[]⟩, 0, none, 0, 0⟩, by rw [hg.out]; rfl, fun o ho => (by rw [hg.out] at ho; cases ho), (bel5 (HB1.out.trans (HBF.out.mono HB1.out.size)) (by rw [HBE.out]; exact Nat.le_refl _) (.int .i64 0) (.string ⟨#[]⟩) (.string ⟨#[]⟩) (.int .i64 0) (.slice none 0 0))⟩
  have HIs := Hj hIs
  have HNn := Hj hNn
  clear hIs hNn
  have HCo := Hj (copied_obj v wf o'.data ((HIs.out.below (HB1.out.trans (HBF.out.mono HB1.out.size))).rb) HNn.out)
  go_wp2_with (go_at_call 39; (with_reducible refine HCo.out.mono ?_); rintro e w9 ⟨A9, c9, rfl, ho9, hb9⟩; have HO9 := Hj ho9; have HB9 := Hj hb9; have HRB9 := Hj ((hb9.block B (Cz HRB.out)).trans HRB.out); have fB : ∀ k, w9.frozen? ⟨B, k, none⟩ = false := (fun k => Kx HRB9.out); obtain ⟨b0, b1, b2, b3, b4⟩ := VB.of_row (v := ⟨0, ⟨#[]⟩, ⟨#[]⟩, 0, none, 0, 0⟩) HRB9.out; clear ho9 hb9)
  have hF := (fr5 B w9 (.int .i64 v.kind) (.string v.space) (.string v.name) (.int .i64 v.ver) (.slice A9 v.n c9))
  have hbw : Below w.heap.size w w9 := (HB1.out.trans (HBF.out.mono HB1.out.size)).trans (HB9.out.mono (Kv HB1.out.size HBF.out.size))
  have h10 : OB ((((((w9.setCell ⟨B, 0, none⟩ (.int .i64 v.kind)).setCell ⟨B, 1, none⟩ (.string v.space)).setCell ⟨B, 2, none⟩ (.string v.name)).setCell ⟨B, 3, none⟩ (.int .i64 v.ver)).setCell ⟨B, 4, none⟩ (.slice A9 v.n c9))) 0 (.slice A9 v.n c9) o'.data := by
   have h9 : OB w9 wf.heap.size (.slice A9 v.n c9) o'.data := HO9.out
   refine OB.mono (OB.keepB h9 fun k hk => hF.block k (h9.lt k hk).2 fun e => ?_) (Nat.zero_le _)
   obtain ⟨cur, hcur⟩ := own_type h9 hk
   rw [e] at hcur
   exact absurd (types_ne hcur HRB9.out) (by decide)
  exact bodyPost_ret (results_cellT _ rfl rfl (st5 HRB9.out) Tryz.underlying26 info_obj) rfl ⟨⟨v.kind, v.space, v.name, v.ver, A9, v.n, c9⟩, by rw [hg.out]; rfl, fun o ho => (by rw [hg.out] at ho; injection ho with ho; subst ho; refine ⟨⟨HIs.out.kind, HIs.out.space, HIs.out.name, HIs.out.ver, HIs.out.num, ?_⟩, fun k hk => Kv (Kv HB1.out.size HBF.out.size) (OwnS.lt HO9.out k hk).1⟩; exact h10), hbw.trans (hF.below hbw.size fun i _ e => by rw [e, HBE.out]; exact Nat.le_refl _)⟩
end
end Go.Proofs.YtfmagnpmjlppiaaGreatDoor
