/- Layer 20 (store): change. -/
import Derived.Test.YtfmagnpmjlppiaaGreatDoorCpt
namespace Go.Proofs.YtfmagnpmjlppiaaGreatDoor
open Go.RowKit SO
section
variable {m : DM} {A : Nat → List UInt8} {L : LM}
theorem sync_waitsS (m : DM) : m.sync.waits.length ≤ m.waits.length := by
 unfold DM.sync
 split
 ·rw [m.unit_waits]; exact Nat.le_refl _
 ·exact Nat.zero_le _
theorem write_waits1S (m : DM) (a p : Int) (bs : List UInt8) : (m.write a p bs).waits.length ≤ m.waits.length + 1 := by
 unfold DM.write
 split
 ·show (m.unit.waits ++ [_]).length ≤ _
  rw [m.unit_waits, List.length_append]; simp
 ·split
  ·rw [m.unit_waits]; omega
  ·omega
theorem cut_waits1S (m : DM) (a n : Int) : (m.cut a n).waits.length ≤ m.waits.length + 1 := by
 unfold DM.cut
 split
 ·show (m.unit.waits ++ [_]).length ≤ _
  rw [m.unit_waits, List.length_append]; simp
 ·split
  ·rw [m.unit_waits]; omega
  ·omega
theorem wrM_waits1S (m : DM) (a p : Int) (bs : List UInt8) : (wrM m a p bs).waits.length ≤ m.waits.length + 1 := by
 unfold wrM
 split
 ·exact Kv (sync_waitsS _) (write_waits1S _ _ _ _)
 ·exact write_waits1S _ _ _ _
theorem clM_waits1S (m : DM) (a : Int) : (clM m a).waits.length ≤ m.waits.length + 1 := by
 unfold clM
 split
 ·exact Kv (sync_waitsS _) (cut_waits1S _ _ _)
 ·exact cut_waits1S _ _ _
theorem swM_waits3S (m : DM) (a : Int) (bs : List UInt8) : (swM m a bs).waits.length ≤ m.waits.length + 3 := by
 unfold swM
 split
 ·split
  ·have h1 := clM_waits1S (wrM (clM m a) a 0 bs) 2
   have h2 := wrM_waits1S (clM m a) a 0 bs
   have h3 := clM_waits1S m a
   omega
  ·have h2 := wrM_waits1S (clM m a) a 0 bs
   have h3 := clM_waits1S m a
   omega
 ·have h3 := clM_waits1S m a
  omega
theorem appM_waitsS (m : DM) (L : LM) (t : List UInt8) : (L.appM m t).waits.length ≤ m.waits.length + 3 := by
 unfold LM.appM
 split
 ·have := wrM_waits1S m 2 (endOf L.recs : Int) (recB L.gen L.recs.length t); omega
 ·omega
theorem cpM_waitsS (m : DM) (L : LM) (t : List UInt8) : (L.cpM m t).waits.length ≤ m.waits.length + 3 := by
 unfold LM.cpM
 split
 ·exact swM_waits3S _ _ _
 ·omega
theorem DM.Ok.appMS (h : m.Ok) (L : LM) (t : List UInt8) : (L.appM m t).Ok := by
 unfold LM.appM
 split
 ·exact h.wrM _ _ _
 ·exact h
theorem DM.Ok.cpMS (h : m.Ok) (L : LM) (t : List UInt8) : (L.cpM m t).Ok := by
 unfold LM.cpM
 split
 ·exact h.swM _ _
 ·exact h

theorem appE_leS (L : LM) (m : DM) (t : List UInt8) : L.appE m t ≤ 28 := by
 unfold LM.appE LM.room
 repeat (first | split | omega)
theorem cp_okS (h : L.Ok) (m : DM) (t : List UInt8) (ht : t.length ≤ 1048576) : (L.cp m t).Ok := by
 unfold LM.cp
 split
 ·rename_i hs
  split
  ·refine ⟨by have := (space_zero hs).2.1; show L.gen + 1 ≤ _; omega, ?_, ht, by show endOf [] ≤ _; decide⟩
   have := h.slot
   show 1 - L.slot = 0 ∨ 1 - L.slot = 1
   omega
  ·exact ⟨h.gen, h.slot, h.text, h.recs⟩
 ·exact h
end
theorem wrap_next {r R : Nat} (h : r < 1099511627776) (e : R = r + 1) : IntKind.i64.wrap ((r : Int) + 1) = (R : Int) ∧ wrap64 ((r : Int) + 1) = (R : Int) := by
 refine ⟨?_, ?_⟩
 ·rw [IntWalk.i64_in _ (by omega)]; omega
 ·unfold wrap64; omega
section
variable {w w' w0 w5 w6 : World} {Q Y : Nat → Prop} {g gs : Nat} {m m' : DM} {L L' : LM} {M M' : StM} {ea : Nat → Addr}
theorem SW.fin (h : SW w0 w Q g m gs L M) (hb : Below w.heap.size w w5) (h6 : Fr Q w5 w6) (h9 : SW w0 w' (fun k => ext (ext Q w5 w6) w6 w' k ∨ Y k) g m' gs L' M') (hf9 : Fr (ext Q w5 w6) w6 w') (hY : ∀ k, Y k → w.heap.size ≤ k ∧ k < w'.heap.size) :
  SW w0 w' (ext Q w w') g m' gs L' M' ∧ Fr Q w w' := by
 have hs := hb.size
 refine ⟨h9.mono (fun k hk => ?_) fun k hk => ext_in h.up h.hi h.bel.size (Kv hs (Kv h6.size hf9.size)) hk, ((Fr.of_below (S := Q) hb).trans h6 fun _ _ hk => hk).trans hf9 fun i hi hk => hk.elim id fun hk => absurd hk.1 (by omega)⟩
 rcases hk with hk | hk
 ·rcases ext_trans h6.size hf9.size hk with hk | hk
  ·exact .inl hk
  ·exact .inr ⟨Kv hs hk.1, hk.2⟩
 ·exact .inr (hY k hk)
theorem Append_st (A : Option Addr) (n k : Nat) (b : List UInt8) (h : SW w0 w Q g m gs L M) (hE : EW w0 ea) (hok : m.Ok) (hL : L.Ok) (hw : m.waits.length ≤ 1000) (ho : OB w 0 (.slice A n k) b) (hoff : ∀ q, (Value.slice A n k).ownBlock = some q → ¬ Q q) :
  ∃ gl, w.cell? ⟨gs, 0, none⟩ = some (.pointer (some ⟨gl, 0, none⟩)) ∧ Calls Tryz.prog 89 #[.pointer (some ⟨gl, 0, none⟩), .slice A n k] w fun e w' => e = .returned (dErr ea (L.appE m b)) ∧ SW w0 w' (ext Q w w') g (L.appM m b) gs (L.app m b) M ∧ Fr Q w w' := by
 obtain ⟨S, gl, hdw, hc0, hSQ, hcl⟩ := h.log
 obtain ⟨A', c', e', h1, h2, h3⟩ := OB.form ho
 injection e' with e1 e2 e3
 refine ⟨gl, hc0, (Append_any A n k b hdw hE hok hL (by rw [e1, e2]; exact h3) (fun _ p hp hs => hoff p.block (by rw [hp]; rfl) (hSQ _ hs)) (by rw [e2, e3]; exact h1) (by rw [e3]; exact h2) hw).mono ?_⟩
 rintro e w' ⟨rfl, hdw2, hf2⟩
 have h2 := hcl _ _ _ hdw2 hf2
 exact ⟨rfl, h2.1, h2.2⟩
theorem apply_any (v : OV) (o : ObM) (d : Bool) (h : SW w0 w Q g m gs L M) (hv : IsO w v o) (hX : ∀ k, (sl v).ownBlock = some k → ¬ Q k ∧ w0.heap.size ≤ k) (hc : M.Can (d, o)) (hl : M.tab.length ≤ 100000) (hl2 : M.evs.length ≤ 100000) :
  Calls Tryz.prog 36 #[.pointer (some ⟨gs, 0, none⟩), .agg #[.int .i64 (o.ver : Int), .bool d, .int .i64 v.kind, .string v.space, .string v.name, .int .i64 v.ver, .slice v.A v.n v.c]] w fun en w' => en = .returned (.tuple #[]) ∧ SW w0 w' (fun k => ext Q w w' k ∨ (sl v).ownBlock = some k) g m gs L (M.app (d, o)) ∧ Fr Q w w' := by
 cases d with
 | false => exact apply_put v o h hv hX hc hl hl2
 | true => exact apply_del v o h hv hX hc hl hl2
theorem bytes_any (v : OV) (o : ObM) (d : Bool) (hv : IsO w v o) (ho : o.Ok) (hm : o.ver ≤ 1099511627776) :
  Calls Tryz.prog 88 #[.agg #[.int .i64 (o.ver : Int), .bool d, .int .i64 v.kind, .string v.space, .string v.name, .int .i64 v.ver, .slice v.A v.n v.c]] w fun e w' => ∃ A c, e = .returned (.tuple #[.slice A (evO (d, o)).length c, .nilIface]) ∧ OB w' w.heap.size (.slice A (evO (d, o)).length c) (evO (d, o)) ∧ Below w.heap.size w w' := by
 obtain ⟨p1, p2, p3, p4, p5⟩ := ho.parts
 have hpd := ho.data
 cases d with
 | false =>
  have h := bytes_put o.ver o.kind v o.data w hv.kind (by omega) (by omega) (by rw [hv.space]; omega) (by rw [hv.name]; omega) hv.rb (by rw [hv.num]; omega) hv.cap.1 hv.cap.2
  have e : evO (false, o) = evB 1 o.kind o.ver v.space.data.toList v.name.data.toList o.data := by rw [hv.space, hv.name]; rfl
  rw [e]
  exact h
 | true =>
  have h := bytes_del o.ver o.kind v o.data w hv.kind (by omega) (by omega) (by rw [hv.space]; omega) (by rw [hv.name]; omega) hv.rb (by rw [hv.num]; omega) hv.cap.1 hv.cap.2
  have e : evO (true, o) = evB 2 o.kind o.ver v.space.data.toList v.name.data.toList [] := by rw [hv.space, hv.name]; rfl
  rw [e]
  exact h
theorem five_ways (a b c : Nat) : a = 0 ∨ (a ≠ 0 ∧ a ≠ 26) ∨ (a = 26 ∧ b ≠ 0) ∨ (a = 26 ∧ b = 0 ∧ c = 0) ∨ (a = 26 ∧ b = 0 ∧ c ≠ 0) := by omega
set_option maxHeartbeats 20000000 in
set_option maxRecDepth 100000 in
theorem change_any (v : OV) (o : ObM) (del : Bool) (h : SW w0 w Q g m gs L M) (hErr : Errs w0 ea) (hE : EW w0 ea) (hok : m.Ok) (hL : L.Ok) (hw : m.waits.length ≤ 900) (hrb : RB w v.A v.n o.data) (hk : v.kind = (o.kind : Int) ∧ v.space = o.space ∧ v.name = o.name) (hc : M.Can (del, o)) (hr : M.rev < 1099511627776) (hl : M.tab.length ≤ 90) (hl2 : M.evs.length ≤ 100000) :
  Calls Tryz.prog 43 #[.pointer (some ⟨gs, 0, none⟩), .agg #[.int .i64 v.kind, .string v.space, .string v.name, .int .i64 v.ver, .slice v.A v.n v.c], .bool del] w fun en w' => ∃ n E M' L' m', en = .returned (.tuple #[.int .i64 ((n : Nat) : Int), dErr ea E]) ∧ Chg M L m (del, o) n E M' L' m' ∧ SW w0 w' (ext Q w w') g m' gs L' M' ∧ Fr Q w w' := by
 have hge : ¬ (1099511627776 : Int) ≤ (M.rev : Int) := by clear hw hl hl2; omega
 obtain ⟨w1, hw1, B, hB, hb1, hr1⟩ := box_obj w v
 have HS : Hid (∀ W, Below w1.heap.size w1 W → (fun w' => w'.cell? ⟨gs, 2, none⟩ = some (.int .i64 (M.rev : Int)) ∧ w'.cell? ⟨B, 0, none⟩ = some (.int .i64 v.kind) ∧ w'.cell? ⟨B, 1, none⟩ = some (.string v.space) ∧ w'.cell? ⟨B, 2, none⟩ = some (.string v.name) ∧ w'.cell? ⟨B, 3, none⟩ = some (.int .i64 v.ver) ∧ w'.cell? ⟨B, 4, none⟩ = some (.slice v.A v.n v.c)) W) := Hj fun W hW => by
  have hr := (hW.block B (Cz hr1)).trans hr1
  obtain ⟨_, _, _, _, _, _, _, hV, _, _⟩ := ((h.below hb1).below hW).use
  exact ⟨hV.cell.2.2.1, Kq 0 hr, Kq 1 hr, Kq 2 hr, Kq 3 hr, Kq 4 hr⟩
 dsimp only at HS
 have hnum : o.data.length = v.n := hrb.1
 have hdl := hc.ok.data
 have HCo : Hid (∀ W, Below w1.heap.size w1 W → Calls Tryz.prog 39 #[.agg #[.int .i64 v.kind, .string v.space, .string v.name, .int .i64 v.ver, .slice v.A v.n v.c]] W fun e w' => ∃ A1 c1, e = .returned (.agg #[.int .i64 v.kind, .string v.space, .string v.name, .int .i64 v.ver, .slice A1 v.n c1]) ∧ OB w' W.heap.size (.slice A1 v.n c1) o.data ∧ Below W.heap.size W w') := Hj fun W hW => copied_obj v W o.data ((hrb.keep (Kz hb1)).keep (Kz hW)) (by simp only at hdl; omega)
 obtain ⟨R, hR⟩ : ∃ r, r = M.rev + 1 := ⟨_, rfl⟩
 have hver := hc.ver
 simp only at hver
 rw [← hR] at hver
 have HVer : Hid (o.ver = R) := Hj hver
 have HK : Hid (v.kind = (o.kind : Int) ∧ v.space = o.space ∧ v.name = o.name ∧ (R : Int) = (o.ver : Int) ∧ v.n = o.data.length) := Hj ⟨hk.1, hk.2.1, hk.2.2, by rw [hver], hnum.symm⟩
 have hrev2 : w1.cell? ⟨gs, 2, none⟩ = some (.int .i64 (M.rev : Int)) := (HS.out w1 (Below.refl _ _)).1
 have hrev1 : (w.alloc (.cells #[.int .i64 v.kind, .string v.space, .string v.name, .int .i64 v.ver, .slice v.A v.n v.c] 26)).cell? ⟨gs, 2, none⟩ = some (.int .i64 (M.rev : Int)) := by rw [← hw1]; exact hrev2
 obtain ⟨bb, hbb⟩ : ∃ b, b = evO (del, o) := ⟨_, rfl⟩
 obtain ⟨EL, hEL⟩ : ∃ n, n = bb.length := ⟨_, rfl⟩
 obtain ⟨E1, hE1⟩ : ∃ n, n = L.appE m bb := ⟨_, rfl⟩
 have HBe : Hid (bb = evO (del, o)) := Hj hbb
 have HELe : Hid (EL = bb.length) := Hj hEL
 have HE1 : Hid (E1 = L.appE m bb) := Hj hE1
 have hE28 : E1 ≤ 28 := by rw [hE1]; exact appE_leS _ _ _
 have HE28 := Hj hE28
 have HSW := Hj h
 have HCan := Hj hc
 have HErr := Hj hErr
 have HEW := Hj hE
 have HMok := Hj hok
 have HLok := Hj hL
 have HMw : Hid (m.waits.length ≤ 1000) := Hj (by omega)
 have HMw9 := Hj hw
 have HTl := Hj hl
 have HEl := Hj hl2
 have HRev := Hj hr
 have HB1 := Hj hb1
 have HW1 := Hj hw1
 have HBE := Hj hB
 obtain ⟨tt, htt⟩ : ∃ t, t = snapT M.rev M.tab := ⟨_, rfl⟩
 obtain ⟨E2, hE2⟩ : ∃ n, n = L.cpE m tt := ⟨_, rfl⟩
 have HTe : Hid (tt = snapT M.rev M.tab) := Hj htt
 have HE2 : Hid (E2 = L.cpE m tt) := Hj hE2
 have HF26 : Hid (E1 = 26 → L.appM m bb = m ∧ L.app m bb = L) := Hj fun e => app_full L m bb (by rw [← hE1]; exact e)
 have HTtl : Hid (tt.length ≤ 1000000) := Hj (by rw [htt]; have := snap_len h.ok.tab h.ok.most; omega)
 have HLc : Hid ((L.cp m tt).Ok) := Hj (cp_okS hL m tt (by have := HTtl.out; omega))
 have HMc : Hid ((L.cpM m tt).Ok) := Hj (DM.Ok.cpMS hok L tt)
 have HMc9 : Hid ((L.cpM m tt).waits.length ≤ 1000) := Hj (by have := cpM_waitsS m L tt; omega)
 obtain ⟨L1, hL1⟩ : ∃ x, x = L.cp m tt := ⟨_, rfl⟩
 obtain ⟨m1, hm1⟩ : ∃ x, x = L.cpM m tt := ⟨_, rfl⟩
 rw [← hL1] at HLc
 rw [← hm1] at HMc HMc9
 obtain ⟨E3, hE3⟩ : ∃ n, n = L1.appE m1 bb := ⟨_, rfl⟩
 have HL1 : Hid (L1 = L.cp m tt) := Hj hL1
 have HM1 : Hid (m1 = L.cpM m tt) := Hj hm1
 have HE3 : Hid (E3 = L1.appE m1 bb) := Hj hE3
 obtain ⟨hwr, hwr2⟩ := wrap_next hr hR
 clear h hErr hE hok hL hw hrb hk hc hr hl hl2 hw1 hB hb1 hr1 hver hnum hdl hR hbb hEL hE1 hE28 hrev2 htt hE2 hL1 hm1 hE3
 go_enter Tryz.func43, Tryz.ntmps43
 go_wp2
 rw [← HW1.out, ← HBE.out]
 clear hrev1
 refine wp_region_noPanic ?_
 refine wp_region_held_drew (S := (fun w' => w'.cell? ⟨gs, 2, none⟩ = some (.int .i64 (M.rev : Int)) ∧ w'.cell? ⟨B, 0, none⟩ = some (.int .i64 v.kind) ∧ w'.cell? ⟨B, 1, none⟩ = some (.string v.space) ∧ w'.cell? ⟨B, 2, none⟩ = some (.string v.name) ∧ w'.cell? ⟨B, 3, none⟩ = some (.int .i64 v.ver) ∧ w'.cell? ⟨B, 4, none⟩ = some (.slice v.A v.n v.c))) (by kernel_rfl) ?_ (fun hHeld => ?_)
 ·exact HS.out w1.drew ⟨rfl, rfl, rfl, Nat.le_refl _, fun _ _ => rfl⟩
 refine tk 0 hHeld ?_
 try simp only [pa]
 refine tk 1 hHeld ?_
 try simp only [pa]
 refine tk 2 hHeld ?_
 try simp only [pa]
 refine tk 3 hHeld ?_
 try simp only [pa]
 refine tk 4 hHeld ?_
 try simp only [pa]
 refine tk 5 hHeld ?_
 try simp only [pa]
 refine tk 6 hHeld ?_
 try simp only [pa]
 refine rd2 7 9 rfl rfl (fun K hK => ?_) (fun K hK => ?_)
 focus
  go_simp
  refine (HCo.out w1.drew ⟨rfl, rfl, rfl, Nat.le_refl _, fun _ _ => rfl⟩).mono ?_
  rintro e wk ⟨A9, c9, rfl, ho9, hbk⟩
  have HBk : Hid (Below w1.heap.size w1 wk) := Hj (Below.trans (Below.refl w1.heap.size w1) (Below.mono ⟨hbk.os, hbk.tape, hbk.output, hbk.size, hbk.block⟩ ((Below.refl w1.heap.size w1)).size))
  have HOk : Hid (OB wk w1.heap.size (.slice A9 v.n c9) o.data) := Hj (OB.mono ho9 ((Below.refl w1.heap.size w1)).size)
  have hwk := HS.out _ HBk.out
  clear hbk ho9
  refine hK.out _ _ ?_ (fun hHeld => ?_)
  ·exact hwk
  clear hK K
  try simp only [pa]
  refine tk 8 hHeld ?_
  try simp only [pa]
  refine rd1 9 rfl (fun K hK => ?_)
  go_simp
  obtain ⟨wx, hwx⟩ : ∃ W, W = (wk).alloc (.cells #[.int .i64 0, .bool false, .int .i64 0, .string ⟨#[]⟩, .string ⟨#[]⟩, .int .i64 0, .slice none 0 0] 61) := ⟨_, rfl⟩
  obtain ⟨BX, hBX⟩ : ∃ B, B = (wk).heap.size := ⟨_, rfl⟩
  have HRx : Hid (wx.heap[BX]? = some (.cells #[.int .i64 0, .bool false, .int .i64 0, .string ⟨#[]⟩, .string ⟨#[]⟩, .int .i64 0, .slice none 0 0] 61 (0, 0))) := Hj (by rw [hwx, hBX]; exact heap_alloc_new (wk) _)
  have hbx := (Below.refl (wk).heap.size (wk)).alloc Kj (.cells #[.int .i64 0, .bool false, .int .i64 0, .string ⟨#[]⟩, .string ⟨#[]⟩, .int .i64 0, .slice none 0 0] 61)
  have HOx : Hid (OB wx w1.heap.size (.slice A9 v.n c9) o.data) := Hj (by rw [hwx]; exact OB.below HOk.out hbx)
  have HBx : Hid (Below w1.heap.size w1 wx) := Hj (by rw [hwx]; exact HBk.out.alloc HBk.out.size _)
  have HXu : Hid (w1.heap.size ≤ BX) := Hj (by rw [hBX]; exact (HBk.out).size)
  have fx : ∀ k, wx.frozen? ⟨BX, k, none⟩ = false := fun k => Kx HRx.out
  obtain ⟨d0, d1, d2, d3, d4, d5, d6⟩ := cells7 HRx.out
  have hwxg := HS.out _ HBx.out
  rw [← hwx, ← hBX]
  clear hwx hBX hbx
  refine hK.out _ _ ?_ (fun hHeld => ?_)
  ·exact hwxg
  clear hK K
  try simp only [pa]
  refine rd1 10 rfl (fun K hK => ?_)
  go_simp
  obtain ⟨wf, hwf⟩ : ∃ W, W = (((((((wx.setCell ⟨BX, 0, none⟩ (.int .i64 (R : Int))).setCell ⟨BX, 1, none⟩ (.bool del)).setCell ⟨BX, 2, none⟩ (.int .i64 v.kind)).setCell ⟨BX, 3, none⟩ (.string v.space)).setCell ⟨BX, 4, none⟩ (.string v.name)).setCell ⟨BX, 5, none⟩ (.int .i64 v.ver)).setCell ⟨BX, 6, none⟩ (.slice A9 v.n c9)) := ⟨_, rfl⟩
  have HRF : Hid (wf.heap[BX]? = some (.cells #[.int .i64 (R : Int), .bool del, .int .i64 v.kind, .string v.space, .string v.name, .int .i64 v.ver, .slice A9 v.n c9] 61 (0, 0))) := Hj (by rw [hwf]; exact (st7 HRx.out))
  have HBF : Hid (Below w1.heap.size w1 wf) := Hj (by rw [hwf]; exact (bel7 HBx.out HXu.out (.int .i64 (R : Int)) (.bool del) (.int .i64 v.kind) (.string v.space) (.string v.name) (.int .i64 v.ver) (.slice A9 v.n c9)))
  have HOF : Hid (OB wf w1.heap.size (.slice A9 v.n c9) o.data) := Hj (by
   have hF := (fr7 BX wx (.int .i64 (R : Int)) (.bool del) (.int .i64 v.kind) (.string v.space) (.string v.name) (.int .i64 v.ver) (.slice A9 v.n c9))
   rw [← hwf] at hF
   exact OB.keepB HOx.out fun k hk => hF.block k (HOx.out.lt k hk).2 fun e => (by
    obtain ⟨cur, hcur⟩ := own_type HOx.out hk
    exact typ_no hcur e HRx.out (by decide)))
 rotate_right
 focus
  go_simp
  obtain ⟨wx, hwx⟩ : ∃ W, W = (w1.alloc (.cells #[.int .i64 0, .bool false, .int .i64 0, .string ⟨#[]⟩, .string ⟨#[]⟩, .int .i64 0, .slice none 0 0] 61)).drew := ⟨_, rfl⟩
  obtain ⟨BX, hBX⟩ : ∃ B, B = w1.heap.size := ⟨_, rfl⟩
  have HRx : Hid (wx.heap[BX]? = some (.cells #[.int .i64 0, .bool false, .int .i64 0, .string ⟨#[]⟩, .string ⟨#[]⟩, .int .i64 0, .slice none 0 0] 61 (0, 0))) := Hj (by rw [hwx, hBX]; exact heap_alloc_new w1 _)
  have HBx : Hid (Below w1.heap.size w1 wx) := Hj (by rw [hwx]; exact ⟨((Below.refl w1.heap.size w1).alloc Kj (.cells #[.int .i64 0, .bool false, .int .i64 0, .string ⟨#[]⟩, .string ⟨#[]⟩, .int .i64 0, .slice none 0 0] 61)).os, ((Below.refl w1.heap.size w1).alloc Kj (.cells #[.int .i64 0, .bool false, .int .i64 0, .string ⟨#[]⟩, .string ⟨#[]⟩, .int .i64 0, .slice none 0 0] 61)).tape, ((Below.refl w1.heap.size w1).alloc Kj (.cells #[.int .i64 0, .bool false, .int .i64 0, .string ⟨#[]⟩, .string ⟨#[]⟩, .int .i64 0, .slice none 0 0] 61)).output, ((Below.refl w1.heap.size w1).alloc Kj (.cells #[.int .i64 0, .bool false, .int .i64 0, .string ⟨#[]⟩, .string ⟨#[]⟩, .int .i64 0, .slice none 0 0] 61)).size, ((Below.refl w1.heap.size w1).alloc Kj (.cells #[.int .i64 0, .bool false, .int .i64 0, .string ⟨#[]⟩, .string ⟨#[]⟩, .int .i64 0, .slice none 0 0] 61)).block⟩)
  have HXu : Hid (w1.heap.size ≤ BX) := Hj (by rw [hBX]; exact Nat.le_refl _)
  have hwxg := HS.out _ HBx.out
  rw [← hwx, ← hBX]
  clear hwx hBX
  refine hK.out _ _ ?_ (fun hHeld => ?_)
  ·exact hwxg
  clear hK K
  try simp only [pa]
  refine rd1 7 rfl (fun K hK => ?_)
  go_simp
  refine (HCo.out wx HBx.out).mono ?_
  rintro e wk ⟨A9, c9, rfl, ho9, hbk⟩
  have HBk : Hid (Below w1.heap.size w1 wk) := Hj (Below.trans HBx.out (Below.mono ⟨hbk.os, hbk.tape, hbk.output, hbk.size, hbk.block⟩ (HBx.out).size))
  have HOk : Hid (OB wk w1.heap.size (.slice A9 v.n c9) o.data) := Hj (OB.mono ho9 (HBx.out).size)
  have HRk : Hid (wk.heap[BX]? = some (.cells #[.int .i64 0, .bool false, .int .i64 0, .string ⟨#[]⟩, .string ⟨#[]⟩, .int .i64 0, .slice none 0 0] 61 (0, 0))) := Hj ((hbk.block BX (Cz HRx.out)).trans HRx.out)
  have fx : ∀ k, wk.frozen? ⟨BX, k, none⟩ = false := fun k => Kx HRk.out
  obtain ⟨d0, d1, d2, d3, d4, d5, d6⟩ := cells7 HRk.out
  have hwk := HS.out _ HBk.out
  clear hbk ho9
  refine hK.out _ _ ?_ (fun hHeld => ?_)
  ·exact hwk
  clear hK K
  try simp only [pa]
  refine tk 8 hHeld ?_
  try simp only [pa]
  refine rd1 10 rfl (fun K hK => ?_)
  go_simp
  obtain ⟨wf, hwf⟩ : ∃ W, W = (((((((wk.setCell ⟨BX, 0, none⟩ (.int .i64 (R : Int))).setCell ⟨BX, 1, none⟩ (.bool del)).setCell ⟨BX, 2, none⟩ (.int .i64 v.kind)).setCell ⟨BX, 3, none⟩ (.string v.space)).setCell ⟨BX, 4, none⟩ (.string v.name)).setCell ⟨BX, 5, none⟩ (.int .i64 v.ver)).setCell ⟨BX, 6, none⟩ (.slice A9 v.n c9)) := ⟨_, rfl⟩
  have HRF : Hid (wf.heap[BX]? = some (.cells #[.int .i64 (R : Int), .bool del, .int .i64 v.kind, .string v.space, .string v.name, .int .i64 v.ver, .slice A9 v.n c9] 61 (0, 0))) := Hj (by rw [hwf]; exact (st7 HRk.out))
  have HBF : Hid (Below w1.heap.size w1 wf) := Hj (by rw [hwf]; exact (bel7 HBk.out HXu.out (.int .i64 (R : Int)) (.bool del) (.int .i64 v.kind) (.string v.space) (.string v.name) (.int .i64 v.ver) (.slice A9 v.n c9)))
  have HOF : Hid (OB wf w1.heap.size (.slice A9 v.n c9) o.data) := Hj (by
   have hF := (fr7 BX wk (.int .i64 (R : Int)) (.bool del) (.int .i64 v.kind) (.string v.space) (.string v.name) (.int .i64 v.ver) (.slice A9 v.n c9))
   rw [← hwf] at hF
   exact OB.keepB HOk.out fun k hk => hF.block k (HOk.out.lt k hk).2 fun e => (by
    obtain ⟨cur, hcur⟩ := own_type HOk.out hk
    exact typ_no hcur e HRk.out (by decide)))
 all_goals
  have HSF := Hj (HS.out _ HBF.out)
  rw [← hwf]
  clear hwf d0 d1 d2 d3 d4 d5 d6 fx
  refine hK.out _ _ ?_ (fun hHeld => ?_)
  ·exact HSF.out
  clear hK K
  try simp only [pa]
  refine wpAnyH_done (by kernel_rfl) ?_ _
  refine NoPanic.normal ?_
  obtain ⟨hfwf0, hfwf1, hfwf2, hfwf3, hfwf4, hfwf5, hfwf6⟩ := cells7 HRF.out; have hfzwf : ∀ k, wf.frozen? ⟨BX, k, none⟩ = false := (fun k => Kx HRF.out)
  have hcs : E1 = 0 ∨ (E1 ≠ 0 ∧ E1 ≠ 26) ∨ (E1 = 26 ∧ E2 ≠ 0) ∨ (E1 = 26 ∧ E2 = 0 ∧ E3 = 0) ∨ (E1 = 26 ∧ E2 = 0 ∧ E3 ≠ 0) := five_ways E1 E2 E3
  rcases hcs with h1 | ⟨h1, h26⟩ | ⟨h1, h2⟩ | ⟨h1, h2, h3⟩ | ⟨h1, h2, h3⟩
  focus
   subst h1
  rotate_left
  focus
   have HD1 := Hj (dErr_form ea h1)
   have HN1 := Hj h1
   have HN26 := Hj h26
   have HDec := Hj (decide_eq_false h26)
   clear h1 h26
  rotate_left
  focus
   have HfM := Hj (HF26.out h1).1
   have HfL := Hj (HF26.out h1).2
   have HD2 := Hj (dErr_form ea h2)
   have HN2 := Hj h2
   subst h1
   clear h2
  rotate_left
  focus
   have HfM := Hj (HF26.out h1).1
   have HfL := Hj (HF26.out h1).2
   subst h1
   subst h2
   subst h3
  rotate_left
  focus
   have HfM := Hj (HF26.out h1).1
   have HfL := Hj (HF26.out h1).2
   have HD3 := Hj (dErr_form ea h3)
   have HN3 := Hj h3
   subst h1
   subst h2
   clear h3
  rotate_left
  all_goals
   go_wp2_with (first
    | (go_at_call 88; go_loud (
     obtain ⟨wg, hwg⟩ : ∃ W, W = wf.setCell ⟨BX, 5, none⟩ (.int .i64 (R : Int)) := ⟨_, rfl⟩
     have hRg : wg.heap[BX]? = some (.cells #[.int .i64 (R : Int), .bool del, .int .i64 v.kind, .string v.space, .string v.name, .int .i64 (R : Int), .slice A9 v.n c9] 61 (0, 0)) := (by rw [hwg]; exact heap_setCell_same _ _ 5 _ _ (.int .i64 (R : Int)) HRF.out)
     have hBg : Below w1.heap.size w1 wg := (by rw [hwg]; exact Below.setCell HBF.out (p := ⟨BX, 5, none⟩) HXu.out _)
     have hOg : OB wg w1.heap.size (.slice A9 v.n c9) o.data := (by rw [hwg]; exact OB.other HOF.out HRF.out (by decide))
     have hIg : IsO wg ⟨v.kind, v.space, v.name, (R : Int), A9, v.n, c9⟩ o := ⟨HK.out.1, HK.out.2.1, HK.out.2.2.1, HK.out.2.2.2.1, HK.out.2.2.2.2, OB.mono hOg (Nat.zero_le _)⟩
     rw [← hwg]
     have hBy := bytes_any ⟨v.kind, v.space, v.name, (R : Int), A9, v.n, c9⟩ o del hIg HCan.out.ok HCan.out.most
     rw [HVer.out, ← HBe.out, ← HELe.out] at hBy
     (with_reducible refine hBy.mono ?_)
     rintro e w5 ⟨A5, k5, rfl, ho5, hb5⟩
     have HB5 : Hid (Below w.heap.size w w5) := Hj ((HB1.out.trans (hBg.mono HB1.out.size)).trans (hb5.mono (Kv HB1.out.size hBg.size)))
     have HO5 : Hid (OB w5 w.heap.size (.slice A5 EL k5) bb) := Hj (OB.mono ho5 (Kv HB1.out.size hBg.size))
     have HV5 : Hid (IsO w5 ⟨v.kind, v.space, v.name, (R : Int), A9, v.n, c9⟩ o) := Hj (hIg.below hb5)
     have HVo : Hid (∀ k, (sl ⟨v.kind, v.space, v.name, (R : Int), A9, v.n, c9⟩).ownBlock = some k → w.heap.size ≤ k) := Hj fun k hk => Kv HB1.out.size (OwnS.lt hOg k hk).1
     have HR5 : Hid (w5.heap[BX]? = some (.cells #[.int .i64 (R : Int), .bool del, .int .i64 v.kind, .string v.space, .string v.name, .int .i64 (R : Int), .slice A9 v.n c9] 61 (0, 0))) := Hj ((hb5.block BX (Cz hRg)).trans hRg)
     have HBXw : Hid (w.heap.size ≤ BX) := Hj (Kv HB1.out.size HXu.out)
     have h5 := HSW.out.below HB5.out
     have H5 := Hj h5
     obtain ⟨gl, hc0, hap⟩ := Append_st A5 EL k5 bb h5 HEW.out HMok.out HLok.out HMw.out (OB.mono ho5 (Nat.zero_le _)) (fun q hq hQ => absurd (HSW.out.hi q hQ) (Nat.not_lt.2 (OwnS.lt HO5.out q hq).1))
     rw [← HE1.out] at hap
     first | rw [dErr_zero] at hap | rw [HD1.out] at hap | rw [dErr_form ea (by decide : (26 : Nat) ≠ 0), HfM.out, HfL.out] at hap
     have HAp := Hj hap
     clear hwg hRg hBg hOg hIg hBy ho5 hb5 h5 hap))
    | (go_at_call 89; have hg2 := HAp2; clear hg2; go_loud (
     (with_reducible refine HAp2.out.mono ?_)
     rintro e w8 ⟨rfl, hs8, hf8⟩
     obtain ⟨hs8, hf8⟩ := H5.out.then HFw7.out ⟨hs8, hf8⟩
     have HSw8 := Hj hs8
     have HFw8 := Hj hf8
     have HStw8 : Hid (∀ k, w.heap.size ≤ k → k < w5.heap.size → w8.heap[k]? = w5.heap[k]?) := Hj fun k h1 h2 => HFw8.out.block k h2 fun hq => absurd (HSW.out.hi k hq) (Nat.not_lt.2 h1)
     have HRw8 : Hid (w8.heap[BX]? = some (.cells #[.int .i64 (R : Int), .bool del, .int .i64 v.kind, .string v.space, .string v.name, .int .i64 (R : Int), .slice A9 v.n c9] 61 (0, 0))) := Hj ((HStw8.out BX HBXw.out (Cz HR5.out)).trans HR5.out)
     have herrw8 : w8.cell? ⟨26, 0, none⟩ = some (.iface 338 (.pointer (some (ea 26)))) := (HErr.out.below HSw8.out.bel).cell 26 (by decide) (by decide)
     have HErw8 : Hid (Errs w8 ea) := Hj (HErr.out.below HSw8.out.bel)
     obtain ⟨hfw80, hfw81, hfw82, hfw83, hfw84, hfw85, hfw86⟩ := cells7 HRw8.out; have hfzw8 : ∀ k, w8.frozen? ⟨BX, k, none⟩ = false := (fun k => Kx HRw8.out)
     clear hs8 hf8))
    | (go_at_call 89; go_loud (
     (with_reducible refine HAp.out.mono ?_)
     rintro e w6 ⟨rfl, hs6, hf6⟩
     have HSw6 := Hj hs6
     have HFw6 := Hj hf6
     have HStw6 : Hid (∀ k, w.heap.size ≤ k → k < w5.heap.size → w6.heap[k]? = w5.heap[k]?) := Hj fun k h1 h2 => HFw6.out.block k h2 fun hq => absurd (HSW.out.hi k hq) (Nat.not_lt.2 h1)
     have HRw6 : Hid (w6.heap[BX]? = some (.cells #[.int .i64 (R : Int), .bool del, .int .i64 v.kind, .string v.space, .string v.name, .int .i64 (R : Int), .slice A9 v.n c9] 61 (0, 0))) := Hj ((HStw6.out BX HBXw.out (Cz HR5.out)).trans HR5.out)
     have herrw6 : w6.cell? ⟨26, 0, none⟩ = some (.iface 338 (.pointer (some (ea 26)))) := (HErr.out.below HSw6.out.bel).cell 26 (by decide) (by decide)
     have HErw6 : Hid (Errs w6 ea) := Hj (HErr.out.below HSw6.out.bel)
     obtain ⟨hfw60, hfw61, hfw62, hfw63, hfw64, hfw65, hfw66⟩ := cells7 HRw6.out; have hfzw6 : ∀ k, w6.frozen? ⟨BX, k, none⟩ = false := (fun k => Kx HRw6.out)
     clear hs6 hf6))
    | (go_at_call 46; go_loud (
     first
      | (with_reducible refine (is_nil (ea 26) w6).mono ?_)
      | (have his := HErw6.out.is E1 26 (Nat.pos_of_ne_zero HN1.out) HE28.out (by decide) (by decide); rw [HDec.out] at his; (with_reducible refine his.mono ?_))
      | (have his := HErw6.out.is 26 26 (by decide) (by decide) (by decide) (by decide); rw [decide_eq_true rfl] at his; (with_reducible refine his.mono ?_))
     rintro e w' ⟨rfl, rfl⟩))
    | (go_at_call 19; go_loud (
     have hcm := Compact_st HSw6.out HEW.out HMok.out HLok.out HMw.out HTl.out
     rw [← HTe.out, ← HE2.out] at hcm
     first | rw [HD2.out, if_neg HN2.out] at hcm | rw [dErr_zero, if_pos rfl, ← HL1.out, ← HM1.out] at hcm
     (with_reducible refine hcm.mono ?_)
     rintro e w7 ⟨rfl, hs7, hf7⟩
     obtain ⟨hs7, hf7⟩ := H5.out.then HFw6.out ⟨hs7, hf7⟩
     have HSw7 := Hj hs7
     have HFw7 := Hj hf7
     have HStw7 : Hid (∀ k, w.heap.size ≤ k → k < w5.heap.size → w7.heap[k]? = w5.heap[k]?) := Hj fun k h1 h2 => HFw7.out.block k h2 fun hq => absurd (HSW.out.hi k hq) (Nat.not_lt.2 h1)
     have HRw7 : Hid (w7.heap[BX]? = some (.cells #[.int .i64 (R : Int), .bool del, .int .i64 v.kind, .string v.space, .string v.name, .int .i64 (R : Int), .slice A9 v.n c9] 61 (0, 0))) := Hj ((HStw7.out BX HBXw.out (Cz HR5.out)).trans HR5.out)
     have herrw7 : w7.cell? ⟨26, 0, none⟩ = some (.iface 338 (.pointer (some (ea 26)))) := (HErr.out.below HSw7.out.bel).cell 26 (by decide) (by decide)
     have HErw7 : Hid (Errs w7 ea) := Hj (HErr.out.below HSw7.out.bel)
     try (obtain ⟨gl7, hc7, hap2⟩ := Append_st A5 EL k5 bb hs7 HEW.out HMc.out HLc.out HMc9.out (OB.keepB (OB.mono HO5.out (Nat.zero_le _)) fun k hk => HStw7.out k (OwnS.lt HO5.out k hk).1 (OwnS.lt HO5.out k hk).2) (fun q hq hQ => hQ.elim (fun hQ => absurd (HSW.out.hi q hQ) (Nat.not_lt.2 (OwnS.lt HO5.out q hq).1)) fun hQ => absurd (OwnS.lt HO5.out q hq).2 (Nat.not_lt.2 hQ.1)); rw [← HE3.out] at hap2; (first | rw [dErr_zero] at hap2 | rw [HD3.out] at hap2); have HAp2 := Hj hap2; clear hap2)
     clear hs7 hf7 hcm))
    | (go_at_call 36; have HS8 := HSw8; clear HS8; go_loud (
     have hvw8 : IsO w8 ⟨v.kind, v.space, v.name, (R : Int), A9, v.n, c9⟩ o := HV5.out.keepB fun k hk => HStw8.out k (HVo.out k hk) (HV5.out.data.lt k hk).2
     have hXw8 : ∀ k, (sl ⟨v.kind, v.space, v.name, (R : Int), A9, v.n, c9⟩).ownBlock = some k → ¬ ext Q w5 w8 k ∧ w0.heap.size ≤ k := (fun k hk => ⟨fun hq => hq.elim (fun hq => absurd (HSW.out.hi k hq) (Nat.not_lt.2 (HVo.out k hk))) fun hq => absurd (HV5.out.data.lt k hk).2 (Nat.not_lt.2 hq.1), Kv HSW.out.bel.size (HVo.out k hk)⟩)
     have hap9 := apply_any ⟨v.kind, v.space, v.name, (R : Int), A9, v.n, c9⟩ o del HSw8.out hvw8 hXw8 (fresh_can HCan.out) (show M.tab.length ≤ _ from Kv HTl.out (by decide)) (by show ([] : List (Bool × ObM)).length ≤ _; decide)
     rw [HVer.out] at hap9
     (with_reducible refine hap9.mono ?_)
     rintro e w9 ⟨rfl, hs9, hf9⟩
     have HY9 : Hid (∀ k, (sl ⟨v.kind, v.space, v.name, (R : Int), A9, v.n, c9⟩).ownBlock = some k → w.heap.size ≤ k ∧ k < w9.heap.size) := Hj fun k hk => ⟨HVo.out k hk, Nat.lt_of_lt_of_le (hvw8.data.lt k hk).2 hf9.size⟩
     have HFin := Hj (HSW.out.fin HB5.out HFw8.out hs9 hf9 HY9.out)
     have HR9 : Hid (w9.heap[BX]? = some (.cells #[.int .i64 (R : Int), .bool del, .int .i64 v.kind, .string v.space, .string v.name, .int .i64 (R : Int), .slice A9 v.n c9] 61 (0, 0))) := Hj ((hf9.block BX (Cz HRw8.out) fun hq => hq.elim (fun hq => absurd (HSW.out.hi BX hq) (Nat.not_lt.2 HBXw.out)) fun hq => absurd (Cz HR5.out) (Nat.not_lt.2 hq.1)).trans HRw8.out)
     have hr90 := Kq 0 HR9.out
     simp at hr90
     clear hs9 hf9 hap9 hvw8 hXw8))
    | (go_at_call 36; go_loud (
     have hvw6 : IsO w6 ⟨v.kind, v.space, v.name, (R : Int), A9, v.n, c9⟩ o := HV5.out.keepB fun k hk => HStw6.out k (HVo.out k hk) (HV5.out.data.lt k hk).2
     have hXw6 : ∀ k, (sl ⟨v.kind, v.space, v.name, (R : Int), A9, v.n, c9⟩).ownBlock = some k → ¬ ext Q w5 w6 k ∧ w0.heap.size ≤ k := (fun k hk => ⟨fun hq => hq.elim (fun hq => absurd (HSW.out.hi k hq) (Nat.not_lt.2 (HVo.out k hk))) fun hq => absurd (HV5.out.data.lt k hk).2 (Nat.not_lt.2 hq.1), Kv HSW.out.bel.size (HVo.out k hk)⟩)
     have hap9 := apply_any ⟨v.kind, v.space, v.name, (R : Int), A9, v.n, c9⟩ o del HSw6.out hvw6 hXw6 HCan.out (Kv HTl.out (by decide)) HEl.out
     rw [HVer.out] at hap9
     (with_reducible refine hap9.mono ?_)
     rintro e w9 ⟨rfl, hs9, hf9⟩
     have HY9 : Hid (∀ k, (sl ⟨v.kind, v.space, v.name, (R : Int), A9, v.n, c9⟩).ownBlock = some k → w.heap.size ≤ k ∧ k < w9.heap.size) := Hj fun k hk => ⟨HVo.out k hk, Nat.lt_of_lt_of_le (hvw6.data.lt k hk).2 hf9.size⟩
     have HFin := Hj (HSW.out.fin HB5.out HFw6.out hs9 hf9 HY9.out)
     have HR9 : Hid (w9.heap[BX]? = some (.cells #[.int .i64 (R : Int), .bool del, .int .i64 v.kind, .string v.space, .string v.name, .int .i64 (R : Int), .slice A9 v.n c9] 61 (0, 0))) := Hj ((hf9.block BX (Cz HRw6.out) fun hq => hq.elim (fun hq => absurd (HSW.out.hi BX hq) (Nat.not_lt.2 HBXw.out)) fun hq => absurd (Cz HR5.out) (Nat.not_lt.2 hq.1)).trans HRw6.out)
     have hr90 := Kq 0 HR9.out
     simp at hr90
     clear hs9 hf9 hap9 hvw6 hXw6))
    | fail)
   go_ret2
   first
    | (refine ⟨R, 0, M.app (del, o), L.app m bb, L.appM m bb, rfl, .inr ⟨HRev.out, .inl ?_⟩, HFin.out.1, HFin.out.2⟩; rw [← HBe.out]; exact ⟨HE1.out.symm, HVer.out.symm, rfl, rfl, rfl, rfl⟩)
    | (obtain ⟨r1, r2⟩ := HSW.out.behind HB5.out ⟨HSw6.out, HFw6.out⟩; refine ⟨0, E1, M, L.app m bb, L.appM m bb, by rw [HD1.out]; rfl, .inr ⟨HRev.out, .inr (.inl ?_)⟩, r1, r2⟩; rw [← HBe.out, ← HE1.out]; exact ⟨HN1.out, HN26.out, rfl, rfl, rfl, rfl, rfl⟩)
    | (obtain ⟨r1, r2⟩ := HSW.out.behind HB5.out ⟨HSw7.out, HFw7.out⟩; refine ⟨0, E2, M, L.cp m tt, L.cpM m tt, by rw [HD2.out]; rfl, .inr ⟨HRev.out, .inr (.inr ⟨by rw [← HBe.out]; exact HE1.out.symm, .inl ?_⟩)⟩, r1, r2⟩; rw [← HTe.out, ← HE2.out]; exact ⟨HN2.out, rfl, rfl, rfl, rfl, rfl⟩)
    | (refine ⟨R, 0, M.fresh.app (del, o), L1.app m1 bb, L1.appM m1 bb, rfl, .inr ⟨HRev.out, .inr (.inr ⟨by rw [← HBe.out]; exact HE1.out.symm, .inr ⟨by rw [← HTe.out]; exact HE2.out.symm, L1, m1, by rw [← HTe.out]; exact HL1.out, by rw [← HTe.out]; exact HM1.out, .inl ?_⟩⟩)⟩, HFin.out.1, HFin.out.2⟩; rw [← HBe.out]; exact ⟨HE3.out.symm, HVer.out.symm, rfl, rfl, rfl, rfl⟩)
    | (obtain ⟨r1, r2⟩ := HSW.out.behind HB5.out ⟨HSw8.out, HFw8.out⟩; refine ⟨0, E3, M.fresh, L1.app m1 bb, L1.appM m1 bb, by rw [HD3.out]; rfl, .inr ⟨HRev.out, .inr (.inr ⟨by rw [← HBe.out]; exact HE1.out.symm, .inr ⟨by rw [← HTe.out]; exact HE2.out.symm, L1, m1, by rw [← HTe.out]; exact HL1.out, by rw [← HTe.out]; exact HM1.out, .inr ?_⟩⟩)⟩, r1, r2⟩; rw [← HBe.out, ← HE3.out]; exact ⟨HN3.out, rfl, rfl, rfl, rfl, rfl⟩)
end
end Go.Proofs.YtfmagnpmjlppiaaGreatDoor
