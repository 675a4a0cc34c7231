/- Layer 20 (store): current, Update. -/
import Derived.Test.YtfmagnpmjlppiaaGreatDoorChg
import Derived.Test.YtfmagnpmjlppiaaGreatDoorGet
import Derived.Test.YtfmagnpmjlppiaaGreatDoorCnt
namespace Go.Proofs.YtfmagnpmjlppiaaGreatDoor
open Go.RowKit SO
/-- What an object's version is asked. -/
def curE (M : StM) (v : OV) : Nat := match getM M v.kind v.space v.name with
 | none => 18
 | some o => if (o.ver : Int) = v.ver then 0 else 20
section
variable {w w0 : World} {Q : Nat → Prop} {g gs : Nat} {m : DM} {L : LM} {M : StM} {ea : Nat → Addr}
set_option maxHeartbeats 1000000 in
theorem current_none (v : OV) (h : SW w0 w Q g m gs L M) (he : Errs w0 ea) (hk : v.kind ≤ 9223372036854775807) (hs : v.space.size ≤ 1000) (hn : v.name.size ≤ 1000) (hg : getM M v.kind v.space v.name = none) :
  Calls Tryz.prog 44 #[.pointer (some ⟨gs, 0, none⟩), .agg #[.int .i64 v.kind, .string v.space, .string v.name, .int .i64 v.ver, .slice v.A v.n v.c]] w fun e w' => e = .returned (dErr ea 18) ∧ Below w.heap.size w w' := by
 obtain ⟨w1, hw1, B, hB, hb1, hr1⟩ := box_obj w v
 have HBox := Hj (VB.all hr1)
 have HErr := Hj (h.errs1 he hb1)
 have HSt := Hj (h.st1 hb1)
 have HSW := Hj h
 have HB1 := Hj hb1
 have HW1 := Hj hw1
 have HBE := Hj hB
 obtain ⟨vb0, vb1, vb2, vb3, vb4⟩ := HBox.out w1 (Below.refl _ _)
 have HGet : Hid (Calls Tryz.prog 11 #[.pointer (some ⟨gs, 0, none⟩), .int .i64 v.kind, .string v.space, .string v.name] w1 fun e w' => ∃ x : OV, e = .returned (.tuple #[.agg #[.int .i64 x.kind, .string x.space, .string x.name, .int .i64 x.ver, .slice x.A x.n x.c], .bool false]) ∧ True ∧ Below w1.heap.size w1 w') := Hj ((Get_st v.kind v.space v.name (h.below hb1) hk hs hn).mono fun e w' => by
  rw [hg]
  rintro ⟨x, rfl, hx, hb⟩
  exact ⟨x, rfl, trivial, hb⟩)
 clear h he hk hs hn hg hb1 hr1 hw1 hB
 go_enter Tryz.func44, Tryz.ntmps44
 go_wp2_with (go_at_call 11; go_loud (rw [← HW1.out]; (with_reducible refine HGet.out.mono ?_); rintro e w2 ⟨x, rfl, hx, hb2⟩; have HB2 := Hj hb2; have hal : ∀ ob, Below w1.heap.size w1 (w2.alloc ob) := (fun ob => hb2.alloc hb2.size ob); have e18 : ∀ ob, (w2.alloc ob).cell? ⟨2, 0, none⟩ = some (.iface 338 (.pointer (some (ea 18)))) := (fun ob => (HErr.out _ (hal ob)).cell 18 (by decide) (by decide)); have e20 : ∀ ob, (w2.alloc ob).cell? ⟨22, 0, none⟩ = some (.iface 338 (.pointer (some (ea 20)))) := (fun ob => (HErr.out _ (hal ob)).cell 20 (by decide) (by decide)); have a3 : ∀ ob, (w2.alloc ob).cell? ⟨B, 3, none⟩ = some (.int .i64 v.ver) := (fun ob => (HBox.out _ (hal ob)).2.2.2.1); try rw [← HBE.out]; clear hx; clear hb2 hal))
 go_ret
 exact ⟨rfl, HB1.out.trans ((HB2.out.alloc HB2.out.size _).mono HB1.out.size)⟩

set_option maxHeartbeats 1000000 in
theorem current_stale (v : OV) (h : SW w0 w Q g m gs L M) (he : Errs w0 ea) (hk : v.kind ≤ 9223372036854775807) (hs : v.space.size ≤ 1000) (hn : v.name.size ≤ 1000) (o : ObM) (hg : getM M v.kind v.space v.name = some o) (hv : ¬ (o.ver : Int) = v.ver) :
  Calls Tryz.prog 44 #[.pointer (some ⟨gs, 0, none⟩), .agg #[.int .i64 v.kind, .string v.space, .string v.name, .int .i64 v.ver, .slice v.A v.n v.c]] w fun e w' => e = .returned (dErr ea 20) ∧ Below w.heap.size w w' := by
 obtain ⟨w1, hw1, B, hB, hb1, hr1⟩ := box_obj w v
 have HBox := Hj (VB.all hr1)
 have HErr := Hj (h.errs1 he hb1)
 have HSt := Hj (h.st1 hb1)
 have HSW := Hj h
 have HB1 := Hj hb1
 have HW1 := Hj hw1
 have HBE := Hj hB
 obtain ⟨vb0, vb1, vb2, vb3, vb4⟩ := HBox.out w1 (Below.refl _ _)
 have HGet : Hid (Calls Tryz.prog 11 #[.pointer (some ⟨gs, 0, none⟩), .int .i64 v.kind, .string v.space, .string v.name] w1 fun e w' => ∃ x : OV, e = .returned (.tuple #[.agg #[.int .i64 x.kind, .string x.space, .string x.name, .int .i64 x.ver, .slice x.A x.n x.c], .bool true]) ∧ x.ver = (o.ver : Int) ∧ Below w1.heap.size w1 w') := Hj ((Get_st v.kind v.space v.name (h.below hb1) hk hs hn).mono fun e w' => by
  rw [hg]
  rintro ⟨x, rfl, hx, hb⟩
  exact ⟨x, rfl, (hx o rfl).1.ver, hb⟩)
 have hv2 : ((o.ver : Int) != v.ver) = true := by simpa using hv
 clear h he hk hs hn hg hb1 hr1 hw1 hB hv
 go_enter Tryz.func44, Tryz.ntmps44
 go_wp2_with (go_at_call 11; go_loud (rw [← HW1.out]; (with_reducible refine HGet.out.mono ?_); rintro e w2 ⟨x, rfl, hx, hb2⟩; have HB2 := Hj hb2; have hal : ∀ ob, Below w1.heap.size w1 (w2.alloc ob) := (fun ob => hb2.alloc hb2.size ob); have e18 : ∀ ob, (w2.alloc ob).cell? ⟨2, 0, none⟩ = some (.iface 338 (.pointer (some (ea 18)))) := (fun ob => (HErr.out _ (hal ob)).cell 18 (by decide) (by decide)); have e20 : ∀ ob, (w2.alloc ob).cell? ⟨22, 0, none⟩ = some (.iface 338 (.pointer (some (ea 20)))) := (fun ob => (HErr.out _ (hal ob)).cell 20 (by decide) (by decide)); have a3 : ∀ ob, (w2.alloc ob).cell? ⟨B, 3, none⟩ = some (.int .i64 v.ver) := (fun ob => (HBox.out _ (hal ob)).2.2.2.1); try rw [← HBE.out]; clear hb2 hal))
 go_ret
 exact ⟨rfl, HB1.out.trans ((HB2.out.alloc HB2.out.size _).mono HB1.out.size)⟩

set_option maxHeartbeats 1000000 in
theorem current_ok (v : OV) (h : SW w0 w Q g m gs L M) (he : Errs w0 ea) (hk : v.kind ≤ 9223372036854775807) (hs : v.space.size ≤ 1000) (hn : v.name.size ≤ 1000) (o : ObM) (hg : getM M v.kind v.space v.name = some o) (hv : (o.ver : Int) = v.ver) :
  Calls Tryz.prog 44 #[.pointer (some ⟨gs, 0, none⟩), .agg #[.int .i64 v.kind, .string v.space, .string v.name, .int .i64 v.ver, .slice v.A v.n v.c]] w fun e w' => e = .returned (dErr ea 0) ∧ Below w.heap.size w w' := by
 obtain ⟨w1, hw1, B, hB, hb1, hr1⟩ := box_obj w v
 have HBox := Hj (VB.all hr1)
 have HErr := Hj (h.errs1 he hb1)
 have HSt := Hj (h.st1 hb1)
 have HSW := Hj h
 have HB1 := Hj hb1
 have HW1 := Hj hw1
 have HBE := Hj hB
 obtain ⟨vb0, vb1, vb2, vb3, vb4⟩ := HBox.out w1 (Below.refl _ _)
 have HGet : Hid (Calls Tryz.prog 11 #[.pointer (some ⟨gs, 0, none⟩), .int .i64 v.kind, .string v.space, .string v.name] w1 fun e w' => ∃ x : OV, e = .returned (.tuple #[.agg #[.int .i64 x.kind, .string x.space, .string x.name, .int .i64 x.ver, .slice x.A x.n x.c], .bool true]) ∧ x.ver = (o.ver : Int) ∧ Below w1.heap.size w1 w') := Hj ((Get_st v.kind v.space v.name (h.below hb1) hk hs hn).mono fun e w' => by
  rw [hg]
  rintro ⟨x, rfl, hx, hb⟩
  exact ⟨x, rfl, (hx o rfl).1.ver, hb⟩)
 have hv2 : ((o.ver : Int) != v.ver) = false := by simpa using hv
 clear h he hk hs hn hg hb1 hr1 hw1 hB hv
 go_enter Tryz.func44, Tryz.ntmps44
 go_wp2_with (go_at_call 11; go_loud (rw [← HW1.out]; (with_reducible refine HGet.out.mono ?_); rintro e w2 ⟨x, rfl, hx, hb2⟩; have HB2 := Hj hb2; have hal : ∀ ob, Below w1.heap.size w1 (w2.alloc ob) := (fun ob => hb2.alloc hb2.size ob); have e18 : ∀ ob, (w2.alloc ob).cell? ⟨2, 0, none⟩ = some (.iface 338 (.pointer (some (ea 18)))) := (fun ob => (HErr.out _ (hal ob)).cell 18 (by decide) (by decide)); have e20 : ∀ ob, (w2.alloc ob).cell? ⟨22, 0, none⟩ = some (.iface 338 (.pointer (some (ea 20)))) := (fun ob => (HErr.out _ (hal ob)).cell 20 (by decide) (by decide)); have a3 : ∀ ob, (w2.alloc ob).cell? ⟨B, 3, none⟩ = some (.int .i64 v.ver) := (fun ob => (HBox.out _ (hal ob)).2.2.2.1); try rw [← HBE.out]; clear hb2 hal))
 go_ret
 exact ⟨rfl, HB1.out.trans ((HB2.out.alloc HB2.out.size _).mono HB1.out.size)⟩

theorem current_any (v : OV) (h : SW w0 w Q g m gs L M) (he : Errs w0 ea) (hk : v.kind ≤ 9223372036854775807) (hs : v.space.size ≤ 1000) (hn : v.name.size ≤ 1000) :
  Calls Tryz.prog 44 #[.pointer (some ⟨gs, 0, none⟩), .agg #[.int .i64 v.kind, .string v.space, .string v.name, .int .i64 v.ver, .slice v.A v.n v.c]] w fun e w' => e = .returned (dErr ea (curE M v)) ∧ Below w.heap.size w w' := by
 unfold curE
 cases hg : getM M v.kind v.space v.name with
 | none => exact current_none v h he hk hs hn hg
 | some o =>
  by_cases hv : (o.ver : Int) = v.ver
  ·simp only [if_pos hv]
   exact current_ok v h he hk hs hn o hg hv
  ·simp only [if_neg hv]
   exact current_stale v h he hk hs hn o hg hv
/-- The object that a call puts. -/
def newO (M : StM) (v : OV) (data : List UInt8) : ObM := ⟨v.kind.toNat, v.space, v.name, M.rev + 1, data⟩
theorem newO_can {v : OV} {data : List UInt8} (ha : askE v = 0) (hd : v.n = data.length) (hr : M.rev < 1099511627776) : M.Can (false, newO M v data) ∧ v.kind = ((newO M v data).kind : Int) := by
 unfold askE at ha
 split at ha
 ·rename_i hn
  split at ha
  ·cases ha
  ·obtain ⟨p1, p2, -⟩ := namB_parts hn
   have e : (v.kind.toNat : Int) = v.kind := Int.toNat_of_nonneg (by omega)
   refine ⟨⟨⟨by show namB (v.kind.toNat : Int) v.space v.name = true; rw [e]; exact hn, by show data.length ≤ 8192; omega⟩, rfl, by show M.rev + 1 ≤ _; omega, fun x => (by cases x)⟩, e.symm⟩
 ·cases ha
/-- What a call that puts answers, and what it leaves. -/
def Puts (M : StM) (L : LM) (m : DM) (p : Nat) (e : Bool × ObM) (n E : Nat) (M' : StM) (L' : LM) (m' : DM) : Prop :=
 (p ≠ 0 ∧ n = 0 ∧ E = p ∧ M' = M ∧ L' = L ∧ m' = m) ∨ (p = 0 ∧ Chg M L m e n E M' L' m')
def updE (M : StM) (v : OV) : Nat := if askE v = 0 then curE M v else askE v
set_option maxHeartbeats 1000000 in
theorem update_ask (v : OV) (data : List UInt8) (h : SW w0 w Q g m gs L M) (he : Errs w0 ea) (_hE : EW w0 ea) (_hok : m.Ok) (_hL : L.Ok) (_hw : m.waits.length ≤ 900) (_hrb : RB w v.A v.n data) (hk : v.kind ≤ 9223372036854775807) (hs : v.space.size ≤ 1000) (hn : v.name.size ≤ 1000) (_hr : M.rev < 1099511627776) (_hl : M.tab.length ≤ 90) (_hl2 : M.evs.length ≤ 100000) (hp : askE v ≠ 0) :
  Calls Tryz.prog 14 #[.pointer (some ⟨gs, 0, none⟩), .agg #[.int .i64 v.kind, .string v.space, .string v.name, .int .i64 v.ver, .slice v.A v.n v.c]] w fun en w' => ∃ n E M' L' m', en = .returned (.tuple #[.int .i64 ((n : Nat) : Int), dErr ea E]) ∧ Puts M L m (askE v) (false, newO M v data) n E M' L' m' ∧ SW w0 w' (ext Q w w') g m' gs L' M' ∧ Fr Q w w' := by
 obtain ⟨w1, hw1, B, hB, hb1, hr1⟩ := box_obj w v
 have HBox := Hj (VB.all hr1)
 have HErr := Hj (h.errs1 he hb1)
 have HSt := Hj (h.st1 hb1)
 have HSW := Hj h
 have HB1 := Hj hb1
 have HW1 := Hj hw1
 have HBE := Hj hB
 obtain ⟨vb0, vb1, vb2, vb3, vb4⟩ := HBox.out w1 (Below.refl _ _)
 have HAsk : Hid (Calls Tryz.prog 40 #[.agg #[.int .i64 v.kind, .string v.space, .string v.name, .int .i64 v.ver, .slice v.A v.n v.c]] w1 fun e w' => e = .returned (dErr ea (askE v)) ∧ Below w1.heap.size w1 w') := Hj (by rw [← errOf_d]; exact asked_any v w1 ea (HErr.out w1 (Below.refl _ _)))
 have HCur : Hid (∀ W, Below w1.heap.size w1 W → Calls Tryz.prog 44 #[.pointer (some ⟨gs, 0, none⟩), .agg #[.int .i64 v.kind, .string v.space, .string v.name, .int .i64 v.ver, .slice v.A v.n v.c]] W fun e w' => e = .returned (dErr ea (curE M v)) ∧ Below W.heap.size W w') := Hj fun W hW => current_any v (HSt.out W hW) he hk hs hn
 have HDE := Hj (dErr_form ea hp)
 have HNE := Hj hp
 rw [HDE.out] at HAsk
 clear h he _hE _hok _hL _hw _hrb hk hs hn _hr _hl _hl2 hb1 hr1 hw1 hB hp
 go_enter Tryz.func14, Tryz.ntmps14
 go_wp2_with (first
  | (go_at_call 40; go_loud (rw [← HW1.out, ← HBE.out]; (with_reducible refine HAsk.out.mono ?_); rintro e w2 ⟨rfl, hb2⟩; have HB2 := Hj hb2; obtain ⟨v20, v21, v22, v23, v24⟩ := HBox.out w2 hb2; clear hb2))
  | fail)
 go_ret2
 have HBF := Hj (HB1.out.trans (HB2.out.mono HB1.out.size))
 obtain ⟨r1, r2⟩ := HSW.out.made HBF.out
 exact ⟨0, _, M, L, m, by rw [HDE.out]; rfl, .inl ⟨HNE.out, rfl, rfl, rfl, rfl, rfl⟩, r1, r2⟩

set_option maxHeartbeats 1000000 in
theorem update_cur (v : OV) (data : List UInt8) (h : SW w0 w Q g m gs L M) (he : Errs w0 ea) (_hE : EW w0 ea) (_hok : m.Ok) (_hL : L.Ok) (_hw : m.waits.length ≤ 900) (_hrb : RB w v.A v.n data) (hk : v.kind ≤ 9223372036854775807) (hs : v.space.size ≤ 1000) (hn : v.name.size ≤ 1000) (_hr : M.rev < 1099511627776) (_hl : M.tab.length ≤ 90) (_hl2 : M.evs.length ≤ 100000) (ha : askE v = 0) (hp : curE M v ≠ 0) :
  Calls Tryz.prog 14 #[.pointer (some ⟨gs, 0, none⟩), .agg #[.int .i64 v.kind, .string v.space, .string v.name, .int .i64 v.ver, .slice v.A v.n v.c]] w fun en w' => ∃ n E M' L' m', en = .returned (.tuple #[.int .i64 ((n : Nat) : Int), dErr ea E]) ∧ Puts M L m (curE M v) (false, newO M v data) n E M' L' m' ∧ SW w0 w' (ext Q w w') g m' gs L' M' ∧ Fr Q w w' := by
 obtain ⟨w1, hw1, B, hB, hb1, hr1⟩ := box_obj w v
 have HBox := Hj (VB.all hr1)
 have HErr := Hj (h.errs1 he hb1)
 have HSt := Hj (h.st1 hb1)
 have HSW := Hj h
 have HB1 := Hj hb1
 have HW1 := Hj hw1
 have HBE := Hj hB
 obtain ⟨vb0, vb1, vb2, vb3, vb4⟩ := HBox.out w1 (Below.refl _ _)
 have HAsk : Hid (Calls Tryz.prog 40 #[.agg #[.int .i64 v.kind, .string v.space, .string v.name, .int .i64 v.ver, .slice v.A v.n v.c]] w1 fun e w' => e = .returned (dErr ea (askE v)) ∧ Below w1.heap.size w1 w') := Hj (by rw [← errOf_d]; exact asked_any v w1 ea (HErr.out w1 (Below.refl _ _)))
 have HCur : Hid (∀ W, Below w1.heap.size w1 W → Calls Tryz.prog 44 #[.pointer (some ⟨gs, 0, none⟩), .agg #[.int .i64 v.kind, .string v.space, .string v.name, .int .i64 v.ver, .slice v.A v.n v.c]] W fun e w' => e = .returned (dErr ea (curE M v)) ∧ Below W.heap.size W w') := Hj fun W hW => current_any v (HSt.out W hW) he hk hs hn
 rw [ha, dErr_zero] at HAsk
 have HDE := Hj (dErr_form ea hp)
 have HNE := Hj hp
 rw [HDE.out] at HCur
 clear h he _hE _hok _hL _hw _hrb hk hs hn _hr _hl _hl2 hb1 hr1 hw1 hB hp ha
 go_enter Tryz.func14, Tryz.ntmps14
 go_wp2_with (first
  | (go_at_call 40; go_loud (rw [← HW1.out, ← HBE.out]; (with_reducible refine HAsk.out.mono ?_); rintro e w2 ⟨rfl, hb2⟩; have HB2 := Hj hb2; obtain ⟨v20, v21, v22, v23, v24⟩ := HBox.out w2 hb2; clear hb2))
  | (go_at_call 44; go_loud ((with_reducible refine (HCur.out w2 HB2.out).mono ?_); rintro e w3 ⟨rfl, hb3⟩; have HB3 := Hj (HB2.out.trans (hb3.mono HB2.out.size)); obtain ⟨v30, v31, v32, v33, v34⟩ := HBox.out w3 HB3.out; clear hb3))
  | fail)
 go_ret2
 have HBF := Hj (HB1.out.trans (HB3.out.mono HB1.out.size))
 obtain ⟨r1, r2⟩ := HSW.out.made HBF.out
 exact ⟨0, _, M, L, m, by rw [HDE.out]; rfl, .inl ⟨HNE.out, rfl, rfl, rfl, rfl, rfl⟩, r1, r2⟩

set_option maxHeartbeats 1000000 in
theorem update_go (v : OV) (data : List UInt8) (h : SW w0 w Q g m gs L M) (he : Errs w0 ea) (hE : EW w0 ea) (hok : m.Ok) (hL : L.Ok) (hw : m.waits.length ≤ 900) (hrb : RB w v.A v.n data) (hk : v.kind ≤ 9223372036854775807) (hs : v.space.size ≤ 1000) (hn : v.name.size ≤ 1000) (hr : M.rev < 1099511627776) (hl : M.tab.length ≤ 90) (hl2 : M.evs.length ≤ 100000) (ha : askE v = 0) (hp : curE M v = 0) :
  Calls Tryz.prog 14 #[.pointer (some ⟨gs, 0, none⟩), .agg #[.int .i64 v.kind, .string v.space, .string v.name, .int .i64 v.ver, .slice v.A v.n v.c]] w fun en w' => ∃ n E M' L' m', en = .returned (.tuple #[.int .i64 ((n : Nat) : Int), dErr ea E]) ∧ Puts M L m (0) (false, newO M v data) n E M' L' m' ∧ SW w0 w' (ext Q w w') g m' gs L' M' ∧ Fr Q w w' := by
 obtain ⟨w1, hw1, B, hB, hb1, hr1⟩ := box_obj w v
 have HBox := Hj (VB.all hr1)
 have HErr := Hj (h.errs1 he hb1)
 have HSt := Hj (h.st1 hb1)
 have HSW := Hj h
 have HB1 := Hj hb1
 have HW1 := Hj hw1
 have HBE := Hj hB
 obtain ⟨vb0, vb1, vb2, vb3, vb4⟩ := HBox.out w1 (Below.refl _ _)
 have HAsk : Hid (Calls Tryz.prog 40 #[.agg #[.int .i64 v.kind, .string v.space, .string v.name, .int .i64 v.ver, .slice v.A v.n v.c]] w1 fun e w' => e = .returned (dErr ea (askE v)) ∧ Below w1.heap.size w1 w') := Hj (by rw [← errOf_d]; exact asked_any v w1 ea (HErr.out w1 (Below.refl _ _)))
 have HCur : Hid (∀ W, Below w1.heap.size w1 W → Calls Tryz.prog 44 #[.pointer (some ⟨gs, 0, none⟩), .agg #[.int .i64 v.kind, .string v.space, .string v.name, .int .i64 v.ver, .slice v.A v.n v.c]] W fun e w' => e = .returned (dErr ea (curE M v)) ∧ Below W.heap.size W w') := Hj fun W hW => current_any v (HSt.out W hW) he hk hs hn
 have hdl : data.length = v.n := hrb.1
 obtain ⟨hcan, hkk⟩ := newO_can ha hdl.symm hr
 have HChg : Hid (∀ W, Below w1.heap.size w1 W → Calls Tryz.prog 43 #[.pointer (some ⟨gs, 0, none⟩), .agg #[.int .i64 v.kind, .string v.space, .string v.name, .int .i64 v.ver, .slice v.A v.n v.c], .bool false] W fun en w' => ∃ n E M' L' m', en = .returned (.tuple #[.int .i64 ((n : Nat) : Int), dErr ea E]) ∧ Chg M L m (false, newO M v data) n E M' L' m' ∧ SW w0 w' (ext Q W w') g m' gs L' M' ∧ Fr Q W w') := Hj fun W hW => change_any v (newO M v data) false (HSt.out W hW) he hE hok hL hw ((hrb.keep (Kz hb1)).keep (Kz hW)) ⟨hkk, rfl, rfl⟩ hcan hr hl hl2
 rw [ha, dErr_zero] at HAsk
 rw [hp, dErr_zero] at HCur
 clear h he hE hok hL hw hrb hk hs hn hr hl hl2 hb1 hr1 hw1 hB hp ha hdl hcan hkk
 go_enter Tryz.func14, Tryz.ntmps14
 go_wp2_with (first
  | (go_at_call 40; go_loud (rw [← HW1.out, ← HBE.out]; (with_reducible refine HAsk.out.mono ?_); rintro e w2 ⟨rfl, hb2⟩; have HB2 := Hj hb2; obtain ⟨v20, v21, v22, v23, v24⟩ := HBox.out w2 hb2; clear hb2))
  | (go_at_call 44; go_loud ((with_reducible refine (HCur.out w2 HB2.out).mono ?_); rintro e w3 ⟨rfl, hb3⟩; have HB3 := Hj (HB2.out.trans (hb3.mono HB2.out.size)); obtain ⟨v30, v31, v32, v33, v34⟩ := HBox.out w3 HB3.out; clear hb3))
  | (go_at_call 43; go_loud ((with_reducible refine (HChg.out w3 HB3.out).mono ?_); rintro e w4 ⟨n, E, M', L', m', rfl, hch, hs4, hf4⟩; have HCh := Hj hch; have HS4 := Hj hs4; have HF4 := Hj hf4; clear hch hs4 hf4))
  | fail)
 go_ret2
 obtain ⟨r1, r2⟩ := HSW.out.behind (HB1.out.trans (HB3.out.mono HB1.out.size)) ⟨HS4.out, HF4.out⟩
 exact ⟨n, E, M', L', m', rfl, .inr ⟨rfl, HCh.out⟩, r1, r2⟩

theorem Update_any (v : OV) (data : List UInt8) (h : SW w0 w Q g m gs L M) (he : Errs w0 ea) (hE : EW w0 ea) (hok : m.Ok) (hL : L.Ok) (hw : m.waits.length ≤ 900) (hrb : RB w v.A v.n data) (hk : v.kind ≤ 9223372036854775807) (hs : v.space.size ≤ 1000) (hn : v.name.size ≤ 1000) (hr : M.rev < 1099511627776) (hl : M.tab.length ≤ 90) (hl2 : M.evs.length ≤ 100000) :
  Calls Tryz.prog 14 #[.pointer (some ⟨gs, 0, none⟩), .agg #[.int .i64 v.kind, .string v.space, .string v.name, .int .i64 v.ver, .slice v.A v.n v.c]] w fun en w' => ∃ n E M' L' m', en = .returned (.tuple #[.int .i64 ((n : Nat) : Int), dErr ea E]) ∧ Puts M L m (updE M v) (false, newO M v data) n E M' L' m' ∧ SW w0 w' (ext Q w w') g m' gs L' M' ∧ Fr Q w w' := by
 unfold updE
 by_cases ha : askE v = 0
 ·rw [if_pos ha]
  by_cases hp : curE M v = 0
  ·rw [hp]; exact update_go v data h he hE hok hL hw hrb hk hs hn hr hl hl2 ha hp
  ·exact update_cur v data h he hE hok hL hw hrb hk hs hn hr hl hl2 ha hp
 ·rw [if_neg ha]
  exact update_ask v data h he hE hok hL hw hrb hk hs hn hr hl hl2 ha
end
end Go.Proofs.YtfmagnpmjlppiaaGreatDoor

/- Layer 20 (store): Delete. -/
namespace Go.Proofs.YtfmagnpmjlppiaaGreatDoor
open Go.RowKit SO
section
variable {w w0 : World} {Q : Nat → Prop} {g gs : Nat} {m : DM} {L : LM} {M : StM} {ea : Nat → Addr}
/-- Is something in the namespace? -/
def usedM (M : StM) (v : OV) : Bool := decide (0 < cntM M 5 v.name) || decide (0 < cntM M 6 v.name)
def delE (M : StM) (v : OV) : Nat := if askE ⟨v.kind, v.space, v.name, v.ver, none, 0, 0⟩ = 0 then (if curE M v = 0 then (if v.kind = 1 ∧ usedM M v = true then 24 else 0) else curE M v) else askE ⟨v.kind, v.space, v.name, v.ver, none, 0, 0⟩
theorem newO_del {v : OV} (ha : askE ⟨v.kind, v.space, v.name, v.ver, none, 0, 0⟩ = 0) (hp : curE M v = 0) (hr : M.rev < 1099511627776) : M.Can (true, newO M v []) ∧ v.kind = ((newO M v []).kind : Int) := by
 obtain ⟨h1, h2⟩ := newO_can (M := M) (data := []) ha rfl hr
 refine ⟨⟨h1.ok, h1.ver, h1.most, fun _ => ⟨rfl, ?_⟩⟩, h2⟩
 have e : keyO (newO M v []) = keyB v.kind v.space v.name := by
  have h3 : v.kind = ((newO M v []).kind : Int) := h2
  unfold keyO
  rw [← h3]
  rfl
 show (look klt (keyO (newO M v [])) M.tab).isSome = true
 rw [e]
 unfold curE getM at hp
 cases hl : look klt (keyB v.kind v.space v.name) M.tab with
 | none => rw [hl] at hp; cases hp
 | some o => rfl
set_option maxHeartbeats 1000000 in
theorem delete_ask (v : OV) (h : SW w0 w Q g m gs L M) (he : Errs w0 ea) (_hE : EW w0 ea) (_hok : m.Ok) (_hL : L.Ok) (_hw : m.waits.length ≤ 900) (hk : v.kind ≤ 9223372036854775807) (hs : v.space.size ≤ 1000) (hn : v.name.size ≤ 1000) (_hr : M.rev < 1099511627776) (_hl : M.tab.length ≤ 90) (_hl2 : M.evs.length ≤ 100000) (hp : askE ⟨v.kind, v.space, v.name, v.ver, none, 0, 0⟩ ≠ 0) :
  Calls Tryz.prog 13 #[.pointer (some ⟨gs, 0, none⟩), .agg #[.int .i64 v.kind, .string v.space, .string v.name, .int .i64 v.ver, .slice v.A v.n v.c]] w fun en w' => ∃ n E M' L' m', en = .returned (.tuple #[.int .i64 ((n : Nat) : Int), dErr ea E]) ∧ Puts M L m (askE ⟨v.kind, v.space, v.name, v.ver, none, 0, 0⟩) (true, newO M v []) n E M' L' m' ∧ SW w0 w' (ext Q w w') g m' gs L' M' ∧ Fr Q w w' := by
 obtain ⟨w1, hw1⟩ : ∃ W, W = w.alloc (.cells #[.int .i64 v.kind, .string v.space, .string v.name, .int .i64 v.ver, .slice none 0 0] 26) := ⟨_, rfl⟩
 obtain ⟨B, hB⟩ : ∃ B, B = w.heap.size := ⟨_, rfl⟩
 have hb1 := (Below.refl w.heap.size w).alloc Kj (.cells #[.int .i64 v.kind, .string v.space, .string v.name, .int .i64 v.ver, .slice none 0 0] 26)
 have hr1 := heap_alloc_new w (.cells #[.int .i64 v.kind, .string v.space, .string v.name, .int .i64 v.ver, .slice none 0 0] 26)
 rw [← hw1] at hb1 hr1
 rw [← hB] at hr1
 have HBox : Hid (∀ W, Below w1.heap.size w1 W → VB W B ⟨v.kind, v.space, v.name, v.ver, none, 0, 0⟩) := Hj fun W hW => VB.of_row ((hW.block B (Cz hr1)).trans hr1)
 have HErr := Hj (h.errs1 he hb1)
 have HSt := Hj (h.st1 hb1)
 have HSW := Hj h
 have HB1 := Hj hb1
 have HW1 := Hj hw1
 have HBE := Hj hB
 obtain ⟨vb0, vb1, vb2, vb3, vb4⟩ := HBox.out w1 (Below.refl _ _)
 dsimp only at vb0 vb1 vb2 vb3 vb4
 have HAsk : Hid (Calls Tryz.prog 40 #[.agg #[.int .i64 v.kind, .string v.space, .string v.name, .int .i64 v.ver, .slice none 0 0]] w1 fun e w' => e = .returned (dErr ea (askE ⟨v.kind, v.space, v.name, v.ver, none, 0, 0⟩)) ∧ Below w1.heap.size w1 w') := Hj (by rw [← errOf_d]; exact asked_any ⟨v.kind, v.space, v.name, v.ver, none, 0, 0⟩ w1 ea (HErr.out w1 (Below.refl _ _)))
 have HCur : Hid (∀ W, Below w1.heap.size w1 W → Calls Tryz.prog 44 #[.pointer (some ⟨gs, 0, none⟩), .agg #[.int .i64 v.kind, .string v.space, .string v.name, .int .i64 v.ver, .slice none 0 0]] W fun e w' => e = .returned (dErr ea (curE M v)) ∧ Below W.heap.size W w') := Hj fun W hW => current_any ⟨v.kind, v.space, v.name, v.ver, none, 0, 0⟩ (HSt.out W hW) he hk hs hn
 have HDE := Hj (dErr_form ea hp)
 have HNE := Hj hp
 rw [HDE.out] at HAsk
 clear h he _hE _hok _hL _hw hk hs hn _hr _hl _hl2 hb1 hr1 hw1 hB hp
 go_enter Tryz.func13, Tryz.ntmps13
 go_wp2_with (first
  | (go_at_call 40; go_loud (rw [← HW1.out, ← HBE.out]; (with_reducible refine HAsk.out.mono ?_); rintro e w2 ⟨rfl, hb2⟩; have HB2 := Hj hb2; obtain ⟨v20, v21, v22, v23, v24⟩ := HBox.out w2 hb2; dsimp only at v20 v21 v22 v23 v24; clear hb2))
  | fail)
 go_ret2
 have HBF := Hj (HB1.out.trans (HB2.out.mono HB1.out.size))
 obtain ⟨r1, r2⟩ := HSW.out.made HBF.out
 exact ⟨0, _, M, L, m, by rw [HDE.out]; rfl, .inl ⟨HNE.out, rfl, rfl, rfl, rfl, rfl⟩, r1, r2⟩

set_option maxHeartbeats 1000000 in
theorem delete_cur (v : OV) (h : SW w0 w Q g m gs L M) (he : Errs w0 ea) (_hE : EW w0 ea) (_hok : m.Ok) (_hL : L.Ok) (_hw : m.waits.length ≤ 900) (hk : v.kind ≤ 9223372036854775807) (hs : v.space.size ≤ 1000) (hn : v.name.size ≤ 1000) (_hr : M.rev < 1099511627776) (_hl : M.tab.length ≤ 90) (_hl2 : M.evs.length ≤ 100000) (ha : askE ⟨v.kind, v.space, v.name, v.ver, none, 0, 0⟩ = 0) (hp : curE M v ≠ 0) :
  Calls Tryz.prog 13 #[.pointer (some ⟨gs, 0, none⟩), .agg #[.int .i64 v.kind, .string v.space, .string v.name, .int .i64 v.ver, .slice v.A v.n v.c]] w fun en w' => ∃ n E M' L' m', en = .returned (.tuple #[.int .i64 ((n : Nat) : Int), dErr ea E]) ∧ Puts M L m (curE M v) (true, newO M v []) n E M' L' m' ∧ SW w0 w' (ext Q w w') g m' gs L' M' ∧ Fr Q w w' := by
 obtain ⟨w1, hw1⟩ : ∃ W, W = w.alloc (.cells #[.int .i64 v.kind, .string v.space, .string v.name, .int .i64 v.ver, .slice none 0 0] 26) := ⟨_, rfl⟩
 obtain ⟨B, hB⟩ : ∃ B, B = w.heap.size := ⟨_, rfl⟩
 have hb1 := (Below.refl w.heap.size w).alloc Kj (.cells #[.int .i64 v.kind, .string v.space, .string v.name, .int .i64 v.ver, .slice none 0 0] 26)
 have hr1 := heap_alloc_new w (.cells #[.int .i64 v.kind, .string v.space, .string v.name, .int .i64 v.ver, .slice none 0 0] 26)
 rw [← hw1] at hb1 hr1
 rw [← hB] at hr1
 have HBox : Hid (∀ W, Below w1.heap.size w1 W → VB W B ⟨v.kind, v.space, v.name, v.ver, none, 0, 0⟩) := Hj fun W hW => VB.of_row ((hW.block B (Cz hr1)).trans hr1)
 have HErr := Hj (h.errs1 he hb1)
 have HSt := Hj (h.st1 hb1)
 have HSW := Hj h
 have HB1 := Hj hb1
 have HW1 := Hj hw1
 have HBE := Hj hB
 obtain ⟨vb0, vb1, vb2, vb3, vb4⟩ := HBox.out w1 (Below.refl _ _)
 dsimp only at vb0 vb1 vb2 vb3 vb4
 have HAsk : Hid (Calls Tryz.prog 40 #[.agg #[.int .i64 v.kind, .string v.space, .string v.name, .int .i64 v.ver, .slice none 0 0]] w1 fun e w' => e = .returned (dErr ea (askE ⟨v.kind, v.space, v.name, v.ver, none, 0, 0⟩)) ∧ Below w1.heap.size w1 w') := Hj (by rw [← errOf_d]; exact asked_any ⟨v.kind, v.space, v.name, v.ver, none, 0, 0⟩ w1 ea (HErr.out w1 (Below.refl _ _)))
 have HCur : Hid (∀ W, Below w1.heap.size w1 W → Calls Tryz.prog 44 #[.pointer (some ⟨gs, 0, none⟩), .agg #[.int .i64 v.kind, .string v.space, .string v.name, .int .i64 v.ver, .slice none 0 0]] W fun e w' => e = .returned (dErr ea (curE M v)) ∧ Below W.heap.size W w') := Hj fun W hW => current_any ⟨v.kind, v.space, v.name, v.ver, none, 0, 0⟩ (HSt.out W hW) he hk hs hn
 rw [ha, dErr_zero] at HAsk
 have HDE := Hj (dErr_form ea hp)
 have HNE := Hj hp
 rw [HDE.out] at HCur
 clear h he _hE _hok _hL _hw hk hs hn _hr _hl _hl2 hb1 hr1 hw1 hB hp ha
 go_enter Tryz.func13, Tryz.ntmps13
 go_wp2_with (first
  | (go_at_call 40; go_loud (rw [← HW1.out, ← HBE.out]; (with_reducible refine HAsk.out.mono ?_); rintro e w2 ⟨rfl, hb2⟩; have HB2 := Hj hb2; obtain ⟨v20, v21, v22, v23, v24⟩ := HBox.out w2 hb2; dsimp only at v20 v21 v22 v23 v24; clear hb2))
  | (go_at_call 44; go_loud ((with_reducible refine (HCur.out w2 HB2.out).mono ?_); rintro e w3 ⟨rfl, hb3⟩; have HB3 := Hj (HB2.out.trans (hb3.mono HB2.out.size)); obtain ⟨v30, v31, v32, v33, v34⟩ := HBox.out w3 HB3.out; dsimp only at v30 v31 v32 v33 v34; clear hb3))
  | fail)
 go_ret2
 have HBF := Hj (HB1.out.trans (HB3.out.mono HB1.out.size))
 obtain ⟨r1, r2⟩ := HSW.out.made HBF.out
 exact ⟨0, _, M, L, m, by rw [HDE.out]; rfl, .inl ⟨HNE.out, rfl, rfl, rfl, rfl, rfl⟩, r1, r2⟩

set_option maxHeartbeats 1000000 in
theorem delete_state (v : OV) (h : SW w0 w Q g m gs L M) (he : Errs w0 ea) (_hE : EW w0 ea) (_hok : m.Ok) (_hL : L.Ok) (_hw : m.waits.length ≤ 900) (hk : v.kind ≤ 9223372036854775807) (hs : v.space.size ≤ 1000) (hn : v.name.size ≤ 1000) (_hr : M.rev < 1099511627776) (hl : M.tab.length ≤ 90) (_hl2 : M.evs.length ≤ 100000) (ha : askE ⟨v.kind, v.space, v.name, v.ver, none, 0, 0⟩ = 0) (hp : curE M v = 0) (h1 : v.kind = 1) (hu : usedM M v = true) :
  Calls Tryz.prog 13 #[.pointer (some ⟨gs, 0, none⟩), .agg #[.int .i64 v.kind, .string v.space, .string v.name, .int .i64 v.ver, .slice v.A v.n v.c]] w fun en w' => ∃ n E M' L' m', en = .returned (.tuple #[.int .i64 ((n : Nat) : Int), dErr ea E]) ∧ Puts M L m (24) (true, newO M v []) n E M' L' m' ∧ SW w0 w' (ext Q w w') g m' gs L' M' ∧ Fr Q w w' := by
 obtain ⟨w1, hw1⟩ : ∃ W, W = w.alloc (.cells #[.int .i64 v.kind, .string v.space, .string v.name, .int .i64 v.ver, .slice none 0 0] 26) := ⟨_, rfl⟩
 obtain ⟨B, hB⟩ : ∃ B, B = w.heap.size := ⟨_, rfl⟩
 have hb1 := (Below.refl w.heap.size w).alloc Kj (.cells #[.int .i64 v.kind, .string v.space, .string v.name, .int .i64 v.ver, .slice none 0 0] 26)
 have hr1 := heap_alloc_new w (.cells #[.int .i64 v.kind, .string v.space, .string v.name, .int .i64 v.ver, .slice none 0 0] 26)
 rw [← hw1] at hb1 hr1
 rw [← hB] at hr1
 have HBox : Hid (∀ W, Below w1.heap.size w1 W → VB W B ⟨v.kind, v.space, v.name, v.ver, none, 0, 0⟩) := Hj fun W hW => VB.of_row ((hW.block B (Cz hr1)).trans hr1)
 have HErr := Hj (h.errs1 he hb1)
 have HSt := Hj (h.st1 hb1)
 have HSW := Hj h
 have HB1 := Hj hb1
 have HW1 := Hj hw1
 have HBE := Hj hB
 obtain ⟨vb0, vb1, vb2, vb3, vb4⟩ := HBox.out w1 (Below.refl _ _)
 dsimp only at vb0 vb1 vb2 vb3 vb4
 have HAsk : Hid (Calls Tryz.prog 40 #[.agg #[.int .i64 v.kind, .string v.space, .string v.name, .int .i64 v.ver, .slice none 0 0]] w1 fun e w' => e = .returned (dErr ea (askE ⟨v.kind, v.space, v.name, v.ver, none, 0, 0⟩)) ∧ Below w1.heap.size w1 w') := Hj (by rw [← errOf_d]; exact asked_any ⟨v.kind, v.space, v.name, v.ver, none, 0, 0⟩ w1 ea (HErr.out w1 (Below.refl _ _)))
 have HCur : Hid (∀ W, Below w1.heap.size w1 W → Calls Tryz.prog 44 #[.pointer (some ⟨gs, 0, none⟩), .agg #[.int .i64 v.kind, .string v.space, .string v.name, .int .i64 v.ver, .slice none 0 0]] W fun e w' => e = .returned (dErr ea (curE M v)) ∧ Below W.heap.size W w') := Hj fun W hW => current_any ⟨v.kind, v.space, v.name, v.ver, none, 0, 0⟩ (HSt.out W hW) he hk hs hn
 have HUse : Hid (∀ W, Below w1.heap.size w1 W → Calls Tryz.prog 45 #[.pointer (some ⟨gs, 0, none⟩), .string v.name] W fun e w' => e = .returned (.bool true) ∧ Below W.heap.size W w') := Hj fun W hW => by
  have h := used_any v.name (HSt.out W hW) hn (by omega)
  unfold usedM at hu
  rw [hu] at h
  exact h
 have hq1 : (v.kind == 1) = true := by rw [h1]; rfl
 rw [ha, dErr_zero] at HAsk
 rw [hp, dErr_zero] at HCur
 have HDE := Hj (dErr_form ea (by decide : (24 : Nat) ≠ 0))
 have HNE : Hid ((24 : Nat) ≠ 0) := Hj (by decide)
 clear h he _hE _hok _hL _hw hk hs hn _hr hl _hl2 hb1 hr1 hw1 hB hp ha h1 hu
 go_enter Tryz.func13, Tryz.ntmps13
 go_wp2_with (first
  | (go_at_call 40; go_loud (rw [← HW1.out, ← HBE.out]; (with_reducible refine HAsk.out.mono ?_); rintro e w2 ⟨rfl, hb2⟩; have HB2 := Hj hb2; obtain ⟨v20, v21, v22, v23, v24⟩ := HBox.out w2 hb2; dsimp only at v20 v21 v22 v23 v24; clear hb2))
  | (go_at_call 44; go_loud ((with_reducible refine (HCur.out w2 HB2.out).mono ?_); rintro e w3 ⟨rfl, hb3⟩; have HB3 := Hj (HB2.out.trans (hb3.mono HB2.out.size)); obtain ⟨v30, v31, v32, v33, v34⟩ := HBox.out w3 HB3.out; dsimp only at v30 v31 v32 v33 v34; clear hb3))
  | (go_at_call 45; go_loud ((with_reducible refine (HUse.out w3 HB3.out).mono ?_); rintro e w5 ⟨rfl, hb5⟩; have HB5 := Hj (HB3.out.trans (hb5.mono HB3.out.size)); obtain ⟨v50, v51, v52, v53, v54⟩ := HBox.out w5 HB5.out; dsimp only at v50 v51 v52 v53 v54; have e24 : w5.cell? ⟨5, 0, none⟩ = some (.iface 338 (.pointer (some (ea 24)))) := (HErr.out w5 HB5.out).cell 24 (by decide) (by decide); clear hb5))
  | fail)
 go_quiet (fail)
 go_wp2
 go_ret2
 have HBF := Hj (below_drewN (HB1.out.trans (HB5.out.mono HB1.out.size)) nq)
 obtain ⟨r1, r2⟩ := HSW.out.made HBF.out
 exact ⟨0, _, M, L, m, by rw [HDE.out]; rfl, .inl ⟨HNE.out, rfl, rfl, rfl, rfl, rfl⟩, r1, r2⟩

set_option maxHeartbeats 1000000 in
theorem delete_go (v : OV) (h : SW w0 w Q g m gs L M) (he : Errs w0 ea) (hE : EW w0 ea) (hok : m.Ok) (hL : L.Ok) (hw : m.waits.length ≤ 900) (hk : v.kind ≤ 9223372036854775807) (hs : v.space.size ≤ 1000) (hn : v.name.size ≤ 1000) (hr : M.rev < 1099511627776) (hl : M.tab.length ≤ 90) (hl2 : M.evs.length ≤ 100000) (ha : askE ⟨v.kind, v.space, v.name, v.ver, none, 0, 0⟩ = 0) (hp : curE M v = 0) (h1 : ¬ v.kind = 1) :
  Calls Tryz.prog 13 #[.pointer (some ⟨gs, 0, none⟩), .agg #[.int .i64 v.kind, .string v.space, .string v.name, .int .i64 v.ver, .slice v.A v.n v.c]] w fun en w' => ∃ n E M' L' m', en = .returned (.tuple #[.int .i64 ((n : Nat) : Int), dErr ea E]) ∧ Puts M L m (0) (true, newO M v []) n E M' L' m' ∧ SW w0 w' (ext Q w w') g m' gs L' M' ∧ Fr Q w w' := by
 obtain ⟨w1, hw1⟩ : ∃ W, W = w.alloc (.cells #[.int .i64 v.kind, .string v.space, .string v.name, .int .i64 v.ver, .slice none 0 0] 26) := ⟨_, rfl⟩
 obtain ⟨B, hB⟩ : ∃ B, B = w.heap.size := ⟨_, rfl⟩
 have hb1 := (Below.refl w.heap.size w).alloc Kj (.cells #[.int .i64 v.kind, .string v.space, .string v.name, .int .i64 v.ver, .slice none 0 0] 26)
 have hr1 := heap_alloc_new w (.cells #[.int .i64 v.kind, .string v.space, .string v.name, .int .i64 v.ver, .slice none 0 0] 26)
 rw [← hw1] at hb1 hr1
 rw [← hB] at hr1
 have HBox : Hid (∀ W, Below w1.heap.size w1 W → VB W B ⟨v.kind, v.space, v.name, v.ver, none, 0, 0⟩) := Hj fun W hW => VB.of_row ((hW.block B (Cz hr1)).trans hr1)
 have HErr := Hj (h.errs1 he hb1)
 have HSt := Hj (h.st1 hb1)
 have HSW := Hj h
 have HB1 := Hj hb1
 have HW1 := Hj hw1
 have HBE := Hj hB
 obtain ⟨vb0, vb1, vb2, vb3, vb4⟩ := HBox.out w1 (Below.refl _ _)
 dsimp only at vb0 vb1 vb2 vb3 vb4
 have HAsk : Hid (Calls Tryz.prog 40 #[.agg #[.int .i64 v.kind, .string v.space, .string v.name, .int .i64 v.ver, .slice none 0 0]] w1 fun e w' => e = .returned (dErr ea (askE ⟨v.kind, v.space, v.name, v.ver, none, 0, 0⟩)) ∧ Below w1.heap.size w1 w') := Hj (by rw [← errOf_d]; exact asked_any ⟨v.kind, v.space, v.name, v.ver, none, 0, 0⟩ w1 ea (HErr.out w1 (Below.refl _ _)))
 have HCur : Hid (∀ W, Below w1.heap.size w1 W → Calls Tryz.prog 44 #[.pointer (some ⟨gs, 0, none⟩), .agg #[.int .i64 v.kind, .string v.space, .string v.name, .int .i64 v.ver, .slice none 0 0]] W fun e w' => e = .returned (dErr ea (curE M v)) ∧ Below W.heap.size W w') := Hj fun W hW => current_any ⟨v.kind, v.space, v.name, v.ver, none, 0, 0⟩ (HSt.out W hW) he hk hs hn
 obtain ⟨hcan, hkk⟩ := newO_del ha hp hr
 have HChg : Hid (∀ W, Below w1.heap.size w1 W → Calls Tryz.prog 43 #[.pointer (some ⟨gs, 0, none⟩), .agg #[.int .i64 v.kind, .string v.space, .string v.name, .int .i64 v.ver, .slice none 0 0], .bool true] W fun en w' => ∃ n E M' L' m', en = .returned (.tuple #[.int .i64 ((n : Nat) : Int), dErr ea E]) ∧ Chg M L m (true, newO M v []) n E M' L' m' ∧ SW w0 w' (ext Q W w') g m' gs L' M' ∧ Fr Q W w') := Hj fun W hW => change_any ⟨v.kind, v.space, v.name, v.ver, none, 0, 0⟩ (newO M v []) true (HSt.out W hW) he hE hok hL hw (RB.nil _ _) ⟨hkk, rfl, rfl⟩ hcan hr hl hl2
 have hq1 : (v.kind == 1) = false := beq_eq_false_iff_ne.2 h1
 rw [ha, dErr_zero] at HAsk
 rw [hp, dErr_zero] at HCur
 clear h he hE hok hL hw hk hs hn hr hl hl2 hb1 hr1 hw1 hB hp ha hcan hkk h1
 go_enter Tryz.func13, Tryz.ntmps13
 go_wp2_with (first
  | (go_at_call 40; go_loud (rw [← HW1.out, ← HBE.out]; (with_reducible refine HAsk.out.mono ?_); rintro e w2 ⟨rfl, hb2⟩; have HB2 := Hj hb2; obtain ⟨v20, v21, v22, v23, v24⟩ := HBox.out w2 hb2; dsimp only at v20 v21 v22 v23 v24; clear hb2))
  | (go_at_call 44; go_loud ((with_reducible refine (HCur.out w2 HB2.out).mono ?_); rintro e w3 ⟨rfl, hb3⟩; have HB3 := Hj (HB2.out.trans (hb3.mono HB2.out.size)); obtain ⟨v30, v31, v32, v33, v34⟩ := HBox.out w3 HB3.out; dsimp only at v30 v31 v32 v33 v34; clear hb3))
  | (go_at_call 43; go_loud ((with_reducible refine (HChg.out w3 HB3.out).mono ?_); rintro e w4 ⟨n, E, M', L', m', rfl, hch, hs4, hf4⟩; have HCh := Hj hch; have HS4 := Hj hs4; have HF4 := Hj hf4; clear hch hs4 hf4))
  | fail)
 go_ret2
 obtain ⟨r1, r2⟩ := HSW.out.behind (HB1.out.trans (HB3.out.mono HB1.out.size)) ⟨HS4.out, HF4.out⟩
 exact ⟨n, E, M', L', m', rfl, .inr ⟨rfl, HCh.out⟩, r1, r2⟩

set_option maxHeartbeats 1000000 in
theorem delete_gone (v : OV) (h : SW w0 w Q g m gs L M) (he : Errs w0 ea) (hE : EW w0 ea) (hok : m.Ok) (hL : L.Ok) (hw : m.waits.length ≤ 900) (hk : v.kind ≤ 9223372036854775807) (hs : v.space.size ≤ 1000) (hn : v.name.size ≤ 1000) (hr : M.rev < 1099511627776) (hl : M.tab.length ≤ 90) (hl2 : M.evs.length ≤ 100000) (ha : askE ⟨v.kind, v.space, v.name, v.ver, none, 0, 0⟩ = 0) (hp : curE M v = 0) (h1 : v.kind = 1) (hu : usedM M v = false) :
  Calls Tryz.prog 13 #[.pointer (some ⟨gs, 0, none⟩), .agg #[.int .i64 v.kind, .string v.space, .string v.name, .int .i64 v.ver, .slice v.A v.n v.c]] w fun en w' => ∃ n E M' L' m', en = .returned (.tuple #[.int .i64 ((n : Nat) : Int), dErr ea E]) ∧ Puts M L m (0) (true, newO M v []) n E M' L' m' ∧ SW w0 w' (ext Q w w') g m' gs L' M' ∧ Fr Q w w' := by
 obtain ⟨w1, hw1⟩ : ∃ W, W = w.alloc (.cells #[.int .i64 v.kind, .string v.space, .string v.name, .int .i64 v.ver, .slice none 0 0] 26) := ⟨_, rfl⟩
 obtain ⟨B, hB⟩ : ∃ B, B = w.heap.size := ⟨_, rfl⟩
 have hb1 := (Below.refl w.heap.size w).alloc Kj (.cells #[.int .i64 v.kind, .string v.space, .string v.name, .int .i64 v.ver, .slice none 0 0] 26)
 have hr1 := heap_alloc_new w (.cells #[.int .i64 v.kind, .string v.space, .string v.name, .int .i64 v.ver, .slice none 0 0] 26)
 rw [← hw1] at hb1 hr1
 rw [← hB] at hr1
 have HBox : Hid (∀ W, Below w1.heap.size w1 W → VB W B ⟨v.kind, v.space, v.name, v.ver, none, 0, 0⟩) := Hj fun W hW => VB.of_row ((hW.block B (Cz hr1)).trans hr1)
 have HErr := Hj (h.errs1 he hb1)
 have HSt := Hj (h.st1 hb1)
 have HSW := Hj h
 have HB1 := Hj hb1
 have HW1 := Hj hw1
 have HBE := Hj hB
 obtain ⟨vb0, vb1, vb2, vb3, vb4⟩ := HBox.out w1 (Below.refl _ _)
 dsimp only at vb0 vb1 vb2 vb3 vb4
 have HAsk : Hid (Calls Tryz.prog 40 #[.agg #[.int .i64 v.kind, .string v.space, .string v.name, .int .i64 v.ver, .slice none 0 0]] w1 fun e w' => e = .returned (dErr ea (askE ⟨v.kind, v.space, v.name, v.ver, none, 0, 0⟩)) ∧ Below w1.heap.size w1 w') := Hj (by rw [← errOf_d]; exact asked_any ⟨v.kind, v.space, v.name, v.ver, none, 0, 0⟩ w1 ea (HErr.out w1 (Below.refl _ _)))
 have HCur : Hid (∀ W, Below w1.heap.size w1 W → Calls Tryz.prog 44 #[.pointer (some ⟨gs, 0, none⟩), .agg #[.int .i64 v.kind, .string v.space, .string v.name, .int .i64 v.ver, .slice none 0 0]] W fun e w' => e = .returned (dErr ea (curE M v)) ∧ Below W.heap.size W w') := Hj fun W hW => current_any ⟨v.kind, v.space, v.name, v.ver, none, 0, 0⟩ (HSt.out W hW) he hk hs hn
 obtain ⟨hcan, hkk⟩ := newO_del ha hp hr
 have HChg : Hid (∀ W, Below w1.heap.size w1 W → Calls Tryz.prog 43 #[.pointer (some ⟨gs, 0, none⟩), .agg #[.int .i64 v.kind, .string v.space, .string v.name, .int .i64 v.ver, .slice none 0 0], .bool true] W fun en w' => ∃ n E M' L' m', en = .returned (.tuple #[.int .i64 ((n : Nat) : Int), dErr ea E]) ∧ Chg M L m (true, newO M v []) n E M' L' m' ∧ SW w0 w' (ext Q W w') g m' gs L' M' ∧ Fr Q W w') := Hj fun W hW => change_any ⟨v.kind, v.space, v.name, v.ver, none, 0, 0⟩ (newO M v []) true (HSt.out W hW) he hE hok hL hw (RB.nil _ _) ⟨hkk, rfl, rfl⟩ hcan hr hl hl2
 have HUse : Hid (∀ W, Below w1.heap.size w1 W → Calls Tryz.prog 45 #[.pointer (some ⟨gs, 0, none⟩), .string v.name] W fun e w' => e = .returned (.bool false) ∧ Below W.heap.size W w') := Hj fun W hW => by
  have h := used_any v.name (HSt.out W hW) hn (by omega)
  unfold usedM at hu
  rw [hu] at h
  exact h
 have hq1 : (v.kind == 1) = true := by rw [h1]; rfl
 rw [ha, dErr_zero] at HAsk
 rw [hp, dErr_zero] at HCur
 clear h he hE hok hL hw hk hs hn hr hl hl2 hb1 hr1 hw1 hB hp ha hcan hkk h1 hu
 go_enter Tryz.func13, Tryz.ntmps13
 go_wp2_with (first
  | (go_at_call 40; go_loud (rw [← HW1.out, ← HBE.out]; (with_reducible refine HAsk.out.mono ?_); rintro e w2 ⟨rfl, hb2⟩; have HB2 := Hj hb2; obtain ⟨v20, v21, v22, v23, v24⟩ := HBox.out w2 hb2; dsimp only at v20 v21 v22 v23 v24; clear hb2))
  | (go_at_call 44; go_loud ((with_reducible refine (HCur.out w2 HB2.out).mono ?_); rintro e w3 ⟨rfl, hb3⟩; have HB3 := Hj (HB2.out.trans (hb3.mono HB2.out.size)); obtain ⟨v30, v31, v32, v33, v34⟩ := HBox.out w3 HB3.out; dsimp only at v30 v31 v32 v33 v34; clear hb3))
  | (go_at_call 45; go_loud ((with_reducible refine (HUse.out w3 HB3.out).mono ?_); rintro e w5 ⟨rfl, hb5⟩; have HB5 := Hj (HB3.out.trans (hb5.mono HB3.out.size)); obtain ⟨v50, v51, v52, v53, v54⟩ := HBox.out w5 HB5.out; dsimp only at v50 v51 v52 v53 v54; have e24 : w5.cell? ⟨5, 0, none⟩ = some (.iface 338 (.pointer (some (ea 24)))) := (HErr.out w5 HB5.out).cell 24 (by decide) (by decide); clear hb5))
  | (go_at_call 43; go_loud ((with_reducible refine (HChg.out w5 HB5.out).mono ?_); rintro e w4 ⟨n, E, M', L', m', rfl, hch, hs4, hf4⟩; have HCh := Hj hch; have HS4 := Hj hs4; have HF4 := Hj hf4; clear hch hs4 hf4))
  | fail)
 go_ret2
 obtain ⟨r1, r2⟩ := HSW.out.behind (HB1.out.trans (HB5.out.mono HB1.out.size)) ⟨HS4.out, HF4.out⟩
 exact ⟨n, E, M', L', m', rfl, .inr ⟨rfl, HCh.out⟩, r1, r2⟩

theorem Delete_any (v : OV) (h : SW w0 w Q g m gs L M) (he : Errs w0 ea) (hE : EW w0 ea) (hok : m.Ok) (hL : L.Ok) (hw : m.waits.length ≤ 900) (hk : v.kind ≤ 9223372036854775807) (hs : v.space.size ≤ 1000) (hn : v.name.size ≤ 1000) (hr : M.rev < 1099511627776) (hl : M.tab.length ≤ 90) (hl2 : M.evs.length ≤ 100000) :
  Calls Tryz.prog 13 #[.pointer (some ⟨gs, 0, none⟩), .agg #[.int .i64 v.kind, .string v.space, .string v.name, .int .i64 v.ver, .slice v.A v.n v.c]] w fun en w' => ∃ n E M' L' m', en = .returned (.tuple #[.int .i64 ((n : Nat) : Int), dErr ea E]) ∧ Puts M L m (delE M v) (true, newO M v []) n E M' L' m' ∧ SW w0 w' (ext Q w w') g m' gs L' M' ∧ Fr Q w w' := by
 unfold delE
 by_cases ha : askE ⟨v.kind, v.space, v.name, v.ver, none, 0, 0⟩ = 0
 ·rw [if_pos ha]
  by_cases hp : curE M v = 0
  ·rw [if_pos hp]
   by_cases h1 : v.kind = 1
   ·cases hu : usedM M v with
    | true => rw [if_pos ⟨h1, rfl⟩]; exact delete_state v h he hE hok hL hw hk hs hn hr hl hl2 ha hp h1 hu
    | false => rw [if_neg (fun x => by cases x.2)]; exact delete_gone v h he hE hok hL hw hk hs hn hr hl hl2 ha hp h1 hu
   ·rw [if_neg (fun x => h1 x.1)]; exact delete_go v h he hE hok hL hw hk hs hn hr hl hl2 ha hp h1
  ·rw [if_neg hp]; exact delete_cur v h he hE hok hL hw hk hs hn hr hl hl2 ha hp
 ·rw [if_neg ha]; exact delete_ask v h he hE hok hL hw hk hs hn hr hl hl2 ha
end
end Go.Proofs.YtfmagnpmjlppiaaGreatDoor

/- Layer 20 (store): Create. -/
namespace Go.Proofs.YtfmagnpmjlppiaaGreatDoor
open Go.RowKit SO
def creE (M : StM) (v : OV) : Nat :=
 if askE v = 0 then (if inSp v.kind = true ∧ (getM M 1 ⟨#[]⟩ v.space).isSome = false then 18 else if (getM M v.kind v.space v.name).isSome = true then 19 else if (if v.kind = 1 then 8 else 32) ≤ cntM M v.kind v.space then 21 else 0) else askE v
section
variable {w w0 : World} {Q : Nat → Prop} {g gs : Nat} {m : DM} {L : LM} {M : StM} {ea : Nat → Addr}
set_option maxHeartbeats 4000000 in
theorem create_ask (v : OV) (data : List UInt8) (h : SW w0 w Q g m gs L M) (he : Errs w0 ea) (_hE : EW w0 ea) (_hok : m.Ok) (_hL : L.Ok) (_hw : m.waits.length ≤ 900) (_hrb : RB w v.A v.n data) (_hk : v.kind ≤ 9223372036854775807) (_hs : v.space.size ≤ 1000) (_hn : v.name.size ≤ 1000) (_hr : M.rev < 1099511627776) (_hl : M.tab.length ≤ 90) (_hl2 : M.evs.length ≤ 100000) (hp : askE v ≠ 0) :
  Calls Tryz.prog 12 #[.pointer (some ⟨gs, 0, none⟩), .agg #[.int .i64 v.kind, .string v.space, .string v.name, .int .i64 v.ver, .slice v.A v.n v.c]] w fun en w' => ∃ n E M' L' m', en = .returned (.tuple #[.int .i64 ((n : Nat) : Int), dErr ea E]) ∧ Puts M L m (askE v) (false, newO M v data) n E M' L' m' ∧ SW w0 w' (ext Q w w') g m' gs L' M' ∧ Fr Q w w' := by
 obtain ⟨w1, hw1, B, hB, hb1, hr1⟩ := box_obj w v
 have HBox := Hj (VB.all hr1)
 have HErr := Hj (h.errs1 he hb1)
 have HSt := Hj (h.st1 hb1)
 have HSW := Hj h
 have HB1 := Hj hb1
 have HW1 := Hj hw1
 have HBE := Hj hB
 obtain ⟨vb0, vb1, vb2, vb3, vb4⟩ := HBox.out w1 (Below.refl _ _)
 have HAsk : Hid (Calls Tryz.prog 40 #[.agg #[.int .i64 v.kind, .string v.space, .string v.name, .int .i64 v.ver, .slice v.A v.n v.c]] w1 fun e w' => e = .returned (dErr ea (askE v)) ∧ Below w1.heap.size w1 w') := Hj (by rw [← errOf_d]; exact asked_any v w1 ea (HErr.out w1 (Below.refl _ _)))
 have HDE := Hj (dErr_form ea hp)
 have HNE := Hj hp
 rw [HDE.out] at HAsk
 clear h he _hE _hok _hL _hw _hrb _hk _hs _hn _hr _hl _hl2 hb1 hr1 hw1 hB hp
 go_enter Tryz.func12, Tryz.ntmps12
 go_wp2_with (first
  | (go_at_call 40; go_loud (rw [← HW1.out, ← HBE.out]; (with_reducible refine HAsk.out.mono ?_); rintro e w2 ⟨rfl, hb2⟩; have HB2 := Hj hb2; obtain ⟨v20, v21, v22, v23, v24⟩ := HBox.out w2 hb2; clear hb2))
  | fail)
 go_ret2
 have HBF := Hj (HB1.out.trans (HB2.out.mono HB1.out.size))
 obtain ⟨r1, r2⟩ := HSW.out.made HBF.out
 exact ⟨0, _, M, L, m, by rw [HDE.out]; rfl, .inl ⟨HNE.out, rfl, rfl, rfl, rfl, rfl⟩, r1, r2⟩

set_option maxHeartbeats 4000000 in
theorem create_none (v : OV) (data : List UInt8) (h : SW w0 w Q g m gs L M) (he : Errs w0 ea) (_hE : EW w0 ea) (_hok : m.Ok) (_hL : L.Ok) (_hw : m.waits.length ≤ 900) (_hrb : RB w v.A v.n data) (hk : v.kind ≤ 9223372036854775807) (hs : v.space.size ≤ 1000) (hn : v.name.size ≤ 1000) (_hr : M.rev < 1099511627776) (_hl : M.tab.length ≤ 90) (_hl2 : M.evs.length ≤ 100000) (ha : askE v = 0) (hi : inSp v.kind = true) (hg : (getM M 1 ⟨#[]⟩ v.space).isSome = false) :
  Calls Tryz.prog 12 #[.pointer (some ⟨gs, 0, none⟩), .agg #[.int .i64 v.kind, .string v.space, .string v.name, .int .i64 v.ver, .slice v.A v.n v.c]] w fun en w' => ∃ n E M' L' m', en = .returned (.tuple #[.int .i64 ((n : Nat) : Int), dErr ea E]) ∧ Puts M L m (18) (false, newO M v data) n E M' L' m' ∧ SW w0 w' (ext Q w w') g m' gs L' M' ∧ Fr Q w w' := by
 obtain ⟨w1, hw1, B, hB, hb1, hr1⟩ := box_obj w v
 have HBox := Hj (VB.all hr1)
 have HErr := Hj (h.errs1 he hb1)
 have HSt := Hj (h.st1 hb1)
 have HSW := Hj h
 have HB1 := Hj hb1
 have HW1 := Hj hw1
 have HBE := Hj hB
 obtain ⟨vb0, vb1, vb2, vb3, vb4⟩ := HBox.out w1 (Below.refl _ _)
 have HAsk : Hid (Calls Tryz.prog 40 #[.agg #[.int .i64 v.kind, .string v.space, .string v.name, .int .i64 v.ver, .slice v.A v.n v.c]] w1 fun e w' => e = .returned (dErr ea (askE v)) ∧ Below w1.heap.size w1 w') := Hj (by rw [← errOf_d]; exact asked_any v w1 ea (HErr.out w1 (Below.refl _ _)))
 rw [ha, dErr_zero] at HAsk
 have HG1 : Hid (∀ W, Below w1.heap.size w1 W → Calls Tryz.prog 11 #[.pointer (some ⟨gs, 0, none⟩), .int .i64 1, .string ⟨#[]⟩, .string v.space] W fun e w' => ∃ x : OV, e = .returned (.tuple #[.agg #[.int .i64 x.kind, .string x.space, .string x.name, .int .i64 x.ver, .slice x.A x.n x.c], .bool false]) ∧ Below W.heap.size W w') := Hj fun W hW => (Get_st 1 ⟨#[]⟩ v.space (HSt.out W hW) (by decide) (by decide) hs).mono fun e w' => by
  rintro ⟨x, rfl, -, hb⟩
  exact ⟨x, by rw [hg], hb⟩
 have HG2 : Hid (∀ W, Below w1.heap.size w1 W → Calls Tryz.prog 11 #[.pointer (some ⟨gs, 0, none⟩), .int .i64 v.kind, .string v.space, .string v.name] W fun e w' => ∃ x : OV, e = .returned (.tuple #[.agg #[.int .i64 x.kind, .string x.space, .string x.name, .int .i64 x.ver, .slice x.A x.n x.c], .bool (getM M v.kind v.space v.name).isSome]) ∧ Below W.heap.size W w') := Hj fun W hW => (Get_st v.kind v.space v.name (HSt.out W hW) hk hs hn).mono fun e w' => by
  rintro ⟨x, rfl, -, hb⟩
  exact ⟨x, rfl, hb⟩
 have HIn : Hid (∀ W, Calls Tryz.prog 41 #[.int .i64 v.kind] W fun e w' => e = .returned (.bool true) ∧ W = w') := Hj fun W => by
  have h := inSp_any v.kind W
  rw [hi] at h
  exact h
 have HDE := Hj (dErr_form ea (by decide : (18 : Nat) ≠ 0))
 have HNE : Hid ((18 : Nat) ≠ 0) := Hj (by decide)
 clear h he _hE _hok _hL _hw _hrb hk hs hn _hr _hl _hl2 hb1 hr1 hw1 hB ha hi hg
 go_enter Tryz.func12, Tryz.ntmps12
 go_wp2_with (first
  | (go_at_call 40; go_loud (rw [← HW1.out, ← HBE.out]; (with_reducible refine HAsk.out.mono ?_); rintro e w2 ⟨rfl, hb2⟩; have HB2 := Hj hb2; obtain ⟨v20, v21, v22, v23, v24⟩ := HBox.out w2 hb2; clear hb2))
  | (go_at_call 11; go_loud ((with_reducible refine (HG1.out w2 HB2.out).mono ?_); rintro e w3 ⟨x1, rfl, hb3⟩; have HB3 := Hj (HB2.out.trans (hb3.mono HB2.out.size)); have hal3 : ∀ ob, Below w1.heap.size w1 (w3.alloc ob) := (fun ob => HB3.out.alloc HB3.out.size ob); have b30 : ∀ ob, (w3.alloc ob).cell? ⟨B, 0, none⟩ = some (.int .i64 v.kind) := (fun ob => (HBox.out _ (hal3 ob)).1); have b31 : ∀ ob, (w3.alloc ob).cell? ⟨B, 1, none⟩ = some (.string v.space) := (fun ob => (HBox.out _ (hal3 ob)).2.1); have b32 : ∀ ob, (w3.alloc ob).cell? ⟨B, 2, none⟩ = some (.string v.name) := (fun ob => (HBox.out _ (hal3 ob)).2.2.1); have HAl3 := Hj hal3; clear hal3; clear hb3))
  | (go_at_call 11; go_loud ((with_reducible refine (HG2.out _ (HAl3.out _)).mono ?_); rintro e w4 ⟨x2, rfl, hb4⟩; have HB4 := Hj ((HAl3.out _).trans (hb4.mono (HAl3.out _).size)); have hal4 : ∀ ob, Below w1.heap.size w1 (w4.alloc ob) := (fun ob => HB4.out.alloc HB4.out.size ob); have b40 : ∀ ob, (w4.alloc ob).cell? ⟨B, 0, none⟩ = some (.int .i64 v.kind) := (fun ob => (HBox.out _ (hal4 ob)).1); have b41 : ∀ ob, (w4.alloc ob).cell? ⟨B, 1, none⟩ = some (.string v.space) := (fun ob => (HBox.out _ (hal4 ob)).2.1); have b42 : ∀ ob, (w4.alloc ob).cell? ⟨B, 2, none⟩ = some (.string v.name) := (fun ob => (HBox.out _ (hal4 ob)).2.2.1); have HAl4 := Hj hal4; clear hal4; clear hb4 b30 b31 b32))
  | (go_at_call 41; go_loud (obtain ⟨wb, hwb⟩ : ∃ W, W = w4.alloc (.cells #[.int .i64 x2.kind, .string x2.space, .string x2.name, .int .i64 x2.ver, .slice x2.A x2.n x2.c] 26) := ⟨_, rfl⟩; rw [← hwb]; (with_reducible refine (HIn.out wb).mono ?_); rintro e w' ⟨rfl, rfl⟩; have HBb : Hid (Below w1.heap.size w1 wb) := Hj (by rw [hwb]; exact HAl4.out _); obtain ⟨vw0, vw1, vw2, vw3, vw4⟩ := HBox.out wb HBb.out; have e18 : wb.cell? ⟨2, 0, none⟩ = some (.iface 338 (.pointer (some (ea 18)))) := (HErr.out wb HBb.out).cell 18 (by decide) (by decide); have e19 : wb.cell? ⟨3, 0, none⟩ = some (.iface 338 (.pointer (some (ea 19)))) := (HErr.out wb HBb.out).cell 19 (by decide) (by decide); clear hwb b40 b41 b42))
  | fail)
 go_quiet (fail)
 go_wp2
 go_ret2
 have HBF := Hj (below_drewN (HB1.out.trans (HBb.out.mono HB1.out.size)) nq)
 obtain ⟨r1, r2⟩ := HSW.out.made HBF.out
 exact ⟨0, _, M, L, m, by rw [HDE.out]; rfl, .inl ⟨HNE.out, rfl, rfl, rfl, rfl, rfl⟩, r1, r2⟩

set_option maxHeartbeats 4000000 in
theorem create_there (v : OV) (data : List UInt8) (h : SW w0 w Q g m gs L M) (he : Errs w0 ea) (_hE : EW w0 ea) (_hok : m.Ok) (_hL : L.Ok) (_hw : m.waits.length ≤ 900) (_hrb : RB w v.A v.n data) (hk : v.kind ≤ 9223372036854775807) (hs : v.space.size ≤ 1000) (hn : v.name.size ≤ 1000) (_hr : M.rev < 1099511627776) (_hl : M.tab.length ≤ 90) (_hl2 : M.evs.length ≤ 100000) (ha : askE v = 0) (hio : (inSp v.kind = true ∧ (getM M 1 ⟨#[]⟩ v.space).isSome = true) ∨ inSp v.kind = false) (ht : (getM M v.kind v.space v.name).isSome = true) :
  Calls Tryz.prog 12 #[.pointer (some ⟨gs, 0, none⟩), .agg #[.int .i64 v.kind, .string v.space, .string v.name, .int .i64 v.ver, .slice v.A v.n v.c]] w fun en w' => ∃ n E M' L' m', en = .returned (.tuple #[.int .i64 ((n : Nat) : Int), dErr ea E]) ∧ Puts M L m (19) (false, newO M v data) n E M' L' m' ∧ SW w0 w' (ext Q w w') g m' gs L' M' ∧ Fr Q w w' := by
 obtain ⟨w1, hw1, B, hB, hb1, hr1⟩ := box_obj w v
 have HBox := Hj (VB.all hr1)
 have HErr := Hj (h.errs1 he hb1)
 have HSt := Hj (h.st1 hb1)
 have HSW := Hj h
 have HB1 := Hj hb1
 have HW1 := Hj hw1
 have HBE := Hj hB
 obtain ⟨vb0, vb1, vb2, vb3, vb4⟩ := HBox.out w1 (Below.refl _ _)
 have HAsk : Hid (Calls Tryz.prog 40 #[.agg #[.int .i64 v.kind, .string v.space, .string v.name, .int .i64 v.ver, .slice v.A v.n v.c]] w1 fun e w' => e = .returned (dErr ea (askE v)) ∧ Below w1.heap.size w1 w') := Hj (by rw [← errOf_d]; exact asked_any v w1 ea (HErr.out w1 (Below.refl _ _)))
 rw [ha, dErr_zero] at HAsk
 obtain ⟨bi, hbi⟩ : ∃ b, b = inSp v.kind := ⟨_, rfl⟩
 obtain ⟨bs, hbs⟩ : ∃ b, b = (getM M 1 ⟨#[]⟩ v.space).isSome := ⟨_, rfl⟩
 rw [← hbi, ← hbs] at hio
 have HG1 : Hid (∀ W, Below w1.heap.size w1 W → Calls Tryz.prog 11 #[.pointer (some ⟨gs, 0, none⟩), .int .i64 1, .string ⟨#[]⟩, .string v.space] W fun e w' => ∃ x : OV, e = .returned (.tuple #[.agg #[.int .i64 x.kind, .string x.space, .string x.name, .int .i64 x.ver, .slice x.A x.n x.c], .bool bs]) ∧ Below W.heap.size W w') := Hj fun W hW => (Get_st 1 ⟨#[]⟩ v.space (HSt.out W hW) (by decide) (by decide) hs).mono fun e w' => by
  rintro ⟨x, rfl, -, hb⟩
  exact ⟨x, by rw [hbs], hb⟩
 have HG2 : Hid (∀ W, Below w1.heap.size w1 W → Calls Tryz.prog 11 #[.pointer (some ⟨gs, 0, none⟩), .int .i64 v.kind, .string v.space, .string v.name] W fun e w' => ∃ x : OV, e = .returned (.tuple #[.agg #[.int .i64 x.kind, .string x.space, .string x.name, .int .i64 x.ver, .slice x.A x.n x.c], .bool true]) ∧ Below W.heap.size W w') := Hj fun W hW => (Get_st v.kind v.space v.name (HSt.out W hW) hk hs hn).mono fun e w' => by
  rintro ⟨x, rfl, -, hb⟩
  exact ⟨x, by rw [ht], hb⟩
 have HIn : Hid (∀ W, Calls Tryz.prog 41 #[.int .i64 v.kind] W fun e w' => e = .returned (.bool bi) ∧ W = w') := Hj fun W => by
  have h := inSp_any v.kind W
  rw [← hbi] at h
  exact h
 have HDE := Hj (dErr_form ea (by decide : (19 : Nat) ≠ 0))
 have HNE : Hid ((19 : Nat) ≠ 0) := Hj (by decide)
 clear h he _hE _hok _hL _hw _hrb hk hs hn _hr _hl _hl2 hb1 hr1 hw1 hB ha hbi hbs ht
 rcases hio with ⟨rfl, rfl⟩ | rfl
 all_goals
  go_enter Tryz.func12, Tryz.ntmps12
  go_wp2_with (first
   | (go_at_call 40; go_loud (rw [← HW1.out, ← HBE.out]; (with_reducible refine HAsk.out.mono ?_); rintro e w2 ⟨rfl, hb2⟩; have HB2 := Hj hb2; obtain ⟨v20, v21, v22, v23, v24⟩ := HBox.out w2 hb2; clear hb2))
   | (go_at_call 11; go_loud ((with_reducible refine (HG1.out w2 HB2.out).mono ?_); rintro e w3 ⟨x1, rfl, hb3⟩; have HB3 := Hj (HB2.out.trans (hb3.mono HB2.out.size)); have hal3 : ∀ ob, Below w1.heap.size w1 (w3.alloc ob) := (fun ob => HB3.out.alloc HB3.out.size ob); have b30 : ∀ ob, (w3.alloc ob).cell? ⟨B, 0, none⟩ = some (.int .i64 v.kind) := (fun ob => (HBox.out _ (hal3 ob)).1); have b31 : ∀ ob, (w3.alloc ob).cell? ⟨B, 1, none⟩ = some (.string v.space) := (fun ob => (HBox.out _ (hal3 ob)).2.1); have b32 : ∀ ob, (w3.alloc ob).cell? ⟨B, 2, none⟩ = some (.string v.name) := (fun ob => (HBox.out _ (hal3 ob)).2.2.1); have HAl3 := Hj hal3; clear hal3; clear hb3))
   | (go_at_call 11; go_loud ((with_reducible refine (HG2.out _ (HAl3.out _)).mono ?_); rintro e w4 ⟨x2, rfl, hb4⟩; have HB4 := Hj ((HAl3.out _).trans (hb4.mono (HAl3.out _).size)); have hal4 : ∀ ob, Below w1.heap.size w1 (w4.alloc ob) := (fun ob => HB4.out.alloc HB4.out.size ob); have b40 : ∀ ob, (w4.alloc ob).cell? ⟨B, 0, none⟩ = some (.int .i64 v.kind) := (fun ob => (HBox.out _ (hal4 ob)).1); have b41 : ∀ ob, (w4.alloc ob).cell? ⟨B, 1, none⟩ = some (.string v.space) := (fun ob => (HBox.out _ (hal4 ob)).2.1); have b42 : ∀ ob, (w4.alloc ob).cell? ⟨B, 2, none⟩ = some (.string v.name) := (fun ob => (HBox.out _ (hal4 ob)).2.2.1); have HAl4 := Hj hal4; clear hal4; clear hb4 b30 b31 b32))
   | (go_at_call 41; go_loud (obtain ⟨wb, hwb⟩ : ∃ W, W = w4.alloc (.cells #[.int .i64 x2.kind, .string x2.space, .string x2.name, .int .i64 x2.ver, .slice x2.A x2.n x2.c] 26) := ⟨_, rfl⟩; rw [← hwb]; (with_reducible refine (HIn.out wb).mono ?_); rintro e w' ⟨rfl, rfl⟩; have HBb : Hid (Below w1.heap.size w1 wb) := Hj (by rw [hwb]; exact HAl4.out _); obtain ⟨vw0, vw1, vw2, vw3, vw4⟩ := HBox.out wb HBb.out; have e18 : wb.cell? ⟨2, 0, none⟩ = some (.iface 338 (.pointer (some (ea 18)))) := (HErr.out wb HBb.out).cell 18 (by decide) (by decide); have e19 : wb.cell? ⟨3, 0, none⟩ = some (.iface 338 (.pointer (some (ea 19)))) := (HErr.out wb HBb.out).cell 19 (by decide) (by decide); clear hwb b40 b41 b42))
   | fail)
  go_quiet (fail)
  go_wp2
  go_ret2
  have HBF := Hj (below_drewN (HB1.out.trans (HBb.out.mono HB1.out.size)) nq)
  obtain ⟨r1, r2⟩ := HSW.out.made HBF.out
  exact ⟨0, _, M, L, m, by rw [HDE.out]; rfl, .inl ⟨HNE.out, rfl, rfl, rfl, rfl, rfl⟩, r1, r2⟩
set_option maxHeartbeats 4000000 in
theorem create_quota (v : OV) (data : List UInt8) (h : SW w0 w Q g m gs L M) (he : Errs w0 ea) (_hE : EW w0 ea) (_hok : m.Ok) (_hL : L.Ok) (_hw : m.waits.length ≤ 900) (_hrb : RB w v.A v.n data) (hk : v.kind ≤ 9223372036854775807) (hs : v.space.size ≤ 1000) (hn : v.name.size ≤ 1000) (_hr : M.rev < 1099511627776) (hl : M.tab.length ≤ 90) (_hl2 : M.evs.length ≤ 100000) (ha : askE v = 0) (hio : (inSp v.kind = true ∧ (getM M 1 ⟨#[]⟩ v.space).isSome = true) ∨ inSp v.kind = false) (ht : (getM M v.kind v.space v.name).isSome = false) (hq : (if v.kind = 1 then 8 else 32) ≤ cntM M v.kind v.space) :
  Calls Tryz.prog 12 #[.pointer (some ⟨gs, 0, none⟩), .agg #[.int .i64 v.kind, .string v.space, .string v.name, .int .i64 v.ver, .slice v.A v.n v.c]] w fun en w' => ∃ n E M' L' m', en = .returned (.tuple #[.int .i64 ((n : Nat) : Int), dErr ea E]) ∧ Puts M L m (21) (false, newO M v data) n E M' L' m' ∧ SW w0 w' (ext Q w w') g m' gs L' M' ∧ Fr Q w w' := by
 obtain ⟨w1, hw1, B, hB, hb1, hr1⟩ := box_obj w v
 have HBox := Hj (VB.all hr1)
 have HErr := Hj (h.errs1 he hb1)
 have HSt := Hj (h.st1 hb1)
 have HSW := Hj h
 have HB1 := Hj hb1
 have HW1 := Hj hw1
 have HBE := Hj hB
 obtain ⟨vb0, vb1, vb2, vb3, vb4⟩ := HBox.out w1 (Below.refl _ _)
 have HAsk : Hid (Calls Tryz.prog 40 #[.agg #[.int .i64 v.kind, .string v.space, .string v.name, .int .i64 v.ver, .slice v.A v.n v.c]] w1 fun e w' => e = .returned (dErr ea (askE v)) ∧ Below w1.heap.size w1 w') := Hj (by rw [← errOf_d]; exact asked_any v w1 ea (HErr.out w1 (Below.refl _ _)))
 rw [ha, dErr_zero] at HAsk
 obtain ⟨bi, hbi⟩ : ∃ b, b = inSp v.kind := ⟨_, rfl⟩
 obtain ⟨bs, hbs⟩ : ∃ b, b = (getM M 1 ⟨#[]⟩ v.space).isSome := ⟨_, rfl⟩
 rw [← hbi, ← hbs] at hio
 have HG1 : Hid (∀ W, Below w1.heap.size w1 W → Calls Tryz.prog 11 #[.pointer (some ⟨gs, 0, none⟩), .int .i64 1, .string ⟨#[]⟩, .string v.space] W fun e w' => ∃ x : OV, e = .returned (.tuple #[.agg #[.int .i64 x.kind, .string x.space, .string x.name, .int .i64 x.ver, .slice x.A x.n x.c], .bool bs]) ∧ Below W.heap.size W w') := Hj fun W hW => (Get_st 1 ⟨#[]⟩ v.space (HSt.out W hW) (by decide) (by decide) hs).mono fun e w' => by
  rintro ⟨x, rfl, -, hb⟩
  exact ⟨x, by rw [hbs], hb⟩
 have HG2 : Hid (∀ W, Below w1.heap.size w1 W → Calls Tryz.prog 11 #[.pointer (some ⟨gs, 0, none⟩), .int .i64 v.kind, .string v.space, .string v.name] W fun e w' => ∃ x : OV, e = .returned (.tuple #[.agg #[.int .i64 x.kind, .string x.space, .string x.name, .int .i64 x.ver, .slice x.A x.n x.c], .bool false]) ∧ Below W.heap.size W w') := Hj fun W hW => (Get_st v.kind v.space v.name (HSt.out W hW) hk hs hn).mono fun e w' => by
  rintro ⟨x, rfl, -, hb⟩
  exact ⟨x, by rw [ht], hb⟩
 have HIn : Hid (∀ W, Calls Tryz.prog 41 #[.int .i64 v.kind] W fun e w' => e = .returned (.bool bi) ∧ W = w') := Hj fun W => by
  have h := inSp_any v.kind W
  rw [← hbi] at h
  exact h
 obtain ⟨q, hqe⟩ : ∃ q : Int, q = if v.kind = 1 then 8 else 32 := ⟨_, rfl⟩
 rw [← hqe] at hq
 have HQ := Hj hqe
 have HCt0 : Hid (∀ W, Below w1.heap.size w1 W → Calls Tryz.prog 22 #[.pointer (some ⟨gs, 0, none⟩), .int .i64 v.kind, .string v.space] W fun e w' => e = .returned (.int .i64 (cntM M v.kind v.space)) ∧ Below W.heap.size W w') := Hj fun W hW => Count_any v.kind v.space (HSt.out W hW) hk hs (by omega)
 obtain ⟨c, hce⟩ : ∃ c, c = cntM M v.kind v.space := ⟨_, rfl⟩
 rw [← hce] at hq HCt0
 have HCt := HCt0
 have HDE := Hj (dErr_form ea (by decide : (21 : Nat) ≠ 0))
 have HNE : Hid ((21 : Nat) ≠ 0) := Hj (by decide)
 clear h he _hE _hok _hL _hw _hrb hk hs hn _hr hl _hl2 hb1 hr1 hw1 hB hqe hce HCt0 ha hbi hbs ht
 rcases hio with ⟨rfl, rfl⟩ | rfl
 all_goals
  go_enter Tryz.func12, Tryz.ntmps12
  go_wp2_with (first
   | (go_at_call 40; go_loud (rw [← HW1.out, ← HBE.out]; (with_reducible refine HAsk.out.mono ?_); rintro e w2 ⟨rfl, hb2⟩; have HB2 := Hj hb2; obtain ⟨v20, v21, v22, v23, v24⟩ := HBox.out w2 hb2; clear hb2))
   | (go_at_call 11; go_loud ((with_reducible refine (HG1.out w2 HB2.out).mono ?_); rintro e w3 ⟨x1, rfl, hb3⟩; have HB3 := Hj (HB2.out.trans (hb3.mono HB2.out.size)); have hal3 : ∀ ob, Below w1.heap.size w1 (w3.alloc ob) := (fun ob => HB3.out.alloc HB3.out.size ob); have b30 : ∀ ob, (w3.alloc ob).cell? ⟨B, 0, none⟩ = some (.int .i64 v.kind) := (fun ob => (HBox.out _ (hal3 ob)).1); have b31 : ∀ ob, (w3.alloc ob).cell? ⟨B, 1, none⟩ = some (.string v.space) := (fun ob => (HBox.out _ (hal3 ob)).2.1); have b32 : ∀ ob, (w3.alloc ob).cell? ⟨B, 2, none⟩ = some (.string v.name) := (fun ob => (HBox.out _ (hal3 ob)).2.2.1); have HAl3 := Hj hal3; clear hal3; clear hb3))
   | (go_at_call 11; go_loud ((with_reducible refine (HG2.out _ (HAl3.out _)).mono ?_); rintro e w4 ⟨x2, rfl, hb4⟩; have HB4 := Hj ((HAl3.out _).trans (hb4.mono (HAl3.out _).size)); have hal4 : ∀ ob, Below w1.heap.size w1 (w4.alloc ob) := (fun ob => HB4.out.alloc HB4.out.size ob); have b40 : ∀ ob, (w4.alloc ob).cell? ⟨B, 0, none⟩ = some (.int .i64 v.kind) := (fun ob => (HBox.out _ (hal4 ob)).1); have b41 : ∀ ob, (w4.alloc ob).cell? ⟨B, 1, none⟩ = some (.string v.space) := (fun ob => (HBox.out _ (hal4 ob)).2.1); have b42 : ∀ ob, (w4.alloc ob).cell? ⟨B, 2, none⟩ = some (.string v.name) := (fun ob => (HBox.out _ (hal4 ob)).2.2.1); have HAl4 := Hj hal4; clear hal4; clear hb4 b30 b31 b32))
   | (go_at_call 41; go_loud (obtain ⟨wb, hwb⟩ : ∃ W, W = w4.alloc (.cells #[.int .i64 x2.kind, .string x2.space, .string x2.name, .int .i64 x2.ver, .slice x2.A x2.n x2.c] 26) := ⟨_, rfl⟩; rw [← hwb]; (with_reducible refine (HIn.out wb).mono ?_); rintro e w' ⟨rfl, rfl⟩; have HBb : Hid (Below w1.heap.size w1 wb) := Hj (by rw [hwb]; exact HAl4.out _); obtain ⟨vw0, vw1, vw2, vw3, vw4⟩ := HBox.out wb HBb.out; have e18 : wb.cell? ⟨2, 0, none⟩ = some (.iface 338 (.pointer (some (ea 18)))) := (HErr.out wb HBb.out).cell 18 (by decide) (by decide); have e19 : wb.cell? ⟨3, 0, none⟩ = some (.iface 338 (.pointer (some (ea 19)))) := (HErr.out wb HBb.out).cell 19 (by decide) (by decide); clear hwb b40 b41 b42))
   | fail)
  have HSx : Hid (wb.drew.cell? ⟨B, 0, none⟩ = some (.int .i64 v.kind) ∧ wb.drew.cell? ⟨B, 1, none⟩ = some (.string v.space)) := Hj ⟨vw0, vw1⟩
  have HBbd : Hid (Below w1.heap.size w1 wb.drew) := Hj ⟨HBb.out.os, HBb.out.tape, HBb.out.output, HBb.out.size, HBb.out.block⟩
  clear vw0 vw1 vw2 vw3 vw4 e18 e19
  refine wp_region_noPanic ?_
  refine wp_region_held_drew (S := (fun w' => w'.cell? ⟨B, 0, none⟩ = some (.int .i64 v.kind) ∧ w'.cell? ⟨B, 1, none⟩ = some (.string v.space))) (by kernel_rfl) ?_ (fun hHeld => ?_)
  ·exact HSx.out
  refine tk 0 hHeld ?_
  try simp only [pa]
  refine tk 1 hHeld ?_
  try simp only [pa]
  refine tk 2 hHeld ?_
  try simp only [pa]
  refine tk 3 hHeld ?_
  try simp only [pa]
  refine tk 4 hHeld ?_
  try simp only [pa]
  refine tk 6 hHeld ?_
  try simp only [pa]
  refine tk 7 hHeld ?_
  try simp only [pa]
  refine rd1 5 rfl (fun K hK => ?_)
  go_simp
  refine (HCt.out wb.drew HBbd.out).mono ?_
  rintro e wk ⟨rfl, hbk⟩
  have HBk : Hid (Below w1.heap.size w1 wk) := Hj (HBbd.out.trans (hbk.mono HBbd.out.size))
  obtain ⟨vk0, vk1, vk2, vk3, vk4⟩ := HBox.out wk HBk.out
  have HSk := Hj (And.intro vk0 vk1)
  have e21 : wk.cell? ⟨4, 0, none⟩ = some (.iface 338 (.pointer (some (ea 21)))) := (HErr.out wk HBk.out).cell 21 (by decide) (by decide)
  clear hbk
  refine hK.out _ _ ?_ (fun hHeld => ?_)
  ·exact HSk.out
  clear hK K
  try simp only [pa]
  refine rd1 8 rfl (fun K hK => ?_)
  go_simp
  refine (quota_any v.kind wk).mono ?_
  rintro e w' ⟨rfl, rfl⟩
  rw [← HQ.out]
  refine hK.out _ _ ?_ (fun hHeld => ?_)
  ·exact hHeld
  clear hK K
  try simp only [pa]
  refine tk 9 hHeld ?_
  try simp only [pa]
  refine tk 10 hHeld ?_
  try simp only [pa]
  refine wpAnyH_done (by kernel_rfl) ?_ _
  refine NoPanic.normal ?_
  go_wp2
  go_quiet (fail)
  go_wp2
  go_ret2
  have HBF := Hj (below_drewN (HB1.out.trans (HBk.out.mono HB1.out.size)) nq)
  obtain ⟨r1, r2⟩ := HSW.out.made HBF.out
  exact ⟨0, _, M, L, m, by rw [HDE.out]; rfl, .inl ⟨HNE.out, rfl, rfl, rfl, rfl, rfl⟩, r1, r2⟩
set_option maxHeartbeats 4000000 in
theorem create_go (v : OV) (data : List UInt8) (h : SW w0 w Q g m gs L M) (he : Errs w0 ea) (hE : EW w0 ea) (hok : m.Ok) (hL : L.Ok) (hw : m.waits.length ≤ 900) (hrb : RB w v.A v.n data) (hk : v.kind ≤ 9223372036854775807) (hs : v.space.size ≤ 1000) (hn : v.name.size ≤ 1000) (hr : M.rev < 1099511627776) (hl : M.tab.length ≤ 90) (hl2 : M.evs.length ≤ 100000) (ha : askE v = 0) (hio : (inSp v.kind = true ∧ (getM M 1 ⟨#[]⟩ v.space).isSome = true) ∨ inSp v.kind = false) (ht : (getM M v.kind v.space v.name).isSome = false) (hq : ¬ (if v.kind = 1 then 8 else 32) ≤ cntM M v.kind v.space) :
  Calls Tryz.prog 12 #[.pointer (some ⟨gs, 0, none⟩), .agg #[.int .i64 v.kind, .string v.space, .string v.name, .int .i64 v.ver, .slice v.A v.n v.c]] w fun en w' => ∃ n E M' L' m', en = .returned (.tuple #[.int .i64 ((n : Nat) : Int), dErr ea E]) ∧ Puts M L m (0) (false, newO M v data) n E M' L' m' ∧ SW w0 w' (ext Q w w') g m' gs L' M' ∧ Fr Q w w' := by
 obtain ⟨w1, hw1, B, hB, hb1, hr1⟩ := box_obj w v
 have HBox := Hj (VB.all hr1)
 have HErr := Hj (h.errs1 he hb1)
 have HSt := Hj (h.st1 hb1)
 have HSW := Hj h
 have HB1 := Hj hb1
 have HW1 := Hj hw1
 have HBE := Hj hB
 obtain ⟨vb0, vb1, vb2, vb3, vb4⟩ := HBox.out w1 (Below.refl _ _)
 have HAsk : Hid (Calls Tryz.prog 40 #[.agg #[.int .i64 v.kind, .string v.space, .string v.name, .int .i64 v.ver, .slice v.A v.n v.c]] w1 fun e w' => e = .returned (dErr ea (askE v)) ∧ Below w1.heap.size w1 w') := Hj (by rw [← errOf_d]; exact asked_any v w1 ea (HErr.out w1 (Below.refl _ _)))
 rw [ha, dErr_zero] at HAsk
 obtain ⟨bi, hbi⟩ : ∃ b, b = inSp v.kind := ⟨_, rfl⟩
 obtain ⟨bs, hbs⟩ : ∃ b, b = (getM M 1 ⟨#[]⟩ v.space).isSome := ⟨_, rfl⟩
 rw [← hbi, ← hbs] at hio
 have HG1 : Hid (∀ W, Below w1.heap.size w1 W → Calls Tryz.prog 11 #[.pointer (some ⟨gs, 0, none⟩), .int .i64 1, .string ⟨#[]⟩, .string v.space] W fun e w' => ∃ x : OV, e = .returned (.tuple #[.agg #[.int .i64 x.kind, .string x.space, .string x.name, .int .i64 x.ver, .slice x.A x.n x.c], .bool bs]) ∧ Below W.heap.size W w') := Hj fun W hW => (Get_st 1 ⟨#[]⟩ v.space (HSt.out W hW) (by decide) (by decide) hs).mono fun e w' => by
  rintro ⟨x, rfl, -, hb⟩
  exact ⟨x, by rw [hbs], hb⟩
 have HG2 : Hid (∀ W, Below w1.heap.size w1 W → Calls Tryz.prog 11 #[.pointer (some ⟨gs, 0, none⟩), .int .i64 v.kind, .string v.space, .string v.name] W fun e w' => ∃ x : OV, e = .returned (.tuple #[.agg #[.int .i64 x.kind, .string x.space, .string x.name, .int .i64 x.ver, .slice x.A x.n x.c], .bool false]) ∧ Below W.heap.size W w') := Hj fun W hW => (Get_st v.kind v.space v.name (HSt.out W hW) hk hs hn).mono fun e w' => by
  rintro ⟨x, rfl, -, hb⟩
  exact ⟨x, by rw [ht], hb⟩
 have HIn : Hid (∀ W, Calls Tryz.prog 41 #[.int .i64 v.kind] W fun e w' => e = .returned (.bool bi) ∧ W = w') := Hj fun W => by
  have h := inSp_any v.kind W
  rw [← hbi] at h
  exact h
 obtain ⟨q, hqe⟩ : ∃ q : Int, q = if v.kind = 1 then 8 else 32 := ⟨_, rfl⟩
 rw [← hqe] at hq
 have HQ := Hj hqe
 have HCt0 : Hid (∀ W, Below w1.heap.size w1 W → Calls Tryz.prog 22 #[.pointer (some ⟨gs, 0, none⟩), .int .i64 v.kind, .string v.space] W fun e w' => e = .returned (.int .i64 (cntM M v.kind v.space)) ∧ Below W.heap.size W w') := Hj fun W hW => Count_any v.kind v.space (HSt.out W hW) hk hs (by omega)
 obtain ⟨c, hce⟩ : ∃ c, c = cntM M v.kind v.space := ⟨_, rfl⟩
 rw [← hce] at hq HCt0
 have HCt := HCt0
 have hdl : data.length = v.n := hrb.1
 obtain ⟨hcan, hkk⟩ := newO_can ha hdl.symm hr
 have HChg : Hid (∀ W, Below w1.heap.size w1 W → Calls Tryz.prog 43 #[.pointer (some ⟨gs, 0, none⟩), .agg #[.int .i64 v.kind, .string v.space, .string v.name, .int .i64 v.ver, .slice v.A v.n v.c], .bool false] W fun en w' => ∃ n E M' L' m', en = .returned (.tuple #[.int .i64 ((n : Nat) : Int), dErr ea E]) ∧ Chg M L m (false, newO M v data) n E M' L' m' ∧ SW w0 w' (ext Q W w') g m' gs L' M' ∧ Fr Q W w') := Hj fun W hW => change_any v (newO M v data) false (HSt.out W hW) he hE hok hL hw ((hrb.keep (Kz hb1)).keep (Kz hW)) ⟨hkk, rfl, rfl⟩ hcan hr hl hl2
 clear h he hE hok hL hw hrb hk hs hn hr hl hl2 hb1 hr1 hw1 hB hqe hce HCt0 hdl hcan hkk ha hbi hbs ht
 rcases hio with ⟨rfl, rfl⟩ | rfl
 all_goals
  go_enter Tryz.func12, Tryz.ntmps12
  go_wp2_with (first
   | (go_at_call 40; go_loud (rw [← HW1.out, ← HBE.out]; (with_reducible refine HAsk.out.mono ?_); rintro e w2 ⟨rfl, hb2⟩; have HB2 := Hj hb2; obtain ⟨v20, v21, v22, v23, v24⟩ := HBox.out w2 hb2; clear hb2))
   | (go_at_call 11; go_loud ((with_reducible refine (HG1.out w2 HB2.out).mono ?_); rintro e w3 ⟨x1, rfl, hb3⟩; have HB3 := Hj (HB2.out.trans (hb3.mono HB2.out.size)); have hal3 : ∀ ob, Below w1.heap.size w1 (w3.alloc ob) := (fun ob => HB3.out.alloc HB3.out.size ob); have b30 : ∀ ob, (w3.alloc ob).cell? ⟨B, 0, none⟩ = some (.int .i64 v.kind) := (fun ob => (HBox.out _ (hal3 ob)).1); have b31 : ∀ ob, (w3.alloc ob).cell? ⟨B, 1, none⟩ = some (.string v.space) := (fun ob => (HBox.out _ (hal3 ob)).2.1); have b32 : ∀ ob, (w3.alloc ob).cell? ⟨B, 2, none⟩ = some (.string v.name) := (fun ob => (HBox.out _ (hal3 ob)).2.2.1); have HAl3 := Hj hal3; clear hal3; clear hb3))
   | (go_at_call 11; go_loud ((with_reducible refine (HG2.out _ (HAl3.out _)).mono ?_); rintro e w4 ⟨x2, rfl, hb4⟩; have HB4 := Hj ((HAl3.out _).trans (hb4.mono (HAl3.out _).size)); have hal4 : ∀ ob, Below w1.heap.size w1 (w4.alloc ob) := (fun ob => HB4.out.alloc HB4.out.size ob); have b40 : ∀ ob, (w4.alloc ob).cell? ⟨B, 0, none⟩ = some (.int .i64 v.kind) := (fun ob => (HBox.out _ (hal4 ob)).1); have b41 : ∀ ob, (w4.alloc ob).cell? ⟨B, 1, none⟩ = some (.string v.space) := (fun ob => (HBox.out _ (hal4 ob)).2.1); have b42 : ∀ ob, (w4.alloc ob).cell? ⟨B, 2, none⟩ = some (.string v.name) := (fun ob => (HBox.out _ (hal4 ob)).2.2.1); have HAl4 := Hj hal4; clear hal4; clear hb4 b30 b31 b32))
   | (go_at_call 41; go_loud (obtain ⟨wb, hwb⟩ : ∃ W, W = w4.alloc (.cells #[.int .i64 x2.kind, .string x2.space, .string x2.name, .int .i64 x2.ver, .slice x2.A x2.n x2.c] 26) := ⟨_, rfl⟩; rw [← hwb]; (with_reducible refine (HIn.out wb).mono ?_); rintro e w' ⟨rfl, rfl⟩; have HBb : Hid (Below w1.heap.size w1 wb) := Hj (by rw [hwb]; exact HAl4.out _); obtain ⟨vw0, vw1, vw2, vw3, vw4⟩ := HBox.out wb HBb.out; have e18 : wb.cell? ⟨2, 0, none⟩ = some (.iface 338 (.pointer (some (ea 18)))) := (HErr.out wb HBb.out).cell 18 (by decide) (by decide); have e19 : wb.cell? ⟨3, 0, none⟩ = some (.iface 338 (.pointer (some (ea 19)))) := (HErr.out wb HBb.out).cell 19 (by decide) (by decide); clear hwb b40 b41 b42))
   | fail)
  have HSx : Hid (wb.drew.cell? ⟨B, 0, none⟩ = some (.int .i64 v.kind) ∧ wb.drew.cell? ⟨B, 1, none⟩ = some (.string v.space)) := Hj ⟨vw0, vw1⟩
  have HBbd : Hid (Below w1.heap.size w1 wb.drew) := Hj ⟨HBb.out.os, HBb.out.tape, HBb.out.output, HBb.out.size, HBb.out.block⟩
  clear vw0 vw1 vw2 vw3 vw4 e18 e19
  refine wp_region_noPanic ?_
  refine wp_region_held_drew (S := (fun w' => w'.cell? ⟨B, 0, none⟩ = some (.int .i64 v.kind) ∧ w'.cell? ⟨B, 1, none⟩ = some (.string v.space))) (by kernel_rfl) ?_ (fun hHeld => ?_)
  ·exact HSx.out
  refine tk 0 hHeld ?_
  try simp only [pa]
  refine tk 1 hHeld ?_
  try simp only [pa]
  refine tk 2 hHeld ?_
  try simp only [pa]
  refine tk 3 hHeld ?_
  try simp only [pa]
  refine tk 4 hHeld ?_
  try simp only [pa]
  refine tk 6 hHeld ?_
  try simp only [pa]
  refine tk 7 hHeld ?_
  try simp only [pa]
  refine rd1 5 rfl (fun K hK => ?_)
  go_simp
  refine (HCt.out wb.drew HBbd.out).mono ?_
  rintro e wk ⟨rfl, hbk⟩
  have HBk : Hid (Below w1.heap.size w1 wk) := Hj (HBbd.out.trans (hbk.mono HBbd.out.size))
  obtain ⟨vk0, vk1, vk2, vk3, vk4⟩ := HBox.out wk HBk.out
  have HSk := Hj (And.intro vk0 vk1)
  have e21 : wk.cell? ⟨4, 0, none⟩ = some (.iface 338 (.pointer (some (ea 21)))) := (HErr.out wk HBk.out).cell 21 (by decide) (by decide)
  clear hbk
  refine hK.out _ _ ?_ (fun hHeld => ?_)
  ·exact HSk.out
  clear hK K
  try simp only [pa]
  refine rd1 8 rfl (fun K hK => ?_)
  go_simp
  refine (quota_any v.kind wk).mono ?_
  rintro e w' ⟨rfl, rfl⟩
  rw [← HQ.out]
  refine hK.out _ _ ?_ (fun hHeld => ?_)
  ·exact hHeld
  clear hK K
  try simp only [pa]
  refine tk 9 hHeld ?_
  try simp only [pa]
  refine tk 10 hHeld ?_
  try simp only [pa]
  refine wpAnyH_done (by kernel_rfl) ?_ _
  refine NoPanic.normal ?_
  go_wp2_with (go_at_call 43; go_loud ((with_reducible refine (HChg.out wk HBk.out).mono ?_); rintro e w9 ⟨n, E, M', L', m', rfl, hch, hs9, hf9⟩; have HCh := Hj hch; have HS9 := Hj hs9; have HF9 := Hj hf9; clear hch hs9 hf9))
  go_ret2
  obtain ⟨r1, r2⟩ := HSW.out.behind (HB1.out.trans (HBk.out.mono HB1.out.size)) ⟨HS9.out, HF9.out⟩
  exact ⟨n, E, M', L', m', rfl, .inr ⟨rfl, HCh.out⟩, r1, r2⟩
theorem Create_any (v : OV) (data : List UInt8) (h : SW w0 w Q g m gs L M) (he : Errs w0 ea) (hE : EW w0 ea) (hok : m.Ok) (hL : L.Ok) (hw : m.waits.length ≤ 900) (hrb : RB w v.A v.n data) (hk : v.kind ≤ 9223372036854775807) (hs : v.space.size ≤ 1000) (hn : v.name.size ≤ 1000) (hr : M.rev < 1099511627776) (hl : M.tab.length ≤ 90) (hl2 : M.evs.length ≤ 100000) :
  Calls Tryz.prog 12 #[.pointer (some ⟨gs, 0, none⟩), .agg #[.int .i64 v.kind, .string v.space, .string v.name, .int .i64 v.ver, .slice v.A v.n v.c]] w fun en w' => ∃ n E M' L' m', en = .returned (.tuple #[.int .i64 ((n : Nat) : Int), dErr ea E]) ∧ Puts M L m (creE M v) (false, newO M v data) n E M' L' m' ∧ SW w0 w' (ext Q w w') g m' gs L' M' ∧ Fr Q w w' := by
 unfold creE
 by_cases ha : askE v = 0
 ·rw [if_pos ha]
  cases hi : inSp v.kind with
  | true => cases hg : (getM M 1 ⟨#[]⟩ v.space).isSome with
   | false => rw [if_pos ⟨rfl, rfl⟩]; exact create_none v data h he hE hok hL hw hrb hk hs hn hr hl hl2 ha hi hg
   | true =>
    rw [if_neg (fun x => by cases x.2)]
    cases ht : (getM M v.kind v.space v.name).isSome with
    | true => rw [if_pos rfl]; exact create_there v data h he hE hok hL hw hrb hk hs hn hr hl hl2 ha (.inl ⟨hi, hg⟩) ht
    | false =>
     rw [if_neg (by decide)]
     by_cases hq : (if v.kind = 1 then 8 else 32) ≤ cntM M v.kind v.space
     ·rw [if_pos hq]; exact create_quota v data h he hE hok hL hw hrb hk hs hn hr hl hl2 ha (.inl ⟨hi, hg⟩) ht hq
     ·rw [if_neg hq]; exact create_go v data h he hE hok hL hw hrb hk hs hn hr hl hl2 ha (.inl ⟨hi, hg⟩) ht hq
  | false =>
   rw [if_neg (fun x => by cases x.1)]
   cases ht : (getM M v.kind v.space v.name).isSome with
   | true => rw [if_pos rfl]; exact create_there v data h he hE hok hL hw hrb hk hs hn hr hl hl2 ha (.inr hi) ht
   | false =>
    rw [if_neg (by decide)]
    by_cases hq : (if v.kind = 1 then 8 else 32) ≤ cntM M v.kind v.space
    ·rw [if_pos hq]; exact create_quota v data h he hE hok hL hw hrb hk hs hn hr hl hl2 ha (.inr hi) ht hq
    ·rw [if_neg hq]; exact create_go v data h he hE hok hL hw hrb hk hs hn hr hl hl2 ha (.inr hi) ht hq
 ·rw [if_neg ha]; exact create_ask v data h he hE hok hL hw hrb hk hs hn hr hl hl2 ha
end
end Go.Proofs.YtfmagnpmjlppiaaGreatDoor
