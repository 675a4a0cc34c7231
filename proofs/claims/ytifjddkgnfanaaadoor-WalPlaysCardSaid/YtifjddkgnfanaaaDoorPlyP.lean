/- WalPlays: what the disk and the log keep, step by step. In plain words. -/
import Derived.Test.YtifjddkgnfanaaaDoorRlJ
import Derived.Test.YtifjddkgnfanaaaDoorDiskS
namespace Go.Proofs.YtifjddkgnfanaaaDoor

def DM.sureF (m : DM) : Int := m.room - ((m.b 0).length : Int) - ((m.b 1).length : Int) - ((m.b 2).length : Int)
structure DM.Gd (m : DM) : Prop where
  ok : m.Ok
  fold : m.Fold
  free0 : 0 ≤ m.free
  sure0 : 0 ≤ m.sureF
  one : m.waits.length ≤ 1
  rest : m.waits ≠ [] → m.gone = true
  room : m.room = 1000
section
variable {m : DM} {L : LM}
theorem DM.gone_dead (h : m.gone = true) : m.dead = true := by unfold DM.dead; rw [h]; rfl
theorem DM.unit_dead (h : m.dead = true) : m.unit = { m with gone := true } := by unfold DM.unit; rw [h]; rfl
theorem DM.unit_sureF (m : DM) : m.unit.sureF = m.sureF := by unfold DM.sureF; rw [m.unit_b, m.unit_room]
theorem wait_sureF (m : DM) (c : DChg) : (m.wait c).sureF = m.sureF := by
  have e : ∀ i, i < 3 → (m.wait c).b i = m.b i := fun i hi => updB_other _ _ _ _ (by omega)
  unfold DM.sureF
  rw [e 0 (by decide), e 1 (by decide), e 2 (by decide)]
  rfl
theorem write_sureF (a p : Int) (bs : List UInt8) : (m.write a p bs).sureF = m.sureF := by
  unfold DM.write
  split
  · rw [wait_sureF, m.unit_sureF]
  · split
    · exact m.unit_sureF
    · rfl
theorem cut_sureF (a p : Int) : (m.cut a p).sureF = m.sureF := by
  unfold DM.cut
  split
  · rw [wait_sureF, m.unit_sureF]
  · split
    · exact m.unit_sureF
    · rfl
theorem write_room (a p : Int) (bs : List UInt8) : (m.write a p bs).room = m.room := by
  unfold DM.write
  split
  · exact m.unit_room
  · split
    · exact m.unit_room
    · rfl
theorem cut_room (a p : Int) : (m.cut a p).room = m.room := by
  unfold DM.cut
  split
  · exact m.unit_room
  · split
    · exact m.unit_room
    · rfl
/-- A sync. -/
theorem Gd.sync (ok : m.Ok) (fold : m.Fold) (free0 : 0 ≤ m.free) (sure0 : 0 ≤ m.sureF) (one : m.waits.length ≤ 1) (room : m.room = 1000) : m.sync.Gd := by
  refine ⟨ok.sync, fold.sync, by rw [free_sync]; exact free0, ?_, Nat.le_trans (sync_waits m) one, fun h => ?_, by rw [m.sync_room]; exact room⟩
  · unfold DM.sync
    split
    · rw [m.unit_sureF]; exact sure0
    · show 0 ≤ m.unit.flush.sureF
      have e : m.unit.flush.sureF = m.unit.free := rfl
      rw [e, free_unit]
      exact free0
  · cases hd : m.dead with
    | true => unfold DM.sync; rw [hd, if_pos rfl, DM.unit_dead hd]
    | false => exact absurd (by unfold DM.sync; rw [hd]; rfl) h
/-- A call that fails. -/
theorem Gd.unit (h : m.Gd) : m.unit.Gd := by
  refine ⟨h.ok.unit, h.fold.unit, by rw [free_unit]; exact h.free0, by rw [m.unit_sureF]; exact h.sure0, by rw [m.unit_waits]; exact h.one, fun hw => ?_, by rw [m.unit_room]; exact h.room⟩
  rw [m.unit_waits] at hw
  rw [DM.unit_dead (DM.gone_dead (h.rest hw))]
theorem writeE_alive {a p : Int} {n : Nat} (h : m.writeE a p n = 0) : m.dead = false := by
  unfold DM.writeE at h
  split at h
  · cases h
  · split at h
    · cases h
    · split at h
      · cases h
      · rename_i hd; simpa using hd
theorem cutE_alive {a p : Int} (h : m.cutE a p = 0) : m.dead = false := by
  unfold DM.cutE at h
  split at h
  · cases h
  · split at h
    · cases h
    · rename_i hd; simpa using hd
theorem Gd.empty (h : m.Gd) (hd : m.dead = false) : m.waits = [] := by
  cases hw : m.waits with
  | nil => rfl
  | cons c l =>
    have := DM.gone_dead (h.rest (by rw [hw]; exact List.cons_ne_nil _ _))
    rw [hd] at this
    cases this
theorem Gd.wr (h : m.Gd) (a : Nat) (p : Int) (bs : List UInt8) : (wrM m (a : Int) p bs).Gd := by
  unfold wrM
  split
  · rename_i he
    have hw := Gd.empty h (writeE_alive he)
    have h1 := write_waits1 m (a : Int) p bs
    rw [hw] at h1
    exact Gd.sync (h.ok.write _ _ _) (h.fold.write h.ok _ _ _) (write_free0 h.free0 a p bs) (by rw [write_sureF]; exact h.sure0) h1 (by rw [write_room]; exact h.room)
  · rename_i he
    unfold DM.write
    rw [if_neg he]
    split
    · exact Gd.unit h
    · exact h
theorem Gd.cut (h : m.Gd) (a : Nat) (p : Int) : (if m.cutE (a : Int) p = 0 then (m.cut (a : Int) p).sync else m.cut (a : Int) p).Gd := by
  split
  · rename_i he
    have hw := Gd.empty h (cutE_alive he)
    have h1 := cut_waits1 m (a : Int) p
    rw [hw] at h1
    exact Gd.sync (h.ok.cut _ _) (h.fold.cut h.ok _ _) (cut_free0 h.free0 a p) (by rw [cut_sureF]; exact h.sure0) h1 (by rw [cut_room]; exact h.room)
  · rename_i he
    unfold DM.cut
    rw [if_neg he]
    split
    · exact Gd.unit h
    · exact h
theorem Gd.cl (h : m.Gd) (a : Nat) : (clM m (a : Int)).Gd := Gd.cut h a 0
theorem Gd.opM (h : m.Gd) (e : Nat) : (opM m e).Gd := by
  unfold Go.Proofs.YtifjddkgnfanaaaDoor.opM
  split
  · exact h
  · exact Gd.cut h 2 (e : Int)
theorem Gd.sw (h : m.Gd) (a : Nat) (bs : List UInt8) : (swM m (a : Int) bs).Gd := by
  unfold swM
  split
  · split
    · exact Gd.cl (Gd.wr (Gd.cl h a) a 0 bs) 2
    · exact Gd.wr (Gd.cl h a) a 0 bs
  · exact Gd.cl h a
theorem Gd.appM (h : m.Gd) (L : LM) (t : List UInt8) : (L.appM m t).Gd := by
  unfold LM.appM
  split
  · exact Gd.wr h 2 _ _
  · exact h
theorem Gd.cpM (h : m.Gd) (L : LM) (t : List UInt8) : (L.cpM m t).Gd := by
  unfold LM.cpM
  split
  · exact Gd.sw h (1 - L.slot) _
  · exact h
theorem Gd.arm (h : m.Gd) (n : Int) (h0 : 0 ≤ n) (h1 : n ≤ 9223372036854775807) : (m.arm n).Gd :=
  ⟨⟨h.ok.room0, h.ok.room1, h.ok.len, h.ok.wait, h0, h1⟩, h.fold, h.free0, h.sure0, h.one, h.rest, h.room⟩
theorem doB_cut_le (l : List UInt8) (c : DChg) (hc : c.cuts = true) : (doB l c).length ≤ l.length := by
  unfold doB
  rw [hc, if_pos rfl, List.length_take]
  omega
theorem doB_wr_len (l : List UInt8) (c : DChg) (hc : c.cuts = false) : (doB l c).length = max l.length (c.pos + c.bytes.length) := by
  unfold doB
  rw [hc, if_neg (by decide), List.length_append, List.length_append, List.length_take, List.length_drop, padTo_length]
  omega
/-- An area behind a crash is no longer than the one or the other. -/
theorem torn_le {A B : Nat → List UInt8} {c : DChg} (h : Torn A B c) : (∀ i, i < 3 → (B i).length ≤ (A i).length) ∨ (∀ i, i < 3 → (B i).length ≤ (A i).length ∨ (B i).length ≤ (After A c i).length ∧ i = c.area) := by
  right
  intro i hi
  rcases h with h | h | ⟨hc, j, h⟩
  · left; rw [h i hi]; exact Nat.le_refl _
  · rw [h i hi]
    unfold After
    by_cases e : i = c.area
    · right; exact ⟨Nat.le_refl _, e⟩
    · left; rw [updB_other _ _ _ _ e]; exact Nat.le_refl _
  · rw [h i hi]
    unfold After
    by_cases e : i = c.area
    · right
      refine ⟨?_, e⟩
      subst e
      dsimp only
      rw [updB_same, updB_same, doB_wr_len _ ⟨c.area, c.pos, c.bytes.take j, c.cuts⟩ hc, doB_wr_len _ c hc]
      dsimp only
      rw [List.length_take]
      omega
    · left; dsimp only; rw [updB_other _ _ _ _ e]; exact Nat.le_refl _
theorem torn_sum {A B : Nat → List UInt8} {c : DChg} (h : Torn A B c) (R : Int) (h1 : (A 0).length + (A 1).length + (A 2).length ≤ R) (h2 : (After A c 0).length + (After A c 1).length + (After A c 2).length ≤ R) : ((B 0).length : Int) + (B 1).length + (B 2).length ≤ R := by
  have ho : ∀ i, i ≠ c.area → (After A c i).length = (A i).length := fun i e => by unfold After; rw [updB_other _ _ _ _ e]
  rcases torn_le h with h | h
  · have := h 0 (by decide); have := h 1 (by decide); have := h 2 (by decide); omega
  · have k0 := h 0 (by decide)
    have k1 := h 1 (by decide)
    have k2 := h 2 (by decide)
    have o0 := ho 0
    have o1 := ho 1
    have o2 := ho 2
    by_cases e0 : 0 = c.area
    · have := o1 (by omega); have := o2 (by omega); omega
    · by_cases e1 : 1 = c.area
      · have := o0 (by omega); have := o2 (by omega); omega
      · have := o0 e0; have := o1 e1; omega
theorem Gd.crash (h : m.Gd) (kept s torn : Int) : (m.crash kept s torn).Gd := by
  have hs0 := h.sure0
  have hf0 := h.free0
  unfold DM.sureF at hs0
  unfold DM.free at hf0
  have key : ∃ B, (m.crash kept s torn).Is B ∧ ((B 0).length : Int) + (B 1).length + (B 2).length ≤ m.room := by
    cases hw : m.waits with
    | nil =>
      refine ⟨m.b, DM.crash_none h.ok hw (fun i _ => rfl) kept s torn, by omega⟩
    | cons c l =>
      have hl : l = [] := by
        have := h.one
        rw [hw] at this
        exact List.eq_nil_of_length_eq_zero (by simpa using this)
      subst hl
      obtain ⟨B, hB, hT⟩ := DM.crash_one h.ok c hw (fun i _ => rfl) kept s torn
      refine ⟨B, hB, torn_sum hT _ (by omega) ?_⟩
      have e : ∀ i, i < 3 → After m.b c i = m.b (3 + i) := fun i hi => by
        rw [h.fold i hi, hw]
        rfl
      rw [e 0 (by decide), e 1 (by decide), e 2 (by decide)]
      show ((m.b 3).length : Int) + (m.b 4).length + (m.b 5).length ≤ m.room
      omega
  obtain ⟨B, hB, hsum⟩ := key
  have hr : (m.crash kept s torn).room = m.room := rfl
  refine ⟨hB.ok, DM.Fold.crash _ _ _ _, ?_, ?_, by rw [hB.waits]; exact Nat.zero_le _, fun hx => absurd hB.waits hx, h.room⟩
  · unfold DM.free
    have e0 := hB.seen 0 (by decide)
    have e1 := hB.seen 1 (by decide)
    have e2 := hB.seen 2 (by decide)
    change (m.crash kept s torn).b 3 = B 0 at e0
    change (m.crash kept s torn).b 4 = B 1 at e1
    change (m.crash kept s torn).b 5 = B 2 at e2
    rw [e0, e1, e2, hr]
    omega
  · unfold DM.sureF
    rw [hB.sure 0 (by decide), hB.sure 1 (by decide), hB.sure 2 (by decide), hr]
    omega
theorem Gd.len (h : m.Gd) (i : Nat) (hi : i < 3) : (m.b (3 + i)).length ≤ 1000 := by
  have h0 := h.free0
  unfold DM.free at h0
  rw [h.room] at h0
  have : i = 0 ∨ i = 1 ∨ i = 2 := by omega
  rcases this with rfl | rfl | rfl
  · show (m.b 3).length ≤ _; omega
  · show (m.b 4).length ≤ _; omega
  · show (m.b 5).length ≤ _; omega

/-- A log behind so many acts. -/
structure LM.In (k : Nat) (L : LM) : Prop where
  gen : L.gen ≤ 2147483647
  slot : L.slot = 0 ∨ L.slot = 1
  text : L.text.length ≤ 1000
  recs : endOf L.recs ≤ 1000 + 220 * k
theorem LM.In.ok {k : Nat} (h : L.In k) (hk : k ≤ 1000) : L.Ok := ⟨h.gen, h.slot, by have := h.text; omega, by have := h.recs; omega⟩
theorem LM.In.more {k : Nat} (h : L.In k) : L.In (k + 1) := ⟨h.gen, h.slot, h.text, by have := h.recs; omega⟩
theorem LM.In.opened (h : m.Gd) (hR : Reads (fun i => m.b (3 + i)) L) : L.In 0 := by
  refine ⟨hR.gen, hR.slot, ?_, ?_⟩
  · have := pickB_text (m.b 3) (m.b 4) 1000 (Gd.len h 0 (by decide)) (Gd.len h 1 (by decide))
    have hp := hR.pick
    change pickB (m.b 3) (m.b 4) = _ at hp
    rw [hp] at this
    exact this
  · obtain ⟨r, e, _⟩ := hR.recs
    have := congrArg List.length e
    rw [List.length_append, recsB_length] at this
    have h2 := Gd.len h 2 (by decide)
    change (m.b (3 + 2)).length = _ at this
    omega
theorem LM.In.app {k : Nat} (h : L.In k) (m : DM) (t : List UInt8) (ht : t.length ≤ 200) : (L.app m t).In (k + 1) := by
  unfold LM.app
  split
  · split
    · refine ⟨h.gen, h.slot, h.text, ?_⟩
      show endOf (L.recs ++ [t]) ≤ _
      rw [endOf_snoc]
      have := h.recs
      omega
    · exact ⟨h.gen, h.slot, h.text, by have := h.recs; show endOf L.recs ≤ _; omega⟩
  · exact h.more
theorem LM.In.cp {k : Nat} (h : L.In k) (m : DM) (t : List UInt8) (ht : t.length ≤ 200) : (L.cp m t).In (k + 1) := by
  unfold LM.cp
  split
  · rename_i hs
    have hg := (space_zero hs).2.1
    split
    · refine ⟨by show L.gen + 1 ≤ _; omega, ?_, by show t.length ≤ _; omega, by show endOf [] ≤ _; simp [endOf]⟩
      rcases h.slot with h | h
      · right; show 1 - L.slot = 1; omega
      · left; show 1 - L.slot = 0; omega
    · exact ⟨h.gen, h.slot, h.text, by have := h.recs; show endOf L.recs ≤ _; omega⟩
  · exact h.more
end
end Go.Proofs.YtifjddkgnfanaaaDoor
