/- DiskKeeps: what a disk keeps, in plain words. -/
import Derived.Test.YtgiaifglkecdjaaDoorDiskP
import Derived.Test.YtgiaifglkecdjaaDoorActs17
namespace Go.Proofs.YtgiaifglkecdjaaDoor

def DM.Plain (m : DM) : Prop := m.armed = false ∧ m.gone = false
theorem DM.Plain.dead {m : DM} (h : m.Plain) : m.dead = false := by unfold DM.dead; rw [h.1, h.2]; rfl
theorem DM.Plain.unit {m : DM} (h : m.Plain) : m.unit = m := by unfold DM.unit; rw [h.dead, h.1]; rfl
theorem DM.Plain.write {m : DM} (h : m.Plain) (area at_ : Int) (bs : List UInt8) : (m.write area at_ bs).Plain := by
  unfold DM.write
  rw [h.unit]
  split
  · exact h
  · split <;> exact h
theorem DM.Plain.cut {m : DM} (h : m.Plain) (area n : Int) : (m.cut area n).Plain := by
  unfold DM.cut
  rw [h.unit]
  split
  · exact h
  · split <;> exact h
theorem DM.write_waits {m : DM} (h : m.Plain) (area at_ : Int) (bs : List UInt8) : (m.write area at_ bs).waits.length ≤ m.waits.length + 1 := by
  unfold DM.write
  rw [h.unit]
  split
  · simp [DM.wait]
  · split <;> simp
theorem DM.cut_waits {m : DM} (h : m.Plain) (area n : Int) : (m.cut area n).waits.length ≤ m.waits.length + 1 := by
  unfold DM.cut
  rw [h.unit]
  split
  · simp [DM.wait]
  · split <;> simp
def actD (m : DM) (a : Act17) : DM := if a.kind = 1 then m.cut a.area a.n else m.write a.area a.n a.bs
/-- What holds of a disk behind acts. -/
structure DM.Good (m : DM) (k : Nat) : Prop where
  ok : m.Ok
  plain : m.Plain
  waits : m.waits.length ≤ k
theorem DM.Good.act {m : DM} {k : Nat} (h : m.Good k) (a : Act17) : (actD m a).Good (k + 1) := by
  unfold actD
  split
  · exact ⟨h.ok.cut _ _, h.plain.cut _ _, Nat.le_trans (DM.cut_waits h.plain _ _) (Nat.succ_le_succ h.waits)⟩
  · exact ⟨h.ok.write _ _ _, h.plain.write _ _ _, Nat.le_trans (DM.write_waits h.plain _ _ _) (Nat.succ_le_succ h.waits)⟩

theorem DM.Plain.sync {m : DM} (h : m.Plain) : m.sync = m.flush := by unfold DM.sync; rw [h.dead, h.unit]; rfl
theorem DM.Good.sync {m : DM} {k : Nat} (h : m.Good k) : m.sync.Good 0 ∧ m.sync.waits = [] ∧ ∀ i, i < 3 → m.sync.b i = m.sync.b (3 + i) := by
  refine ⟨⟨h.ok.sync, ?_, ?_⟩, ?_, fun i hi => ?_⟩
  · rw [h.plain.sync]; exact h.plain
  · rw [h.plain.sync]; exact Nat.le_refl _
  · rw [h.plain.sync]; rfl
  · rw [h.plain.sync]
    show (if i < 3 then _ else _) = (if 3 + i < 3 then _ else _)
    rw [if_pos hi, if_neg (by omega)]
/-- A disk on which nothing waits keeps all. -/
theorem DM.crash_keeps {m : DM} (hw : m.waits = []) (hb : ∀ i, i < 3 → m.b i = m.b (3 + i)) (kept s torn : Int) {i : Nat} (hi : i < 3) : (m.crash kept s torn).b (3 + i) = m.b (3 + i) ∧ (m.crash kept s torn).b i = m.b (3 + i) := by
  have h1 : (m.crash kept s torn).b (3 + i) = m.b i := by
    unfold DM.crash
    rw [hw]
    show (if 3 + i < 3 then m.b (3 + i) else m.b (3 + i - 3)) = _
    rw [if_neg (by omega), Nat.add_sub_cancel_left]
  have h2 : (m.crash kept s torn).b i = m.b i := by
    unfold DM.crash
    rw [hw]
    show (if i < 3 then m.b i else _) = _
    rw [if_pos hi]
  exact ⟨h1.trans (hb i hi), h2.trans (hb i hi)⟩
theorem DM.crash_good {m : DM} (h : m.Ok) (kept s torn : Int) : (m.crash kept s torn).Good 0 := ⟨h.crash _ _ _, ⟨rfl, rfl⟩, Nat.le_refl _⟩
theorem doB_end (L bs : List UInt8) (a : Nat) : doB L ⟨a, L.length, bs, false⟩ = L ++ bs := by
  unfold doB padTo
  rw [if_neg (by show ¬ (false = true); decide)]
  simp
/-- What is written at the end comes back torn, at worst. -/
theorem DM.crash_torn {m : DM} (hp : m.Plain) (hw : m.waits = []) (L bs : List UInt8) (h2 : m.b 2 = L) (he : m.writeE 2 (L.length : Int) bs.length = 0) (kept s torn : Int) :
    ∃ j, j ≤ bs.length ∧ ((m.write 2 (L.length : Int) bs).crash kept s torn).b 5 = L ++ bs.take j := by
  have hW : m.write 2 (L.length : Int) bs = m.wait (DChg.mk 2 L.length bs false) := by
    unfold DM.write
    rw [if_pos he, hp.unit]
    rfl
  have hb2 : (m.wait (DChg.mk 2 L.length bs false)).b 2 = L := by
    show updB m.b (3 + 2) (doB (m.b (3 + 2)) (DChg.mk 2 L.length bs false)) 2 = L
    rw [updB_other _ _ _ _ (by decide), h2]
  have hc : ((m.write 2 (L.length : Int) bs).crash kept s torn).b 5 = crash1 (firstOf kept (m.waits ++ [DChg.mk 2 L.length bs false]).length) s torn 0 (DChg.mk 2 L.length bs false) (m.wait (DChg.mk 2 L.length bs false)).b 2 := by
    rw [hW]
    unfold DM.crash
    show crashTo (firstOf kept (m.waits ++ [DChg.mk 2 L.length bs false]).length) s torn (m.waits ++ [DChg.mk 2 L.length bs false]) (m.wait (DChg.mk 2 L.length bs false)).b (m.waits ++ [DChg.mk 2 L.length bs false]).length 2 = _
    rw [hw]
    rfl
  rw [hc]
  unfold crash1
  split
  · refine ⟨bs.length, Nat.le_refl _, ?_⟩
    rw [updB_same, hb2, doB_end, List.take_length]
  · split
    · refine ⟨min torn.toNat bs.length, Nat.min_le_right _ _, ?_⟩
      rw [updB_same, hb2]
      show doB L ⟨2, L.length, bs.take torn.toNat, false⟩ = _
      rw [doB_end]
      congr 1
      rcases Nat.le_total torn.toNat bs.length with h | h
      · rw [Nat.min_eq_left h]
      · rw [Nat.min_eq_right h, List.take_of_length_le h, List.take_length]
    · exact ⟨0, Nat.zero_le _, by rw [hb2]; simp⟩
theorem DM.end_cases {m : DM} (hp : m.Plain) (L bs : List UInt8) (h5 : m.b 5 = L) : m.writeE 2 (L.length : Int) bs.length = if m.free < bs.length then 26 else 0 := by
  unfold DM.writeE
  have e : (m.b (3 + (2 : Int).toNat)).length = L.length := by show (m.b 5).length = _; rw [h5]
  rw [if_neg (by rw [e]; omega), e, hp.dead]
  have : ((L.length : Int) + (bs.length : Int) - (L.length : Int)) = bs.length := by omega
  rw [this]
  simp
end Go.Proofs.YtgiaifglkecdjaaDoor
