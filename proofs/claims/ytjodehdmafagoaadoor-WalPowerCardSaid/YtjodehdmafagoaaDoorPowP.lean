/- Layer 18 (wal): a call on a disk on which nothing waits, whatever the power does. In plain words. -/
import Derived.Test.YtjodehdmafagoaaDoorWalK
namespace Go.Proofs.YtjodehdmafagoaaDoor
section
variable {m : DM} {A : Nat → List UInt8} {L : LM}
theorem sync_waits (m : DM) : m.sync.waits.length ≤ m.waits.length := by
  unfold DM.sync
  split
  · rw [m.unit_waits]; exact Nat.le_refl _
  · exact Nat.zero_le _
theorem write_waits1 (m : DM) (a p : Int) (bs : List UInt8) : (m.write a p bs).waits.length ≤ m.waits.length + 1 := by
  unfold DM.write
  split
  · show (m.unit.waits ++ [_]).length ≤ _
    rw [m.unit_waits, List.length_append]; simp
  · split
    · rw [m.unit_waits]; omega
    · omega
theorem cut_waits1 (m : DM) (a n : Int) : (m.cut a n).waits.length ≤ m.waits.length + 1 := by
  unfold DM.cut
  split
  · show (m.unit.waits ++ [_]).length ≤ _
    rw [m.unit_waits, List.length_append]; simp
  · split
    · rw [m.unit_waits]; omega
    · omega
theorem wrM_waits1 (m : DM) (a p : Int) (bs : List UInt8) : (wrM m a p bs).waits.length ≤ m.waits.length + 1 := by
  unfold wrM
  split
  · exact Nat.le_trans (sync_waits _) (write_waits1 _ _ _ _)
  · exact write_waits1 _ _ _ _
theorem clM_waits1 (m : DM) (a : Int) : (clM m a).waits.length ≤ m.waits.length + 1 := by
  unfold clM
  split
  · exact Nat.le_trans (sync_waits _) (cut_waits1 _ _ _)
  · exact cut_waits1 _ _ _
theorem swM_waits3 (m : DM) (a : Int) (bs : List UInt8) : (swM m a bs).waits.length ≤ m.waits.length + 3 := by
  unfold swM
  split
  · split
    · have h1 := clM_waits1 (wrM (clM m a) a 0 bs) 2
      have h2 := wrM_waits1 (clM m a) a 0 bs
      have h3 := clM_waits1 m a
      omega
    · have h2 := wrM_waits1 (clM m a) a 0 bs
      have h3 := clM_waits1 m a
      omega
  · have h3 := clM_waits1 m a
    omega
theorem appM_waits (m : DM) (L : LM) (t : List UInt8) : (L.appM m t).waits.length ≤ m.waits.length + 3 := by
  unfold LM.appM
  split
  · have := wrM_waits1 m 2 (endOf L.recs : Int) (recB L.gen L.recs.length t); omega
  · omega
theorem cpM_waits (m : DM) (L : LM) (t : List UInt8) : (L.cpM m t).waits.length ≤ m.waits.length + 3 := by
  unfold LM.cpM
  split
  · exact swM_waits3 _ _ _
  · omega
theorem DM.Ok.appM (h : m.Ok) (L : LM) (t : List UInt8) : (L.appM m t).Ok := by
  unfold LM.appM
  split
  · exact h.wrM _ _ _
  · exact h
theorem DM.Ok.cpM (h : m.Ok) (L : LM) (t : List UInt8) : (L.cpM m t).Ok := by
  unfold LM.cpM
  split
  · exact h.swM _ _
  · exact h

/-- All that a crash can leave reads as the one or the other. -/
def Either (m : DM) (L L' : LM) : Prop := ∀ kept s torn, ∃ B, (m.crash kept s torn).Is B ∧ (Reads B L ∨ Reads B L')
theorem pow_app (h : m.Is A) (hL : L.On A) (hd : L.dead = false) (t : List UInt8) (ht : t.length ≤ 16384) :
    (L.appE m t = 26 ∧ L.appM m t = m ∧ L.app m t = L) ∨ (L.appE m t = 0 ∧ (∃ B, (L.appM m t).Is B ∧ (L.with t).On B) ∧ L.app m t = L.with t) ∨ (L.appE m t = 25 ∧ Either (L.appM m t) L (L.with t)) := by
  rcases room_cases (m := m) hd ht with hr | hr
  · rcases append_law h hL t hr with ⟨h0, B, b1, b2, b3, _⟩ | ⟨h25, _, hB⟩
    · exact .inr (.inl ⟨h0, ⟨B, b1, b3⟩, b2⟩)
    · exact .inr (.inr ⟨h25, hB⟩)
  · left
    unfold LM.appE LM.appM LM.app
    rw [if_neg (by omega), if_neg (by omega), if_neg (by omega)]
    exact ⟨hr, rfl, rfl⟩
theorem pow_cp (h : m.Is A) (hL : L.On A) (hd : L.dead = false) (t : List UInt8) :
    (L.cpE m t = 26 ∧ L.cpM m t = m ∧ L.cp m t = L) ∨ (L.cpE m t = 0 ∧ (∃ B, (L.cpM m t).Is B ∧ (L.new t).On B) ∧ L.cp m t = L.new t) ∨ (L.cpE m t = 25 ∧ Either (L.cpM m t) L (L.new t)) := by
  rcases space_cases (m := m) (t := t) hd with hr | hr
  · rcases compact_law h hL hL.reads.slot t hr with ⟨h0, B, b1, b2, b3, _⟩ | ⟨h25, _, hB⟩
    · exact .inr (.inl ⟨h0, ⟨B, b1, b3⟩, b2⟩)
    · exact .inr (.inr ⟨h25, hB⟩)
  · left
    unfold LM.cpE LM.cpM LM.cp
    rw [if_neg (by omega), if_neg (by omega), if_neg (by omega)]
    exact ⟨hr, rfl, rfl⟩
end
end Go.Proofs.YtjodehdmafagoaaDoor
