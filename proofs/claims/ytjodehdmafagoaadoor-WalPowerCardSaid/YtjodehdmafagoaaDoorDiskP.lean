/- Layer 17 (disk): what it does, in plain words: areas of bytes, changes that wait. No program in sight. -/
import Derived.Test.YtjodehdmafagoaaDoorBase
namespace Go.Proofs.YtjodehdmafagoaaDoor

structure DChg where
  area : Nat
  pos : Nat
  bytes : List UInt8
  cuts : Bool

/-- An area, long enough for a change. -/
def padTo (l : List UInt8) (n : Nat) : List UInt8 := l ++ List.replicate (n - l.length) 0
/-- An area behind a change. -/
def doB (l : List UInt8) (c : DChg) : List UInt8 :=
  if c.cuts then l.take c.pos else (padTo l (c.pos + c.bytes.length)).take c.pos ++ c.bytes ++ (padTo l (c.pos + c.bytes.length)).drop (c.pos + c.bytes.length)

theorem padTo_length (l : List UInt8) (n : Nat) : (padTo l n).length = max l.length n := by simp [padTo]; omega
theorem doB_length (l : List UInt8) (c : DChg) : (doB l c).length ≤ max l.length (c.pos + c.bytes.length) := by
  unfold doB
  split
  · rw [List.length_take]; omega
  · rw [List.length_append, List.length_append, List.length_take, List.length_drop, padTo_length]; omega
theorem padTo_le (l : List UInt8) (n : Nat) (h : n ≤ l.length) : padTo l n = l := by simp [padTo, show n - l.length = 0 by omega]

/-- Areas 0 to 2 are sure, 3 to 5 are seen. -/
structure DM where
  room : Int
  b : Nat → List UInt8
  waits : List DChg
  armed : Bool
  left : Int
  gone : Bool

def updB (f : Nat → List UInt8) (i : Nat) (x : List UInt8) : Nat → List UInt8 := fun j => if j = i then x else f j
theorem updB_same (f : Nat → List UInt8) (i : Nat) (x : List UInt8) : updB f i x i = x := if_pos rfl
theorem updB_other (f : Nat → List UInt8) (i j : Nat) (x : List UInt8) (h : j ≠ i) : updB f i x j = f j := if_neg h

/-- What a disk holds is small. -/
structure DM.Ok (m : DM) : Prop where
  room0 : 0 ≤ m.room
  room1 : m.room ≤ 1048576
  len : ∀ i, i < 6 → (m.b i).length ≤ 1048576
  wait : ∀ c ∈ m.waits, c.area < 3 ∧ c.pos + c.bytes.length ≤ 1048576
  left0 : 0 ≤ m.left
  left1 : m.left ≤ 9223372036854775807

def DM.free (m : DM) : Int := m.room - ((m.b 3).length : Int) - ((m.b 4).length : Int) - ((m.b 5).length : Int)

/-- A unit is asked for: no more of them? -/
def DM.dead (m : DM) : Bool := m.gone || (m.armed && m.left == 0)
def DM.unit (m : DM) : DM := if m.dead then { m with gone := true } else if m.armed then { m with left := m.left - 1 } else m

def DM.wait (m : DM) (c : DChg) : DM := { m with waits := m.waits ++ [c], b := updB m.b (3 + c.area) (doB (m.b (3 + c.area)) c) }

/-- The error's number of a write; 0: it waits. -/
def DM.writeE (m : DM) (area at_ : Int) (n : Nat) : Nat :=
  if ¬ (0 ≤ area ∧ area < 3) ∨ at_ < 0 ∨ ((m.b (3 + area.toNat)).length : Int) < at_ then 1
  else if m.free < at_ + n - ((m.b (3 + area.toNat)).length : Int) then 26
  else if m.dead then 25 else 0
def DM.write (m : DM) (area at_ : Int) (bs : List UInt8) : DM :=
  if m.writeE area at_ bs.length = 0 then m.unit.wait ⟨area.toNat, at_.toNat, bs, false⟩ else if m.writeE area at_ bs.length = 25 then m.unit else m
def DM.cutE (m : DM) (area n : Int) : Nat :=
  if ¬ (0 ≤ area ∧ area < 3) ∨ n < 0 ∨ ((m.b (3 + area.toNat)).length : Int) < n then 1 else if m.dead then 25 else 0
def DM.cut (m : DM) (area n : Int) : DM :=
  if m.cutE area n = 0 then m.unit.wait ⟨area.toNat, n.toNat, [], true⟩ else if m.cutE area n = 25 then m.unit else m
/-- All that is seen is sure. -/
def DM.flush (m : DM) : DM := { m with b := fun i => if i < 3 then m.b (3 + i) else m.b i, waits := [] }
def DM.sync (m : DM) : DM := if m.dead then m.unit else m.unit.flush

def bitAt (s : Int) (k : Nat) : Bool := s / 2 ^ k % 2 == 1
/-- What a crash does to what is sure, at the i-th change. -/
def crash1 (first : Nat) (s torn : Int) (i : Nat) (c : DChg) (f : Nat → List UInt8) : Nat → List UInt8 :=
  if i < first ∨ (i - first < 63 ∧ bitAt s (i - first) = true) then updB f c.area (doB (f c.area) c)
  else if i = first ∧ c.cuts = false ∧ 0 < torn ∧ c.bytes ≠ [] then updB f c.area (doB (f c.area) { c with bytes := c.bytes.take torn.toNat })
  else f
def crashTo (first : Nat) (s torn : Int) (ws : List DChg) (f : Nat → List UInt8) : Nat → Nat → List UInt8
  | 0 => f
  | k + 1 => match ws[k]? with
    | some c => crash1 first s torn k c (crashTo first s torn ws f k)
    | none => crashTo first s torn ws f k
def firstOf (kept : Int) (n : Nat) : Nat := (max 0 (min kept (n : Int))).toNat
def DM.crash (m : DM) (kept s torn : Int) : DM :=
  let f := crashTo (firstOf kept m.waits.length) s torn m.waits m.b m.waits.length
  { room := m.room, b := fun i => if i < 3 then f i else f (i - 3), waits := [], armed := false, left := 0, gone := false }

theorem DM.Ok.unit {m : DM} (h : m.Ok) : m.unit.Ok := by
  unfold DM.unit
  split
  · exact ⟨h.room0, h.room1, h.len, h.wait, h.left0, h.left1⟩
  · rename_i hd
    split
    · rename_i ha
      simp [DM.dead, ha] at hd
      have := h.left0
      have := h.left1
      exact ⟨h.room0, h.room1, h.len, h.wait, by show 0 ≤ m.left - 1; omega, by show m.left - 1 ≤ _; omega⟩
    · exact h
theorem DM.Ok.wait' {m : DM} (h : m.Ok) {c : DChg} (ha : c.area < 3) (hc : c.pos + c.bytes.length ≤ 1048576) : (m.wait c).Ok := by
  refine ⟨h.room0, h.room1, fun i hi => ?_, fun c' hc' => ?_, h.left0, h.left1⟩
  · show (updB m.b (3 + c.area) _ i).length ≤ _
    by_cases e : i = 3 + c.area
    · subst e
      rw [updB_same]
      have := doB_length (m.b (3 + c.area)) c
      have := h.len (3 + c.area) hi
      omega
    · rw [updB_other _ _ _ _ e]
      exact h.len i hi
  · rcases List.mem_append.1 hc' with hc' | hc'
    · exact h.wait c' hc'
    · rw [List.mem_singleton.1 hc']
      exact ⟨ha, hc⟩
theorem DM.unit_b (m : DM) : m.unit.b = m.b := by
  unfold DM.unit
  split
  · rfl
  · split <;> rfl
theorem DM.unit_waits (m : DM) : m.unit.waits = m.waits := by
  unfold DM.unit
  split
  · rfl
  · split <;> rfl
theorem DM.unit_room (m : DM) : m.unit.room = m.room := by
  unfold DM.unit
  split
  · rfl
  · split <;> rfl
theorem DM.writeE_cases (m : DM) (area at_ : Int) (n : Nat) : m.writeE area at_ n = 0 ∨ m.writeE area at_ n = 1 ∨ m.writeE area at_ n = 25 ∨ m.writeE area at_ n = 26 := by
  unfold DM.writeE
  split
  · simp
  · split
    · simp
    · split <;> simp
theorem DM.Ok.write {m : DM} (h : m.Ok) (area at_ : Int) (bs : List UInt8) : (m.write area at_ bs).Ok := by
  unfold DM.write
  split
  · rename_i h0
    unfold DM.writeE at h0
    split at h0
    · cases h0
    split at h0
    · cases h0
    rename_i h1 h2
    refine h.unit.wait' (by show area.toNat < 3; omega) ?_
    show at_.toNat + bs.length ≤ 1048576
    have h3 := h.room1
    have h4 := h.len 3 (by omega)
    simp only [DM.free] at h2
    have : area = 0 ∨ area = 1 ∨ area = 2 := by omega
    rcases this with rfl | rfl | rfl
    · change ¬ _ < _ + _ - ((m.b 3).length : Int) at h2; omega
    · change ¬ _ < _ + _ - ((m.b 4).length : Int) at h2; omega
    · change ¬ _ < _ + _ - ((m.b 5).length : Int) at h2; omega
  · split
    · exact h.unit
    · exact h
theorem DM.Ok.cut {m : DM} (h : m.Ok) (area n : Int) : (m.cut area n).Ok := by
  unfold DM.cut
  split
  · rename_i h0
    unfold DM.cutE at h0
    split at h0
    · cases h0
    rename_i h1
    have h4 := h.len (3 + area.toNat) (by omega)
    refine h.unit.wait' (by show area.toNat < 3; omega) ?_
    show n.toNat + 0 ≤ 1048576
    omega
  · split
    · exact h.unit
    · exact h
theorem DM.Ok.flush {m : DM} (h : m.Ok) : m.flush.Ok :=
  ⟨h.room0, h.room1, fun i hi => by
    show (if i < 3 then m.b (3 + i) else m.b i).length ≤ _
    split
    · exact h.len _ (by omega)
    · exact h.len _ hi, fun c hc => (by cases hc), h.left0, h.left1⟩
theorem DM.Ok.sync {m : DM} (h : m.Ok) : m.sync.Ok := by
  unfold DM.sync
  split
  · exact h.unit
  · exact h.unit.flush
theorem crash1_len {first : Nat} {s torn : Int} {i : Nat} {c : DChg} {f : Nat → List UInt8} (hc : c.pos + c.bytes.length ≤ 1048576) (hf : ∀ i, i < 6 → (f i).length ≤ 1048576) : ∀ j, j < 6 → (crash1 first s torn i c f j).length ≤ 1048576 := by
  intro j hj
  have up : ∀ c' : DChg, c'.pos + c'.bytes.length ≤ 1048576 → (updB f c'.area (doB (f c'.area) c') j).length ≤ 1048576 := fun c' h' => by
    by_cases e : j = c'.area
    · subst e
      rw [updB_same]
      have := doB_length (f c'.area) c'
      have := hf _ hj
      omega
    · rw [updB_other _ _ _ _ e]
      exact hf j hj
  unfold crash1
  split
  · exact up c hc
  · split
    · exact up { c with bytes := c.bytes.take torn.toNat } (by show c.pos + (c.bytes.take torn.toNat).length ≤ _; rw [List.length_take]; omega)
    · exact hf j hj
theorem crashTo_len {first : Nat} {s torn : Int} {ws : List DChg} {f : Nat → List UInt8} (hw : ∀ c ∈ ws, c.area < 3 ∧ c.pos + c.bytes.length ≤ 1048576) (hf : ∀ i, i < 6 → (f i).length ≤ 1048576) : ∀ k j, j < 6 → (crashTo first s torn ws f k j).length ≤ 1048576 := by
  intro k
  induction k with
  | zero => exact hf
  | succ k ih =>
    intro j hj
    simp only [crashTo]
    cases h : ws[k]? with
    | none => exact ih j hj
    | some c => exact crash1_len (hw c (List.mem_of_getElem? h)).2 ih j hj
theorem DM.Ok.crash {m : DM} (h : m.Ok) (kept s torn : Int) : (m.crash kept s torn).Ok := by
  refine ⟨h.room0, h.room1, fun i hi => ?_, fun c hc => (by cases hc), Int.le_refl _, by show (0 : Int) ≤ _; omega⟩
  show (if i < 3 then crashTo _ _ _ _ _ _ i else crashTo _ _ _ _ _ _ (i - 3)).length ≤ _
  split
  · exact crashTo_len h.wait h.len _ _ hi
  · exact crashTo_len h.wait h.len _ _ (by omega)
end Go.Proofs.YtjodehdmafagoaaDoor
