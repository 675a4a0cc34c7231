/- Layer 18 (wal): what stands in areas, in plain words: a snapshot, records; what a reader finds. -/
import Derived.Test.YtfmagnpmjlppiaaGreatDoorWalA
import Derived.Test.YtfmagnpmjlppiaaGreatDoorDiskWr
namespace Go.Proofs.YtfmagnpmjlppiaaGreatDoor

theorem num4_at (n : Nat) (r : List UInt8) (h : n < 4294967296) : numAt (num4 n ++ r) 0 = n := by
 simp [numAt, num4]
 omega
theorem numAt_drop (l : List UInt8) (i : Nat) : numAt l i = numAt (l.drop i) 0 := by
 simp [numAt, List.getD_eq_getElem?_getD, List.getElem?_drop]
theorem numAt_skip (a b : List UInt8) (i : Nat) (h : a.length = i) : numAt (a ++ b) i = numAt b 0 := by
 rw [numAt_drop, ← h, List.drop_left]
theorem take_num4 (l : List UInt8) (h : 4 ≤ l.length) : num4 (numAt l 0) = l.take 4 := by
 match l, h with
 | a :: b :: c :: d :: r, _ =>
  have ha := a.toNat_lt
  have hb := b.toNat_lt
  have hc := c.toNat_lt
  have hd := d.toNat_lt
  simp only [num4, numAt, List.getD_cons_zero, List.getD_cons_succ, Nat.zero_add, List.take_succ_cons, List.take_zero, List.cons.injEq, and_true]
  refine ⟨?_, ?_, ?_, ?_⟩ <;> (apply UInt8.toNat_inj.1; simp only [UInt8.toNat_ofNat']; omega)
theorem num4_inj {n m : Nat} {r s : List UInt8} (hn : n < 4294967296) (hm : m < 4294967296) (h : num4 n ++ r = num4 m ++ s) : n = m := by
 rw [← num4_at n r hn, h, num4_at m s hm]
theorem drop4 (n : Nat) (r : List UInt8) : (num4 n ++ r).drop 4 = r := rfl
theorem numAt_lt (l : List UInt8) (i : Nat) : numAt l i < 4294967296 := by
 unfold numAt
 have h0 := (l.getD i 0).toNat_lt
 have h1 := (l.getD (i + 1) 0).toNat_lt
 have h2 := (l.getD (i + 2) 0).toNat_lt
 have h3 := (l.getD (i + 3) 0).toNat_lt
 omega

/-! ### records -/
theorem nextB_rec (gen n : Nat) (t r : List UInt8) (hg : gen < 4294967296) (hn : n < 4294967296) (ht : t.length ≤ 16384) : nextB (recB gen n t ++ r) gen n = some t := by
 have e : recB gen n t ++ r = num4 gen ++ (num4 n ++ (num4 t.length ++ (sumB gen n t ++ (t ++ r)))) := by simp [recB]
 have hl := recB_length gen n t
 have e0 : numAt (recB gen n t ++ r) 0 = gen := by rw [e, num4_at _ _ hg]
 have e4 : numAt (recB gen n t ++ r) 4 = n := by rw [e, numAt_skip _ _ 4 rfl, num4_at _ _ hn]
 have e8 : numAt (recB gen n t ++ r) 8 = t.length := by rw [e, ← List.append_assoc, numAt_skip _ _ 8 rfl, num4_at _ _ (by omega)]
 have d12 : ((recB gen n t ++ r).drop 12).take 8 = sumB gen n t := by
  rw [e, ← List.append_assoc, ← List.append_assoc, show (12 : Nat) = ((num4 gen ++ num4 n) ++ num4 t.length).length from rfl, List.drop_left, show (8 : Nat) = (sumB gen n t).length from (sumB_length ..).symm, List.take_left]
 have d20 : ((recB gen n t ++ r).drop 20).take t.length = t := by
  rw [e, ← List.append_assoc, ← List.append_assoc, ← List.append_assoc, show (20 : Nat) = (((num4 gen ++ num4 n) ++ num4 t.length) ++ sumB gen n t).length by rw [List.length_append, sumB_length]; rfl, List.drop_left, List.take_left]
 unfold nextB
 rw [e0, e4, e8, d12, d20, if_neg (by rw [List.length_append, hl]; simp; omega), if_neg (by rw [List.length_append, hl]; omega), if_pos rfl]

theorem nextB_some {b : List UInt8} {gen n : Nat} {t : List UInt8} (h : nextB b gen n = some t) : t.length ≤ 16384 ∧ gen < 4294967296 ∧ n < 4294967296 ∧ ∃ r, b = recB gen n t ++ r := by
 unfold nextB at h
 split at h
 ·cases h
 rename_i h1
 split at h
 ·cases h
 rename_i h2
 split at h
 ·rename_i h3
  injection h with h
  have h20 : ¬ b.length < 20 := fun x => h1 (.inl x)
  have g0 : numAt b 0 = gen := Decidable.not_not.1 fun x => h1 (.inr (.inl x))
  have g4 : numAt b 4 = n := Decidable.not_not.1 fun x => h1 (.inr (.inr x))
  have hl : t.length = numAt b 8 := by rw [← h, List.length_take, List.length_drop]; omega
  refine ⟨by omega, by rw [← g0]; exact numAt_lt _ _, by rw [← g4]; exact numAt_lt _ _, b.drop (20 + t.length), ?_⟩
  have p0 : num4 gen = b.take 4 := by rw [← g0, take_num4 _ (by omega)]
  have p4 : num4 n = (b.drop 4).take 4 := by rw [← g4, numAt_drop, take_num4 _ (by rw [List.length_drop]; omega)]
  have p8 : num4 t.length = (b.drop 8).take 4 := by rw [hl, numAt_drop, take_num4 _ (by rw [List.length_drop]; omega)]
  have p12 : sumB gen n t = (b.drop 12).take 8 := by rw [← h]; exact h3
  have p20 : t = (b.drop 20).take t.length := by rw [hl, h]
  unfold recB
  rw [p0, p4, p8, p12]
  conv => rhs; arg 1; arg 2; rw [p20]
  have q (i k : Nat) : (b.drop i).take k ++ b.drop (i + k) = b.drop i := by rw [← List.drop_drop, List.take_append_drop]
  simp only [List.append_assoc]
  rw [q 20 t.length, q 12 8, q 8 4, q 4 4, List.take_append_drop]
 ·cases h

theorem recB_split {gen n : Nat} {t t' r r' : List UInt8} (ht : t.length ≤ 16384) (ht' : t'.length ≤ 16384) (h : recB gen n t ++ r = recB gen n t' ++ r') : t = t' ∧ r = r' := by
 have e (t r : List UInt8) : recB gen n t ++ r = (num4 gen ++ num4 n) ++ (num4 t.length ++ (sumB gen n t ++ (t ++ r))) := by simp [recB]
 have h8 := h
 rw [e, e, List.append_cancel_left_eq] at h8
 have hl := num4_inj (by omega) (by omega) h8
 rw [hl, List.append_cancel_left_eq] at h8
 have hs := List.append_inj h8 (by rw [sumB_length, sumB_length])
 exact List.append_inj hs.2 hl
theorem nextB_torn {gen n j : Nat} {t : List UInt8} (ht : t.length ≤ 16384) (hj : j < (recB gen n t).length) : nextB ((recB gen n t).take j) gen n = none := by
 cases h : nextB ((recB gen n t).take j) gen n with
 | none => rfl
 | some t' =>
  obtain ⟨ht', _, _, r, e⟩ := nextB_some h
  have h2 : recB gen n t ++ [] = recB gen n t' ++ (r ++ (recB gen n t).drop j) := by
   rw [← List.append_assoc, ← e, List.take_append_drop, List.append_nil]
  have h3 := (recB_split ht ht' h2).2
  have h4 := congrArg List.length h3
  rw [List.length_append, List.length_drop] at h4
  simp at h4
  omega
theorem nextB_other {gen gen' n n' : Nat} {t r : List UInt8} (h : gen' ≠ gen) (hg : gen < 4294967296) (hg' : gen' < 4294967296) : nextB (recB gen n t ++ r) gen' n' = none := by
 cases h2 : nextB (recB gen n t ++ r) gen' n' with
 | none => rfl
 | some t' =>
  obtain ⟨_, _, _, r', e⟩ := nextB_some h2
  unfold recB at e
  simp only [List.append_assoc] at e
  exact absurd (num4_inj hg hg' e).symm h
theorem nextB_nil (gen n : Nat) : nextB [] gen n = none := by unfold nextB; rw [if_pos (.inl (by decide))]

/-- Records, one behind the other. -/
def recsB (gen : Nat) : Nat → List (List UInt8) → List UInt8
 | _, [] => []
 | n, t :: ts => recB gen n t ++ recsB gen (n + 1) ts
theorem recsB_snoc (gen : Nat) (t : List UInt8) : ∀ (ts : List (List UInt8)) (n : Nat), recsB gen n (ts ++ [t]) = recsB gen n ts ++ recB gen (n + ts.length) t := by
 intro ts
 induction ts with
 | nil => intro n; simp [recsB]
 | cons a l ih =>
  intro n
  rw [List.cons_append, recsB, recsB, ih (n + 1), List.append_assoc, show n + 1 + l.length = n + (a :: l).length by simp; omega]
/-- Where records end. -/
def endOf (ts : List (List UInt8)) : Nat := (ts.map fun t => 20 + t.length).sum
theorem endOf_snoc (ts : List (List UInt8)) (t : List UInt8) : endOf (ts ++ [t]) = endOf ts + (20 + t.length) := by simp [endOf]
theorem recsB_length (gen : Nat) : ∀ (ts : List (List UInt8)) (n : Nat), (recsB gen n ts).length = endOf ts := by
 intro ts
 induction ts with
 | nil => intro n; rfl
 | cons a l ih => intro n; rw [recsB, List.length_append, ih, recB_length]; simp [endOf]
theorem endOf_ge (ts : List (List UInt8)) : 20 * ts.length ≤ endOf ts := by
 induction ts with
 | nil => simp [endOf]
 | cons a l ih => simp [endOf] at *; omega
def Shorts (ts : List (List UInt8)) : Prop := ∀ t ∈ ts, t.length ≤ 16384
theorem Shorts.snoc {ts : List (List UInt8)} {t : List UInt8} (h : Shorts ts) (ht : t.length ≤ 16384) : Shorts (ts ++ [t]) := fun x hx => by
 rcases List.mem_append.1 hx with hx | hx
 ·exact h x hx
 ·rw [List.mem_singleton.1 hx]; exact ht
/-- What is read is what stands there. -/
theorem recs_unique {gen : Nat} (hg : gen < 4294967296) : ∀ (ts ts' : List (List UInt8)) (n : Nat) (r r' : List UInt8), n + ts.length < 4294967296 → n + ts'.length < 4294967296 → Shorts ts → Shorts ts' → recsB gen n ts ++ r = recsB gen n ts' ++ r' →
  nextB r gen (n + ts.length) = none → nextB r' gen (n + ts'.length) = none → ts = ts' ∧ r = r' := by
 intro ts
 induction ts with
 | nil =>
  intro ts' n r r' hn hn' hs hs' e h h'
  cases ts' with
  | nil => exact ⟨rfl, by simpa [recsB] using e⟩
  | cons a l =>
   exfalso
   rw [recsB, List.nil_append, recsB, List.append_assoc] at e
   rw [e] at h
   rw [show n + ([] : List (List UInt8)).length = n from rfl, nextB_rec gen n a _ hg (by omega) (hs' a (by simp))] at h
   cases h
 | cons t l ih =>
  intro ts' n r r' hn hn' hs hs' e h h'
  simp only [List.length_cons] at hn
  cases ts' with
  | nil =>
   exfalso
   rw [recsB, recsB, List.nil_append, List.append_assoc] at e
   rw [← e] at h'
   rw [show n + ([] : List (List UInt8)).length = n from rfl, nextB_rec gen n t _ hg (by omega) (hs t (by simp))] at h'
   cases h'
  | cons a l' =>
   simp only [List.length_cons] at hn'
   rw [recsB, recsB, List.append_assoc, List.append_assoc] at e
   obtain ⟨rfl, e2⟩ := recB_split (hs t (by simp)) (hs' a (by simp)) e
   obtain ⟨rfl, rfl⟩ := ih l' (n + 1) r r' (by omega) (by omega) (fun x hx => hs x (by simp [hx])) (fun x hx => hs' x (by simp [hx])) e2 (by rw [show n + 1 + l.length = n + (t :: l).length by simp; omega]; exact h) (by rw [show n + 1 + l'.length = n + (t :: l').length by simp; omega]; exact h')
   exact ⟨rfl, rfl⟩

/-! ### snapshots -/
/-- The good snapshot of bytes. -/
def goodB (b : List UInt8) : Option (Nat × List UInt8) :=
 if b.length < 16 then none
 else if numAt b 0 < 1 ∨ 2147483647 < numAt b 0 ∨ b.length - 16 < numAt b 4 then none
 else if sumB (numAt b 0) (numAt b 4) ((b.drop 16).take (numAt b 4)) = (b.drop 8).take 8 then some (numAt b 0, (b.drop 16).take (numAt b 4)) else none
theorem goodB_nil : goodB [] = none := by unfold goodB; rw [if_pos (by decide)]
theorem goodB_snap (gen : Nat) (t r : List UInt8) (h1 : 1 ≤ gen) (h2 : gen ≤ 2147483647) (ht : t.length < 4294967296) : goodB (snapB gen t ++ r) = some (gen, t) := by
 have e : snapB gen t ++ r = num4 gen ++ (num4 t.length ++ (sumB gen t.length t ++ (t ++ r))) := by simp [snapB]
 have hl := snapB_length gen t
 have e0 : numAt (snapB gen t ++ r) 0 = gen := by rw [e, num4_at _ _ (by omega)]
 have e4 : numAt (snapB gen t ++ r) 4 = t.length := by rw [e, numAt_skip _ _ 4 rfl, num4_at _ _ ht]
 have d8 : ((snapB gen t ++ r).drop 8).take 8 = sumB gen t.length t := by
  rw [e, ← List.append_assoc, show ((num4 gen ++ num4 t.length) ++ (sumB gen t.length t ++ (t ++ r))).drop 8 = sumB gen t.length t ++ (t ++ r) from List.drop_left' rfl, List.take_left' (sumB_length ..)]
 have d16 : ((snapB gen t ++ r).drop 16).take t.length = t := by
  rw [e, ← List.append_assoc, ← List.append_assoc, List.drop_left' (by rw [List.length_append, sumB_length]; rfl), List.take_left]
 unfold goodB
 rw [e0, e4, d8, d16, if_neg (by rw [List.length_append, hl]; omega), if_neg (by rw [List.length_append, hl]; omega), if_pos rfl]
theorem goodB_some {b : List UInt8} {gen : Nat} {t : List UInt8} (h : goodB b = some (gen, t)) : 1 ≤ gen ∧ gen ≤ 2147483647 ∧ t.length < 4294967296 ∧ t.length ≤ b.length ∧ ∃ r, b = snapB gen t ++ r := by
 unfold goodB at h
 split at h
 ·cases h
 rename_i h1
 split at h
 ·cases h
 rename_i h2
 split at h
 ·rename_i h3
  injection h with h
  injection h with g0 h
  have hl : t.length = numAt b 4 := by rw [← h, List.length_take, List.length_drop]; omega
  refine ⟨by omega, by omega, by rw [hl]; exact numAt_lt _ _, by rw [← h, List.length_take, List.length_drop]; omega, b.drop (16 + t.length), ?_⟩
  have p0 : num4 gen = b.take 4 := by rw [← g0, take_num4 _ (by omega)]
  have p4 : num4 t.length = (b.drop 4).take 4 := by rw [hl, numAt_drop, take_num4 _ (by rw [List.length_drop]; omega)]
  have p8 : sumB gen t.length t = (b.drop 8).take 8 := by rw [hl, ← h, ← g0]; exact h3
  have p16 : t = (b.drop 16).take t.length := by rw [hl, h]
  unfold snapB
  rw [p0, p4, p8]
  conv => rhs; arg 1; arg 2; rw [p16]
  have q (i k : Nat) : (b.drop i).take k ++ b.drop (i + k) = b.drop i := by rw [← List.drop_drop, List.take_append_drop]
  simp only [List.append_assoc]
  rw [q 16 t.length, q 8 8, q 4 4, List.take_append_drop]
 ·cases h
theorem goodB_torn {gen j : Nat} {t : List UInt8} (ht : t.length < 4294967296) (hj : j < (snapB gen t).length) : goodB ((snapB gen t).take j) = none := by
 cases h : goodB ((snapB gen t).take j) with
 | none => rfl
 | some x =>
  obtain ⟨gen', t'⟩ := x
  obtain ⟨h1, h2, ht', _, r, e⟩ := goodB_some h
  have h3 : snapB gen t = snapB gen' t' ++ (r ++ (snapB gen t).drop j) := by
   rw [← List.append_assoc, ← e, List.take_append_drop]
  have h4 : t.length = t'.length := by
   have := congrArg (List.drop 4) h3
   unfold snapB at this
   simp only [List.append_assoc] at this
   rw [drop4, drop4] at this
   exact num4_inj ht ht' this
  have h5 := congrArg List.length e
  rw [List.length_take, List.length_append, snapB_length] at h5
  rw [snapB_length] at hj h5
  omega

/-- The snapshot that counts: generation, slot, text. -/
def pickB (a b : List UInt8) : Nat × Nat × List UInt8 :=
 let s0 := match goodB a with
  | some (g, t) => (g, 0, t)
  | none => (0, 1, [])
 match goodB b with
 | some (g, t) => if s0.1 < g then (g, 1, t) else s0
 | none => s0
theorem pickB_le (a b : List UInt8) : (pickB a b).1 ≤ 2147483647 ∧ ((pickB a b).2.1 = 0 ∨ (pickB a b).2.1 = 1) := by
 unfold pickB
 cases ha : goodB a with
 | none =>
  cases hb : goodB b with
  | none => simp
  | some y =>
   have := (goodB_some hb).2.1
   simp only
   split <;> simp
   exact this
 | some x =>
  have h1 := (goodB_some ha).2.1
  cases hb : goodB b with
  | none => simp; exact h1
  | some y =>
   have := (goodB_some hb).2.1
   simp only
   split <;> simp <;> assumption
theorem pickB_text (a b : List UInt8) (k : Nat) (ha : a.length ≤ k) (hb : b.length ≤ k) : (pickB a b).2.2.length ≤ k := by
 unfold pickB
 cases h1 : goodB a with
 | none =>
  cases h2 : goodB b with
  | none => simp
  | some y =>
   have := (goodB_some h2).2.2.2.1
   simp only
   split <;> simp
   omega
 | some x =>
  have t1 := (goodB_some h1).2.2.2.1
  cases h2 : goodB b with
  | none => simp; omega
  | some y =>
   have := (goodB_some h2).2.2.2.1
   simp only
   split <;> simp <;> omega
/-- Slot 0 emptied or half written, slot 1 counts. -/
theorem pick_drop0 {a b a' : List UInt8} {gen : Nat} {t : List UInt8} (h : pickB a b = (gen, 1, t)) (ha : goodB a' = none) : pickB a' b = (gen, 1, t) := by
 unfold pickB at h ⊢
 rw [ha]
 cases h1 : goodB a with
 | none => rw [h1] at h; exact h
 | some x =>
  rw [h1] at h
  cases h2 : goodB b with
  | none => rw [h2] at h; simp at h
  | some y =>
   rw [h2] at h
   simp only at h ⊢
   split at h
   ·rw [if_pos (by have := (goodB_some h2).1; omega)]; exact h
   ·simp at h
theorem pick_drop1 {a b b' : List UInt8} {gen : Nat} {t : List UInt8} (h : pickB a b = (gen, 0, t)) (hb : goodB b' = none) : pickB a b' = (gen, 0, t) := by
 unfold pickB at h ⊢
 rw [hb]
 cases h1 : goodB a with
 | none =>
  rw [h1] at h
  cases h2 : goodB b with
  | none => rw [h2] at h; exact h
  | some y =>
   rw [h2] at h
   simp only at h
   split at h <;> simp at h
 | some x =>
  rw [h1] at h
  cases h2 : goodB b with
  | none => rw [h2] at h; exact h
  | some y =>
   rw [h2] at h
   simp only at h
   split at h
   ·simp at h
   ·exact h
theorem pick_new0 {a b a' : List UInt8} {gen : Nat} {t t' : List UInt8} (h : pickB a b = (gen, 1, t)) (ha : goodB a' = some (gen + 1, t')) : pickB a' b = (gen + 1, 0, t') := by
 unfold pickB at h ⊢
 rw [ha]
 cases h1 : goodB a with
 | none =>
  rw [h1] at h
  cases h2 : goodB b with
  | none => rfl
  | some y =>
   rw [h2] at h
   simp only at h ⊢
   split at h
   ·injection h with h3 h4; rw [if_neg (by omega)]
   ·injection h with h3 h4; rw [if_neg (by omega)]
 | some x =>
  rw [h1] at h
  cases h2 : goodB b with
  | none => rfl
  | some y =>
   rw [h2] at h
   simp only at h ⊢
   split at h
   ·injection h with h3 h4; rw [if_neg (by omega)]
   ·simp at h
theorem pick_new1 {a b b' : List UInt8} {gen : Nat} {t t' : List UInt8} (h : pickB a b = (gen, 0, t)) (hb : goodB b' = some (gen + 1, t')) : pickB a b' = (gen + 1, 1, t') := by
 unfold pickB at h ⊢
 rw [hb]
 cases h1 : goodB a with
 | none =>
  rw [h1] at h
  cases h2 : goodB b with
  | none => rw [h2] at h; simp at h
  | some y =>
   rw [h2] at h
   simp only at h
   split at h <;> simp at h
 | some x =>
  rw [h1] at h
  have e : x.1 = gen := by
   cases h2 : goodB b with
   | none => rw [h2] at h; injection h
   | some y =>
    rw [h2] at h
    simp only at h
    split at h
    ·simp at h
    ·injection h
  simp only
  rw [if_pos (by omega)]
end Go.Proofs.YtfmagnpmjlppiaaGreatDoor

/- Layer 18 (wal): what a log does to a disk, in plain words; wherever the power goes, a reader finds the old or the new. -/
namespace Go.Proofs.YtfmagnpmjlppiaaGreatDoor

/-! ### writing and cutting, with a sync behind -/
def wrE (m : DM) (area at_ : Int) (bs : List UInt8) : Nat := if m.writeE area at_ bs.length = 0 then (if (m.write area at_ bs).dead = true then 25 else 0) else m.writeE area at_ bs.length
def wrM (m : DM) (area at_ : Int) (bs : List UInt8) : DM := if m.writeE area at_ bs.length = 0 then (m.write area at_ bs).sync else m.write area at_ bs
def clE (m : DM) (area : Int) : Nat := if m.cutE area 0 = 0 then (if (m.cut area 0).dead = true then 25 else 0) else m.cutE area 0
def clM (m : DM) (area : Int) : DM := if m.cutE area 0 = 0 then (m.cut area 0).sync else m.cut area 0
def swE (m : DM) (slot : Int) (bs : List UInt8) : Nat :=
 if clE m slot = 0 then (if wrE (clM m slot) slot 0 bs = 0 then clE (wrM (clM m slot) slot 0 bs) 2 else wrE (clM m slot) slot 0 bs) else clE m slot
def swM (m : DM) (slot : Int) (bs : List UInt8) : DM :=
 if clE m slot = 0 then (if wrE (clM m slot) slot 0 bs = 0 then clM (wrM (clM m slot) slot 0 bs) 2 else wrM (clM m slot) slot 0 bs) else clM m slot

theorem DM.Ok.wrM {m : DM} (h : m.Ok) (area at_ : Int) (bs : List UInt8) : (wrM m area at_ bs).Ok := by
 unfold Go.Proofs.YtfmagnpmjlppiaaGreatDoor.wrM
 split
 ·exact (h.write _ _ _).sync
 ·exact h.write _ _ _
theorem DM.Ok.clM {m : DM} (h : m.Ok) (area : Int) : (clM m area).Ok := by
 unfold Go.Proofs.YtfmagnpmjlppiaaGreatDoor.clM
 split
 ·exact (h.cut _ _).sync
 ·exact h.cut _ _
theorem DM.Ok.swM {m : DM} (h : m.Ok) (slot : Int) (bs : List UInt8) : (swM m slot bs).Ok := by
 unfold Go.Proofs.YtfmagnpmjlppiaaGreatDoor.swM
 split
 ·split
  ·exact ((h.clM _).wrM _ _ _).clM _
  ·exact (h.clM _).wrM _ _ _
 ·exact h.clM _

/-! ### a disk on which nothing waits -/
structure DM.Is (m : DM) (A : Nat → List UInt8) : Prop where
 ok : m.Ok
 gone : m.gone = false
 waits : m.waits = []
 sure : ∀ i, i < 3 → m.b i = A i
 seen : ∀ i, i < 3 → m.b (3 + i) = A i
def After (A : Nat → List UInt8) (c : DChg) : Nat → List UInt8 := updB A c.area (doB (A c.area) c)
/-- What a crash can leave of a change. -/
def Torn (A B : Nat → List UInt8) (c : DChg) : Prop :=
 (∀ i, i < 3 → B i = A i) ∨ (∀ i, i < 3 → B i = After A c i) ∨ (c.cuts = false ∧ ∃ j, ∀ i, i < 3 → B i = After A { c with bytes := c.bytes.take j } i)

theorem DM.unit_armed (m : DM) : m.unit.armed = m.armed := by
 unfold DM.unit
 split
 ·rfl
 ·split <;> rfl
theorem DM.sync_armed (m : DM) : m.sync.armed = m.armed := by
 unfold DM.sync
 split
 ·exact m.unit_armed
 ·exact m.unit_armed
theorem DM.sync_room (m : DM) : m.sync.room = m.room := by
 unfold DM.sync
 split
 ·exact m.unit_room
 ·exact m.unit_room
theorem DM.unit_gone {m : DM} (h : m.dead = false) : m.unit.gone = false := by
 have hg : m.gone = false := by unfold DM.dead at h; cases hh : m.gone <;> simp [hh] at h ⊢
 unfold DM.unit
 rw [h]
 split
 ·simp_all
 ·split <;> exact hg
theorem DM.crash_b (m : DM) (kept s torn : Int) {i : Nat} (hi : i < 3) : (m.crash kept s torn).b i = crashTo (firstOf kept m.waits.length) s torn m.waits m.b m.waits.length i ∧ (m.crash kept s torn).b (3 + i) = crashTo (firstOf kept m.waits.length) s torn m.waits m.b m.waits.length i := by
 refine ⟨?_, ?_⟩
 ·show (if i < 3 then _ else _) = _
  rw [if_pos hi]
 ·show (if 3 + i < 3 then _ else crashTo _ _ _ _ _ _ (3 + i - 3)) = _
  rw [if_neg (by omega), Nat.add_sub_cancel_left]
/-- A disk on which nothing waits keeps all. -/
theorem DM.crash_none {m : DM} {A : Nat → List UInt8} (hok : m.Ok) (hw : m.waits = []) (hs : ∀ i, i < 3 → m.b i = A i) (kept s torn : Int) : (m.crash kept s torn).Is A := by
 refine ⟨hok.crash _ _ _, rfl, rfl, fun i hi => ?_, fun i hi => ?_⟩
 ·rw [(m.crash_b kept s torn hi).1, hw]; exact hs i hi
 ·rw [(m.crash_b kept s torn hi).2, hw]; exact hs i hi
theorem DM.crash_one {m : DM} {A : Nat → List UInt8} (hok : m.Ok) (c : DChg) (hw : m.waits = [c]) (hs : ∀ i, i < 3 → m.b i = A i) (kept s torn : Int) : ∃ B, (m.crash kept s torn).Is B ∧ Torn A B c := by
 refine ⟨fun i => (m.crash kept s torn).b i, ⟨hok.crash _ _ _, rfl, rfl, fun i hi => rfl, fun i hi => by rw [(m.crash_b kept s torn hi).1, (m.crash_b kept s torn hi).2]⟩, ?_⟩
 have e : ∀ i, i < 3 → (m.crash kept s torn).b i = crash1 (firstOf kept 1) s torn 0 c m.b i := fun i hi => by
  rw [(m.crash_b kept s torn hi).1, hw]; rfl
 have up : ∀ c' : DChg, c'.area = c.area → ∀ i, i < 3 → updB m.b c'.area (doB (m.b c'.area) c') i = After A c' i := fun c' h' i hi => by
  unfold After
  by_cases e : i = c'.area
  ·subst e; rw [updB_same, updB_same, hs _ hi]
  ·rw [updB_other _ _ _ _ e, updB_other _ _ _ _ e, hs i hi]
 unfold crash1 at e
 by_cases h1 : 0 < firstOf kept 1 ∨ (0 - firstOf kept 1 < 63 ∧ bitAt s (0 - firstOf kept 1) = true)
 ·refine .inr (.inl fun i hi => ?_)
  show (m.crash kept s torn).b i = _
  rw [e i hi, if_pos h1, up c rfl i hi]
 ·by_cases h2 : 0 = firstOf kept 1 ∧ c.cuts = false ∧ 0 < torn ∧ c.bytes ≠ []
  ·refine .inr (.inr ⟨h2.2.1, torn.toNat, fun i hi => ?_⟩)
   show (m.crash kept s torn).b i = _
   rw [e i hi, if_neg h1, if_pos h2, ← up { c with bytes := c.bytes.take torn.toNat } rfl i hi]
  ·refine .inl fun i hi => ?_
   show (m.crash kept s torn).b i = _
   rw [e i hi, if_neg h1, if_neg h2, hs i hi]

theorem DM.Is.unit {m : DM} {A : Nat → List UInt8} (h : m.Is A) (hd : m.dead = false) : m.unit.Is A :=
 ⟨h.ok.unit, DM.unit_gone hd, by rw [m.unit_waits]; exact h.waits, by rw [m.unit_b]; exact h.sure, by rw [m.unit_b]; exact h.seen⟩
theorem DM.Is.downed {m : DM} {A : Nat → List UInt8} (h : m.Is A) (kept s torn : Int) : (m.unit.crash kept s torn).Is A :=
 DM.crash_none h.ok.unit (by rw [m.unit_waits]; exact h.waits) (by rw [m.unit_b]; exact h.sure) _ _ _
/-- One change, and a sync behind it. -/
theorem DM.Is.step {m : DM} {A : Nat → List UInt8} (h : m.Is A) (c : DChg) (ha : c.area < 3) (hc : c.pos + c.bytes.length ≤ 1048576) :
  ((m.wait c).dead = false → (m.wait c).sync.Is (After A c)) ∧ ((m.wait c).dead = true → ∀ kept s torn, ∃ B, ((m.wait c).sync.crash kept s torn).Is B ∧ Torn A B c) := by
 have hok := h.ok.wait' ha hc
 have hs : ∀ i, i < 3 → (m.wait c).b i = A i := fun i hi => by
  show updB m.b (3 + c.area) _ i = _
  rw [updB_other _ _ _ _ (by omega)]
  exact h.sure i hi
 have hn : ∀ i, i < 3 → (m.wait c).b (3 + i) = After A c i := fun i hi => by
  show updB m.b (3 + c.area) _ (3 + i) = _
  unfold After
  by_cases e : i = c.area
  ·subst e; rw [updB_same, updB_same, h.seen _ hi]
  ·rw [updB_other _ _ _ _ (by omega), updB_other _ _ _ _ e, h.seen i hi]
 have hw : (m.wait c).waits = [c] := by show m.waits ++ [c] = _; rw [h.waits]; rfl
 generalize m.wait c = m1 at *
 refine ⟨fun hd => ?_, fun hd kept s torn => ?_⟩
 ·refine ⟨hok.sync, ?_, ?_, fun i hi => ?_, fun i hi => ?_⟩
  ·unfold DM.sync; rw [hd]; exact DM.unit_gone hd
  ·unfold DM.sync; rw [hd]; rfl
  ·unfold DM.sync; rw [hd]
   show (if i < 3 then m1.unit.b (3 + i) else _) = _
   rw [if_pos hi, m1.unit_b]; exact hn i hi
  ·unfold DM.sync; rw [hd]
   show (if 3 + i < 3 then _ else m1.unit.b (3 + i)) = _
   rw [if_neg (by omega), m1.unit_b]; exact hn i hi
 ·have e : m1.sync = m1.unit := by unfold DM.sync; rw [hd]; rfl
  rw [e]
  exact DM.crash_one hok.unit c (by rw [m1.unit_waits]; exact hw) (by rw [m1.unit_b]; exact hs) _ _ _

theorem DM.wait_armed (m : DM) (c : DChg) : (m.wait c).armed = m.armed := rfl
theorem DM.dead_plain {m : DM} (h : m.armed = false) (hg : m.gone = false) : m.dead = false := by unfold DM.dead; rw [h, hg]; rfl
theorem DM.Is.dead_armed {m : DM} {A : Nat → List UInt8} (h : m.Is A) (hd : m.dead = true) : m.armed = true := by
 unfold DM.dead at hd
 rw [h.gone] at hd
 cases ha : m.armed
 ·rw [ha] at hd; cases hd
 ·rfl
def Broken (m : DM) (A : Nat → List UInt8) (c : DChg) : Prop := ∀ kept s torn, ∃ B, (m.crash kept s torn).Is B ∧ Torn A B c
theorem DM.Is.wr {m : DM} {A : Nat → List UInt8} (h : m.Is A) (a : Nat) (ha : a < 3) (p : Nat) (hp : (A a).length = p) (bs : List UInt8) (hf : (bs.length : Int) ≤ m.free) :
  (wrE m a p bs = 0 ∧ (wrM m a p bs).Is (After A ⟨a, p, bs, false⟩) ∧ (wrM m a p bs).armed = m.armed ∧ (wrM m a p bs).room = m.room) ∨ (wrE m a p bs = 25 ∧ m.armed = true ∧ Broken (wrM m a p bs) A ⟨a, p, bs, false⟩) := by
 have hl : (m.b (3 + a)).length = p := by rw [h.seen a ha, hp]
 have eE : m.writeE a p bs.length = if m.dead then 25 else 0 := by
  unfold DM.writeE
  rw [if_neg (by rw [Int.toNat_natCast, hl]; omega), if_neg (by rw [Int.toNat_natCast, hl]; omega)]
 have hb : p + bs.length ≤ 1048576 := by
  have h1 := h.ok.room1
  unfold DM.free at hf
  have : a = 0 ∨ a = 1 ∨ a = 2 := by omega
  rcases this with rfl | rfl | rfl
  ·change (m.b 3).length = p at hl; omega
  ·change (m.b 4).length = p at hl; omega
  ·change (m.b 5).length = p at hl; omega
 unfold wrE wrM
 by_cases hd : m.dead = true
 ·right
  rw [hd, if_pos rfl] at eE
  have eM : m.write a p bs = m.unit := by unfold DM.write; rw [eE]; rfl
  rw [eE, eM]
  refine ⟨rfl, h.dead_armed hd, fun kept s torn => ⟨A, h.downed _ _ _, .inl fun i _ => rfl⟩⟩
 ·have hd := Bool.eq_false_iff.2 hd
  rw [hd, if_neg (by decide)] at eE
  have eM : m.write a p bs = m.unit.wait ⟨a, p, bs, false⟩ := by
   unfold DM.write
   rw [eE, if_pos rfl, Int.toNat_natCast, Int.toNat_natCast]
  have hS := (h.unit hd).step ⟨a, p, bs, false⟩ ha hb
  have hA : (m.unit.wait ⟨a, p, bs, false⟩).sync.armed = m.armed := by rw [DM.sync_armed, DM.wait_armed, DM.unit_armed]
  have hR : (m.unit.wait ⟨a, p, bs, false⟩).sync.room = m.room := by rw [DM.sync_room]; exact m.unit_room
  have hA' : (m.unit.wait ⟨a, p, bs, false⟩).armed = m.armed := by rw [DM.wait_armed, DM.unit_armed]
  have hG : (m.unit.wait ⟨a, p, bs, false⟩).gone = false := DM.unit_gone hd
  rw [eE, eM, if_pos rfl, if_pos rfl]
  by_cases h1 : (m.unit.wait ⟨a, p, bs, false⟩).dead = true
  ·right
   rw [if_pos h1]
   refine ⟨rfl, ?_, hS.2 h1⟩
   cases ha : m.armed
   ·rw [DM.dead_plain (hA'.trans ha) hG] at h1; cases h1
   ·rfl
  ·left
   rw [if_neg h1]
   exact ⟨rfl, hS.1 (Bool.eq_false_iff.2 h1), hA, hR⟩
theorem DM.Is.cl {m : DM} {A : Nat → List UInt8} (h : m.Is A) (a : Nat) (ha3 : a < 3) :
  (clE m a = 0 ∧ (clM m a).Is (After A ⟨a, 0, [], true⟩) ∧ (clM m a).armed = m.armed ∧ (clM m a).room = m.room) ∨ (clE m a = 25 ∧ m.armed = true ∧ Broken (clM m a) A ⟨a, 0, [], true⟩) := by
 have eE : m.cutE a 0 = if m.dead then 25 else 0 := by
  unfold DM.cutE
  rw [if_neg (by omega)]
 unfold clE clM
 by_cases hd : m.dead = true
 ·right
  rw [hd, if_pos rfl] at eE
  have eM : m.cut a 0 = m.unit := by unfold DM.cut; rw [eE]; rfl
  rw [eE, eM]
  refine ⟨rfl, h.dead_armed hd, fun kept s torn => ⟨A, h.downed _ _ _, .inl fun i _ => rfl⟩⟩
 ·have hd := Bool.eq_false_iff.2 hd
  rw [hd, if_neg (by decide)] at eE
  have eM : m.cut a 0 = m.unit.wait ⟨a, 0, [], true⟩ := by
   unfold DM.cut
   rw [eE, if_pos rfl, Int.toNat_natCast]
   rfl
  have hS := (h.unit hd).step ⟨a, 0, [], true⟩ ha3 (by show 0 + 0 ≤ _; omega)
  have hA : (m.unit.wait ⟨a, 0, [], true⟩).sync.armed = m.armed := by rw [DM.sync_armed, DM.wait_armed, DM.unit_armed]
  have hR : (m.unit.wait ⟨a, 0, [], true⟩).sync.room = m.room := by rw [DM.sync_room]; exact m.unit_room
  have hA' : (m.unit.wait ⟨a, 0, [], true⟩).armed = m.armed := by rw [DM.wait_armed, DM.unit_armed]
  have hG : (m.unit.wait ⟨a, 0, [], true⟩).gone = false := DM.unit_gone hd
  rw [eE, eM, if_pos rfl, if_pos rfl]
  by_cases h1 : (m.unit.wait ⟨a, 0, [], true⟩).dead = true
  ·right
   rw [if_pos h1]
   refine ⟨rfl, ?_, hS.2 h1⟩
   cases ha : m.armed
   ·rw [DM.dead_plain (hA'.trans ha) hG] at h1; cases h1
   ·rfl
  ·left
   rw [if_neg h1]
   exact ⟨rfl, hS.1 (Bool.eq_false_iff.2 h1), hA, hR⟩
theorem After_cut (A : Nat → List UInt8) (a : Nat) : After A ⟨a, 0, [], true⟩ = updB A a [] := by
 unfold After doB
 rw [if_pos rfl]
 simp
theorem After_end (A : Nat → List UInt8) (a p : Nat) (bs : List UInt8) (hp : (A a).length = p) : After A ⟨a, p, bs, false⟩ = updB A a (A a ++ bs) := by
 unfold After doB padTo
 rw [if_neg (by show ¬ (false = true); decide)]
 subst hp
 simp
theorem Torn.cut {A B : Nat → List UInt8} {a : Nat} (h : Torn A B ⟨a, 0, [], true⟩) : (∀ i, i < 3 → B i = A i) ∨ (∀ i, i < 3 → B i = updB A a [] i) := by
 rcases h with h | h | h
 ·exact .inl h
 ·exact .inr fun i hi => by rw [h i hi, After_cut]
 ·exact absurd h.1 (by simp)
theorem Torn.wr {A B : Nat → List UInt8} {a p : Nat} {bs : List UInt8} (hp : (A a).length = p) (h : Torn A B ⟨a, p, bs, false⟩) : ∃ j, j ≤ bs.length ∧ ∀ i, i < 3 → B i = updB A a (A a ++ bs.take j) i := by
 rcases h with h | h | ⟨_, j, h⟩
 ·refine ⟨0, Nat.zero_le _, fun i hi => ?_⟩
  rw [h i hi, List.take_zero, List.append_nil]
  by_cases e : i = a
  ·subst e; rw [updB_same]
  ·rw [updB_other _ _ _ _ e]
 ·exact ⟨bs.length, Nat.le_refl _, fun i hi => by rw [h i hi, After_end _ _ _ _ hp, List.take_length]⟩
 ·refine ⟨min j bs.length, Nat.min_le_right _ _, fun i hi => ?_⟩
  have e := h i hi
  simp only at e
  rw [e, After_end _ _ _ _ hp]
  congr 2
  rcases Nat.le_total j bs.length with h' | h'
  ·rw [Nat.min_eq_left h']
  ·rw [Nat.min_eq_right h', List.take_of_length_le h', List.take_length]

/-! ### logs -/
structure LM where
 gen : Nat
 slot : Nat
 text : List UInt8
 recs : List (List UInt8)
 dead : Bool
structure LM.Ok (L : LM) : Prop where
 gen : L.gen ≤ 2147483647
 slot : L.slot = 0 ∨ L.slot = 1
 text : L.text.length ≤ 1048576
 recs : endOf L.recs ≤ 1048576

/-- What a reader finds in areas. -/
structure Reads (A : Nat → List UInt8) (L : LM) : Prop where
 pick : pickB (A 0) (A 1) = (L.gen, L.slot, L.text)
 recs : ∃ r, A 2 = recsB L.gen 0 L.recs ++ r ∧ nextB r L.gen L.recs.length = none
 short : Shorts L.recs
/-- .. and nothing behind it. -/
structure LM.On (L : LM) (A : Nat → List UInt8) : Prop where
 pick : pickB (A 0) (A 1) = (L.gen, L.slot, L.text)
 recs : A 2 = recsB L.gen 0 L.recs
 short : Shorts L.recs
theorem LM.On.reads {L : LM} {A : Nat → List UInt8} (h : L.On A) : Reads A L := ⟨h.pick, ⟨[], by rw [List.append_nil]; exact h.recs, nextB_nil _ _⟩, h.short⟩
theorem Reads.gen {A : Nat → List UInt8} {L : LM} (h : Reads A L) : L.gen ≤ 2147483647 := by have := (pickB_le (A 0) (A 1)).1; rw [h.pick] at this; exact this
theorem Reads.slot {A : Nat → List UInt8} {L : LM} (h : Reads A L) : L.slot = 0 ∨ L.slot = 1 := by have := (pickB_le (A 0) (A 1)).2; rw [h.pick] at this; exact this
theorem Reads.num {A : Nat → List UInt8} {L : LM} (h : Reads A L) (h2 : (A 2).length ≤ 1048576) : endOf L.recs ≤ 1048576 := by
 obtain ⟨r, e, _⟩ := h.recs
 have := recsB_length L.gen L.recs 0
 have h3 := congrArg List.length e
 rw [List.length_append] at h3
 omega
theorem Reads.ok {A : Nat → List UInt8} {L : LM} (h : Reads A L) (h0 : (A 0).length ≤ 1048576) (h1 : (A 1).length ≤ 1048576) (h2 : (A 2).length ≤ 1048576) : L.Ok := by
 refine ⟨h.gen, h.slot, ?_, h.num h2⟩
 have := pickB_text (A 0) (A 1) 1048576 h0 h1
 rw [h.pick] at this
 exact this
/-- Two readers find the same. -/
theorem Reads.same {A : Nat → List UInt8} {L L' : LM} (h : Reads A L) (h' : Reads A L') (h2 : (A 2).length ≤ 1048576) : L.gen = L'.gen ∧ L.slot = L'.slot ∧ L.text = L'.text ∧ L.recs = L'.recs := by
 have hp := h.pick.symm.trans h'.pick
 injection hp with e1 e2
 injection e2 with e2 e3
 refine ⟨e1, e2, e3, ?_⟩
 obtain ⟨r, e, hr⟩ := h.recs
 obtain ⟨r', e', hr'⟩ := h'.recs
 have n1 := h.num h2
 have n2 := h'.num h2
 have g1 := endOf_ge L.recs
 have g2 := endOf_ge L'.recs
 rw [← e1] at e' hr'
 exact (recs_unique (gen := L.gen) (by have := h.gen; omega) L.recs L'.recs 0 r r' (by omega) (by omega) h.short h'.short (e.symm.trans e') (by rw [Nat.zero_add]; exact hr) (by rw [Nat.zero_add]; exact hr')).1
theorem Reads.congr {A B : Nat → List UInt8} {L : LM} (h : Reads A L) (e : ∀ i, i < 3 → B i = A i) : Reads B L :=
 ⟨by rw [e 0 (by decide), e 1 (by decide)]; exact h.pick, by rw [e 2 (by decide)]; exact h.recs, h.short⟩

/-- Append: the error's number, the disk, the log behind it. -/
def LM.room (L : LM) (m : DM) (t : List UInt8) : Nat := if L.dead = true then 25 else if 16384 < t.length then 3 else if m.free < 20 + (t.length : Int) then 26 else 0
def LM.appE (L : LM) (m : DM) (t : List UInt8) : Nat := if L.room m t = 0 then (if wrE m 2 (endOf L.recs : Int) (recB L.gen L.recs.length t) = 0 then 0 else 25) else L.room m t
def LM.appM (L : LM) (m : DM) (t : List UInt8) : DM := if L.room m t = 0 then wrM m 2 (endOf L.recs : Int) (recB L.gen L.recs.length t) else m
def LM.app (L : LM) (m : DM) (t : List UInt8) : LM := if L.room m t = 0 then (if wrE m 2 (endOf L.recs : Int) (recB L.gen L.recs.length t) = 0 then { L with recs := L.recs ++ [t] } else { L with dead := true }) else L
/-- Compact. -/
def LM.space (L : LM) (m : DM) (t : List UInt8) : Nat := if L.dead = true then 25 else if 2147483647 ≤ L.gen ∨ m.free < 16 + (t.length : Int) - ((m.b (3 + (1 - L.slot))).length : Int) then 26 else 0
def LM.cpE (L : LM) (m : DM) (t : List UInt8) : Nat := if L.space m t = 0 then (if swE m ((1 - L.slot : Nat) : Int) (snapB (L.gen + 1) t) = 0 then 0 else 25) else L.space m t
def LM.cpM (L : LM) (m : DM) (t : List UInt8) : DM := if L.space m t = 0 then swM m ((1 - L.slot : Nat) : Int) (snapB (L.gen + 1) t) else m
def LM.cp (L : LM) (m : DM) (t : List UInt8) : LM := if L.space m t = 0 then (if swE m ((1 - L.slot : Nat) : Int) (snapB (L.gen + 1) t) = 0 then ⟨L.gen + 1, 1 - L.slot, t, [], L.dead⟩ else { L with dead := true }) else L

/-- The log behind an Append and a Compact that were answered nil. -/
def LM.with (L : LM) (t : List UInt8) : LM := { L with recs := L.recs ++ [t] }
def LM.new (L : LM) (t : List UInt8) : LM := ⟨L.gen + 1, 1 - L.slot, t, [], L.dead⟩

theorem room_zero {L : LM} {m : DM} {t : List UInt8} (h : L.room m t = 0) : L.dead = false ∧ t.length ≤ 16384 ∧ 20 + (t.length : Int) ≤ m.free := by
 unfold LM.room at h
 split at h
 ·cases h
 split at h
 ·cases h
 split at h
 ·cases h
 rename_i h1 h2 h3
 exact ⟨Bool.eq_false_iff.2 h1, by omega, by omega⟩
theorem room_cases {L : LM} {m : DM} {t : List UInt8} (hd : L.dead = false) (ht : t.length ≤ 16384) : L.room m t = 0 ∨ L.room m t = 26 := by
 unfold LM.room
 rw [if_neg (by rw [hd]; decide), if_neg (by omega)]
 split <;> simp
theorem space_zero {L : LM} {m : DM} {t : List UInt8} (h : L.space m t = 0) : L.dead = false ∧ L.gen < 2147483647 ∧ 16 + (t.length : Int) - ((m.b (3 + (1 - L.slot))).length : Int) ≤ m.free := by
 unfold LM.space at h
 split at h
 ·cases h
 split at h
 ·cases h
 rename_i h1 h2
 exact ⟨Bool.eq_false_iff.2 h1, by omega, by omega⟩
theorem space_cases {L : LM} {m : DM} {t : List UInt8} (hd : L.dead = false) : L.space m t = 0 ∨ L.space m t = 26 := by
 unfold LM.space
 rw [if_neg (by rw [hd]; decide)]
 split <;> simp

theorem On.append {L : LM} {A : Nat → List UInt8} (h : L.On A) (t : List UInt8) (ht : t.length ≤ 16384) : (L.with t).On (updB A 2 (A 2 ++ recB L.gen L.recs.length t)) := by
 refine ⟨?_, ?_, h.short.snoc ht⟩
 ·rw [updB_other _ _ _ _ (by decide), updB_other _ _ _ _ (by decide)]; exact h.pick
 ·rw [updB_same]
  show _ = recsB L.gen 0 (L.recs ++ [t])
  rw [recsB_snoc, Nat.zero_add, h.recs]
/-- An Append on a disk on which nothing waits. -/
theorem append_law {L : LM} {m : DM} {A : Nat → List UInt8} (h : m.Is A) (hL : L.On A) (t : List UInt8) (hr : L.room m t = 0) :
  (L.appE m t = 0 ∧ ∃ B, (L.appM m t).Is B ∧ (L.app m t) = L.with t ∧ (L.with t).On B ∧ (L.appM m t).armed = m.armed ∧ (L.appM m t).room = m.room) ∨
  (L.appE m t = 25 ∧ m.armed = true ∧ ∀ kept s torn, ∃ B, ((L.appM m t).crash kept s torn).Is B ∧ (Reads B L ∨ Reads B (L.with t))) := by
 obtain ⟨hd, ht, hf⟩ := room_zero hr
 have hp : (A 2).length = endOf L.recs := by rw [hL.recs, recsB_length]
 have e2 : ((2 : Nat) : Int) = 2 := rfl
 have hw := h.wr 2 (by decide) (endOf L.recs) hp (recB L.gen L.recs.length t) (by rw [recB_length]; omega)
 rw [e2] at hw
 unfold LM.appE LM.appM LM.app
 rw [if_pos hr, if_pos hr, if_pos hr]
 rcases hw with ⟨h0, hI, ha, hr'⟩ | ⟨h25, ha, hB⟩
 ·left
  rw [if_pos h0, if_pos h0]
  refine ⟨rfl, _, hI, rfl, ?_, ha, hr'⟩
  rw [After_end _ _ _ _ hp]
  exact On.append hL t ht
 ·right
  rw [if_neg (by omega)]
  refine ⟨rfl, ha, fun kept s torn => ?_⟩
  obtain ⟨B, hI, hT⟩ := hB kept s torn
  refine ⟨B, hI, ?_⟩
  obtain ⟨j, hj, e⟩ := hT.wr hp
  rcases Nat.lt_or_ge j (recB L.gen L.recs.length t).length with hlt | hge
  ·left
   refine ⟨?_, ⟨(recB L.gen L.recs.length t).take j, ?_, nextB_torn ht hlt⟩, hL.short⟩
   ·rw [e 0 (by decide), e 1 (by decide), updB_other _ _ _ _ (by decide), updB_other _ _ _ _ (by decide)]; exact hL.pick
   ·rw [e 2 (by decide), updB_same, hL.recs]
  ·right
   rw [List.take_of_length_le hge] at e
   exact (On.append hL t ht).reads.congr e

theorem recs_old {gen : Nat} (recs : List (List UInt8)) (hg : gen + 1 ≤ 2147483647) : nextB (recsB gen 0 recs) (gen + 1) 0 = none := by
 cases recs with
 | nil => exact nextB_nil _ _
 | cons a l => exact nextB_other (by omega) (by omega) (by omega)
theorem pick_slot {L : LM} {A B : Nat → List UInt8} (h : pickB (A 0) (A 1) = (L.gen, L.slot, L.text)) (hs : L.slot = 0 ∨ L.slot = 1) (x : List UInt8) (e : ∀ i, i < 2 → B i = updB A (1 - L.slot) x i) :
  (goodB x = none → pickB (B 0) (B 1) = (L.gen, L.slot, L.text)) ∧ (∀ t, goodB x = some (L.gen + 1, t) → pickB (B 0) (B 1) = (L.gen + 1, 1 - L.slot, t)) := by
 rw [e 0 (by decide), e 1 (by decide)]
 rcases hs with hs | hs
 ·rw [hs] at h ⊢
  rw [show updB A (1 - 0) x 0 = A 0 from updB_other _ _ _ _ (by decide), show updB A (1 - 0) x 1 = x from updB_same _ _ _]
  exact ⟨fun hx => pick_drop1 h hx, fun t hx => pick_new1 h hx⟩
 ·rw [hs] at h ⊢
  rw [show updB A (1 - 1) x 0 = x from updB_same _ _ _, show updB A (1 - 1) x 1 = A 1 from updB_other _ _ _ _ (by decide)]
  exact ⟨fun hx => pick_drop0 h hx, fun t hx => pick_new0 h hx⟩
theorem free_of {m : DM} {A : Nat → List UInt8} (h : m.Is A) : m.free = m.room - ((A 0).length : Int) - ((A 1).length : Int) - ((A 2).length : Int) := by
 unfold DM.free
 rw [← h.seen 0 (by decide), ← h.seen 1 (by decide), ← h.seen 2 (by decide)]
/-- A Compact on a disk on which nothing waits. -/
theorem compact_law {L : LM} {m : DM} {A : Nat → List UInt8} (h : m.Is A) (hL : L.On A) (hs : L.slot = 0 ∨ L.slot = 1) (t : List UInt8) (hr : L.space m t = 0) :
  (L.cpE m t = 0 ∧ ∃ B, (L.cpM m t).Is B ∧ (L.cp m t) = L.new t ∧ (L.new t).On B ∧ (L.cpM m t).armed = m.armed ∧ (L.cpM m t).room = m.room) ∨
  (L.cpE m t = 25 ∧ m.armed = true ∧ ∀ kept s torn, ∃ B, ((L.cpM m t).crash kept s torn).Is B ∧ (Reads B L ∨ Reads B (L.new t))) := by
 obtain ⟨hd, hg, hf⟩ := space_zero hr
 have hS : 1 - L.slot < 2 := by omega
 obtain ⟨S, hSe⟩ : ∃ S, S = 1 - L.slot := ⟨_, rfl⟩
 have hS' : S < 2 := by omega
 rw [h.seen (1 - L.slot) (by omega), free_of h] at hf
 have hroom := h.ok.room1
 have htl : t.length < 4294967296 := by
  rw [← hSe] at hf
  have : S = 0 ∨ S = 1 := by omega
  rcases this with e | e <;> rw [e] at hf <;> omega
 have gsnap : goodB (snapB (L.gen + 1) t) = some (L.gen + 1, t) := by
  have := goodB_snap (L.gen + 1) t [] (by omega) (by omega) htl
  rwa [List.append_nil] at this
 -- behind the cut, behind the write, behind all
 obtain ⟨A1, hA1⟩ : ∃ A1, A1 = updB A S [] := ⟨_, rfl⟩
 obtain ⟨A2, hA2⟩ : ∃ A2, A2 = updB A S (snapB (L.gen + 1) t) := ⟨_, rfl⟩
 have old (x : List UInt8) (B : Nat → List UInt8) (hx : goodB x = none) (e : ∀ i, i < 3 → B i = updB A S x i) : Reads B L := by
  refine ⟨(pick_slot hL.pick hs x fun i hi => by rw [e i (by omega), hSe]).1 hx, ⟨[], ?_, nextB_nil _ _⟩, hL.short⟩
  rw [List.append_nil, e 2 (by decide), updB_other _ _ _ _ (by omega)]
  exact hL.recs
 have new (B : Nat → List UInt8) (y : List UInt8) (hy : nextB y (L.gen + 1) 0 = none) (e : ∀ i, i < 2 → B i = updB A S (snapB (L.gen + 1) t) i) (e2 : B 2 = y) : Reads B (L.new t) := by
  refine ⟨(pick_slot hL.pick hs _ fun i hi => by rw [e i hi, hSe]).2 t gsnap, ⟨y, ?_, hy⟩, fun x hx => by cases hx⟩
  rw [e2]; rfl
 have hold : nextB (A 2) (L.gen + 1) 0 = none := by rw [hL.recs]; exact recs_old _ (by omega)
 unfold LM.cpE LM.cpM LM.cp swE swM
 rw [if_pos hr, if_pos hr, if_pos hr, ← hSe]
 rcases h.cl S (by omega) with ⟨h0, hI, ha1, hr1⟩ | ⟨h25, ha, hB⟩
 ·rw [After_cut, ← hA1] at hI
  have e1 : (A1 S).length = 0 := by rw [hA1, updB_same]; rfl
  have hfree : ((snapB (L.gen + 1) t).length : Int) ≤ (clM m S).free := by
   rw [free_of hI, hr1, snapB_length, hA1]
   rw [← hSe] at hf
   have : S = 0 ∨ S = 1 := by omega
   rcases this with e | e
   ·subst e
    rw [updB_same, updB_other _ _ _ _ (by decide), updB_other _ _ _ _ (by decide)]
    simp only [List.length_nil]
    omega
   ·subst e
    rw [updB_same, updB_other _ _ _ _ (by decide), updB_other _ _ _ _ (by decide)]
    simp only [List.length_nil]
    omega
  have e12 : updB A1 S (A1 S ++ snapB (L.gen + 1) t) = A2 := by
   rw [hA1, hA2]
   funext i
   by_cases e : i = S
   ·subst e; rw [updB_same, updB_same, updB_same]; rfl
   ·rw [updB_other _ _ _ _ e, updB_other _ _ _ _ e, updB_other _ _ _ _ e]
  have hw := hI.wr S (by omega) 0 e1 (snapB (L.gen + 1) t) hfree
  rw [h0, if_pos rfl, if_pos rfl, show ((0 : Nat) : Int) = 0 from rfl] at *
  rcases hw with ⟨hw0, hJ, ha2, hr2⟩ | ⟨hw25, ha, hB⟩
  ·rw [After_end _ _ _ _ e1, e12] at hJ
   rw [hw0, if_pos rfl, if_pos rfl]
   rcases hJ.cl 2 (by decide) with ⟨hc0, hK, ha3, hr3⟩ | ⟨hc25, ha, hB⟩
   ·left
    rw [After_cut] at hK
    rw [show ((2 : Nat) : Int) = 2 from rfl] at hc0 hK ha3 hr3
    rw [hc0, if_pos rfl]
    have hN := new (updB A2 2 []) [] (nextB_nil _ _) (fun i hi => by rw [updB_other _ _ _ _ (by omega), hA2]) (updB_same _ _ _)
    refine ⟨rfl, _, hK, by rw [if_pos rfl, hSe]; rfl, ⟨hN.pick, ?_, hN.short⟩, ha3.trans (ha2.trans ha1), hr3.trans (hr2.trans hr1)⟩
    rw [updB_same]; rfl
   ·right
    rw [show ((2 : Nat) : Int) = 2 from rfl] at hc25 hB
    rw [hc25]
    refine ⟨rfl, by rw [← ha1, ← ha2]; exact ha, fun kept s torn => ?_⟩
    obtain ⟨B, hI, hT⟩ := hB kept s torn
    refine ⟨B, hI, .inr ?_⟩
    rcases hT.cut with e | e
    ·exact new B (A 2) hold (fun i hi => by rw [e i (by omega), hA2]) (by rw [e 2 (by decide), hA2, updB_other _ _ _ _ (by omega)])
    ·exact new B [] (nextB_nil _ _) (fun i hi => by rw [e i (by omega), updB_other _ _ _ _ (by omega), hA2]) (by rw [e 2 (by decide), updB_same])
  ·right
   rw [hw25]
   refine ⟨rfl, by rw [← ha1]; exact ha, fun kept s torn => ?_⟩
   obtain ⟨B, hI, hT⟩ := hB kept s torn
   refine ⟨B, hI, ?_⟩
   obtain ⟨j, hj, e⟩ := hT.wr e1
   have e' : ∀ i, i < 3 → B i = updB A S ((snapB (L.gen + 1) t).take j) i := fun i hi => by
    rw [e i hi, hA1]
    by_cases e : i = S
    ·subst e; rw [updB_same, updB_same, updB_same]; rfl
    ·rw [updB_other _ _ _ _ e, updB_other _ _ _ _ e, updB_other _ _ _ _ e]
   rcases Nat.lt_or_ge j (snapB (L.gen + 1) t).length with hlt | hge
   ·exact .inl (old _ B (goodB_torn htl hlt) e')
   ·rw [List.take_of_length_le hge] at e'
    exact .inr (new B (A 2) hold (fun i hi => e' i (by omega)) (by rw [e' 2 (by decide), updB_other _ _ _ _ (by omega)]))
 ·right
  rw [h25]
  refine ⟨rfl, ha, fun kept s torn => ?_⟩
  obtain ⟨B, hI, hT⟩ := hB kept s torn
  refine ⟨B, hI, .inl ?_⟩
  rcases hT.cut with e | e
  ·exact hL.reads.congr e
  ·exact old [] B goodB_nil e
end Go.Proofs.YtfmagnpmjlppiaaGreatDoor

/- Layer 18 (wal): opening; a disk whose power stays. In plain words. -/
namespace Go.Proofs.YtfmagnpmjlppiaaGreatDoor

/-- Opening cuts what stands behind the records. -/
def opE (m : DM) (e : Nat) : Nat := if (m.b 5).length = e then 0 else if m.cutE 2 (e : Int) = 0 then (if (m.cut 2 (e : Int)).dead = true then 25 else 0) else m.cutE 2 (e : Int)
def opM (m : DM) (e : Nat) : DM := if (m.b 5).length = e then m else if m.cutE 2 (e : Int) = 0 then (m.cut 2 (e : Int)).sync else m.cut 2 (e : Int)
/-- A disk whose power stays. -/
structure DM.Live (m : DM) (A : Nat → List UInt8) : Prop where
 ok : m.Ok
 gone : m.gone = false
 armed : m.armed = false
 waits : m.waits.length ≤ 900
 seen : ∀ i, i < 3 → m.b (3 + i) = A i

section
variable {m : DM} {A : Nat → List UInt8} {L : LM}
theorem DM.unit_plain (ha : m.armed = false) (hg : m.gone = false) : m.unit = m := by unfold DM.unit; rw [DM.dead_plain ha hg, ha]; rfl
theorem DM.sync_plain (ha : m.armed = false) (hg : m.gone = false) : m.sync = m.flush := by unfold DM.sync; rw [DM.dead_plain ha hg, DM.unit_plain ha hg]; rfl
theorem DM.flush_b (m : DM) (k : Nat) : m.flush.b (3 + k) = m.b (3 + k) := if_neg (by omega)
theorem DM.flush_free (m : DM) : m.flush.free = m.free := rfl
theorem DM.Live.flush_is (h : m.Live A) : m.flush.Is A :=
 ⟨h.ok.flush, h.gone, rfl, fun i hi => (if_pos hi).trans (h.seen i hi), fun i hi => (m.flush_b i).trans (h.seen i hi)⟩
theorem DM.Is.live (h : m.Is A) (ha : m.armed = false) : m.Live A := ⟨h.ok, h.gone, ha, by rw [h.waits]; exact Nat.zero_le _, h.seen⟩
theorem flush_wait (m : DM) (c : DChg) : (m.wait c).flush = (m.flush.wait c).flush := by
 have e1 : ∀ j, 3 ≤ j → m.flush.b j = m.b j := fun j hj => if_neg (by omega)
 have e2 : ∀ j, 3 ≤ j → (m.wait c).b j = (m.flush.wait c).b j := fun j hj => by
  show updB m.b (3 + c.area) (doB (m.b (3 + c.area)) c) j = updB m.flush.b (3 + c.area) (doB (m.flush.b (3 + c.area)) c) j
  rw [e1 (3 + c.area) (by omega)]
  unfold updB
  split
  ·rfl
  ·rw [e1 j hj]
 unfold DM.flush
 congr 1
 funext i
 show (if i < 3 then (m.wait c).b (3 + i) else (m.wait c).b i) = (if i < 3 then (m.flush.wait c).b (3 + i) else (m.flush.wait c).b i)
 split
 ·exact e2 _ (by omega)
 ·exact e2 _ (by omega)

theorem write_plain (ha : m.armed = false) (hg : m.gone = false) (a p : Int) (bs : List UInt8) : wrE m a p bs = m.writeE a p bs.length ∧ (m.writeE a p bs.length = 0 → wrM m a p bs = (m.wait ⟨a.toNat, p.toNat, bs, false⟩).flush) := by
 unfold wrE wrM
 by_cases h0 : m.writeE a p bs.length = 0
 ·rw [if_pos h0, if_pos h0, h0]
  have e : m.write a p bs = m.wait ⟨a.toNat, p.toNat, bs, false⟩ := by unfold DM.write; rw [if_pos h0, DM.unit_plain ha hg]
  rw [e]
  refine ⟨?_, fun _ => DM.sync_plain (by exact ha) (by exact hg)⟩
  rw [DM.dead_plain (m := m.wait ⟨a.toNat, p.toNat, bs, false⟩) ha hg]
  rfl
 ·rw [if_neg h0]
  exact ⟨rfl, fun h => absurd h h0⟩
theorem cut_plain (ha : m.armed = false) (hg : m.gone = false) (a : Int) : clE m a = m.cutE a 0 ∧ (m.cutE a 0 = 0 → clM m a = (m.wait ⟨a.toNat, 0, [], true⟩).flush) := by
 unfold clE clM
 by_cases h0 : m.cutE a 0 = 0
 ·rw [if_pos h0, if_pos h0, h0]
  have e : m.cut a 0 = m.wait ⟨a.toNat, 0, [], true⟩ := by unfold DM.cut; rw [if_pos h0, DM.unit_plain ha hg]; rfl
  rw [e]
  refine ⟨?_, fun _ => DM.sync_plain (by exact ha) (by exact hg)⟩
  rw [DM.dead_plain (m := m.wait ⟨a.toNat, 0, [], true⟩) ha hg]
  rfl
 ·rw [if_neg h0]
  exact ⟨rfl, fun h => absurd h h0⟩
theorem writeE_flush (a p : Int) (n : Nat) : m.flush.writeE a p n = m.writeE a p n := by
 unfold DM.writeE
 rw [m.flush_b, m.flush_free]
 rfl
theorem cutE_flush (a p : Int) : m.flush.cutE a p = m.cutE a p := by
 unfold DM.cutE
 rw [m.flush_b]
 rfl
theorem wr_flush (ha : m.armed = false) (hg : m.gone = false) (a p : Int) (bs : List UInt8) : wrE m.flush a p bs = wrE m a p bs ∧ (wrE m a p bs = 0 → wrM m.flush a p bs = wrM m a p bs) := by
 obtain ⟨h1, h2⟩ := write_plain ha hg a p bs
 obtain ⟨k1, k2⟩ := write_plain (m := m.flush) ha hg a p bs
 rw [writeE_flush] at k1 k2
 refine ⟨k1.trans h1.symm, fun h => ?_⟩
 rw [h1] at h
 rw [k2 h, h2 h]
 exact (flush_wait _ _).symm
theorem cl_flush (ha : m.armed = false) (hg : m.gone = false) (a : Int) : clE m.flush a = clE m a ∧ (clE m a = 0 → clM m.flush a = clM m a) := by
 obtain ⟨h1, h2⟩ := cut_plain ha hg a
 obtain ⟨k1, k2⟩ := cut_plain (m := m.flush) ha hg a
 rw [cutE_flush] at k1 k2
 refine ⟨k1.trans h1.symm, fun h => ?_⟩
 rw [h1] at h
 rw [k2 h, h2 h]
 exact (flush_wait _ _).symm

/-- An Append while the power stays. -/
theorem append_live (h : m.Live A) (hL : L.On A) (t : List UInt8) (hr : L.room m t = 0) : L.appE m t = 0 ∧ ∃ B, (L.appM m t).Is B ∧ L.app m t = L.with t ∧ (L.with t).On B ∧ (L.appM m t).armed = false := by
 have hr' : L.room m.flush t = 0 := hr
 obtain ⟨h1, h2⟩ := wr_flush h.armed h.gone 2 (endOf L.recs : Int) (recB L.gen L.recs.length t)
 rcases append_law h.flush_is hL t hr' with ⟨h0, B, b1, b2, b3, b4, _⟩ | ⟨_, ha, _⟩
 ·unfold LM.appE LM.appM LM.app at *
  rw [if_pos hr] at *
  rw [if_pos hr'] at h0 b1 b2 b4
  have e0 : wrE m 2 (endOf L.recs : Int) (recB L.gen L.recs.length t) = 0 := by
   rw [← h1]
   by_cases hh : wrE m.flush 2 (endOf L.recs : Int) (recB L.gen L.recs.length t) = 0
   ·exact hh
   ·rw [if_neg hh] at h0; cases h0
  rw [h2 e0] at b1 b4
  rw [e0, if_pos rfl]
  exact ⟨rfl, B, by rw [if_pos hr]; exact b1, by rw [if_pos hr, if_pos rfl]; rfl, b3, by rw [if_pos hr]; exact b4.trans h.armed⟩
 ·exact absurd (ha.symm.trans h.armed) (by decide)
/-- A Compact while the power stays. -/
theorem compact_live (h : m.Live A) (hL : L.On A) (hs : L.slot = 0 ∨ L.slot = 1) (t : List UInt8) (hr : L.space m t = 0) : L.cpE m t = 0 ∧ ∃ B, (L.cpM m t).Is B ∧ L.cp m t = L.new t ∧ (L.new t).On B ∧ (L.cpM m t).armed = false := by
 have hr' : L.space m.flush t = 0 := by
  rw [← hr]
  unfold LM.space
  rw [m.flush_free, m.flush_b]
 obtain ⟨h1, h2⟩ := cl_flush h.armed h.gone ((1 - L.slot : Nat) : Int)
 have key : swE m.flush ((1 - L.slot : Nat) : Int) (snapB (L.gen + 1) t) = 0 → swE m ((1 - L.slot : Nat) : Int) (snapB (L.gen + 1) t) = 0 ∧ swM m.flush ((1 - L.slot : Nat) : Int) (snapB (L.gen + 1) t) = swM m ((1 - L.slot : Nat) : Int) (snapB (L.gen + 1) t) := fun hz => by
  unfold swE swM at *
  rw [h1] at *
  by_cases hh : clE m ((1 - L.slot : Nat) : Int) = 0
  ·rw [if_pos hh, h2 hh] at *
   exact ⟨hz, by rw [if_pos hh]⟩
  ·rw [if_neg hh] at hz
   exact absurd hz hh
 rcases compact_law h.flush_is hL hs t hr' with ⟨h0, B, b1, b2, b3, b4, _⟩ | ⟨_, ha, _⟩
 ·unfold LM.cpE LM.cpM LM.cp at *
  rw [if_pos hr] at *
  rw [if_pos hr'] at h0 b1 b2 b4
  have e0 : swE m.flush ((1 - L.slot : Nat) : Int) (snapB (L.gen + 1) t) = 0 := by
   by_cases hh : swE m.flush ((1 - L.slot : Nat) : Int) (snapB (L.gen + 1) t) = 0
   ·exact hh
   ·rw [if_neg hh] at h0; cases h0
  obtain ⟨k1, k2⟩ := key e0
  rw [k2] at b1 b4
  rw [k1, if_pos rfl]
  exact ⟨rfl, B, by rw [if_pos hr]; exact b1, by rw [if_pos hr, if_pos rfl]; rfl, b3, by rw [if_pos hr]; exact b4.trans h.armed⟩
 ·exact absurd (ha.symm.trans h.armed) (by decide)

/-- Opening while the power stays. -/
theorem open_live (h : m.Live A) (hR : Reads A L) : opE m (endOf L.recs) = 0 ∧ ∃ B, (opM m (endOf L.recs)).Live B ∧ L.On B ∧ (L.On A → opM m (endOf L.recs) = m) ∧ (m.Is A → (opM m (endOf L.recs)).Is B) := by
 obtain ⟨r, e, hr⟩ := hR.recs
 have h5 : m.b 5 = A 2 := h.seen 2 (by decide)
 have hl : (A 2).length = endOf L.recs + r.length := by rw [e, List.length_append, recsB_length]
 unfold opE opM
 rw [h5]
 by_cases he : (A 2).length = endOf L.recs
 ·rw [if_pos he, if_pos he]
  have hr0 : r = [] := List.eq_nil_of_length_eq_zero (by omega)
  subst hr0
  exact ⟨rfl, A, h, ⟨hR.pick, by rw [e, List.append_nil], hR.short⟩, fun _ => rfl, id⟩
 ·rw [if_neg he, if_neg he]
  have hc : m.cutE 2 (endOf L.recs : Int) = 0 := by
   unfold DM.cutE
   rw [if_neg (by rw [show (3 + (2 : Int).toNat) = 5 from rfl, h5]; omega), h.flush_is.gone |> fun _ => DM.dead_plain h.armed h.gone]
   rfl
  have ec : m.cut 2 (endOf L.recs : Int) = m.wait ⟨2, endOf L.recs, [], true⟩ := by
   unfold DM.cut
   rw [if_pos hc, DM.unit_plain h.armed h.gone, Int.toNat_natCast]
   rfl
  have hd : (m.wait ⟨2, endOf L.recs, [], true⟩).dead = false := DM.dead_plain (m := m.wait ⟨2, endOf L.recs, [], true⟩) h.armed h.gone
  rw [hc, if_pos rfl, if_pos rfl, ec, hd]
  have hs : (m.wait ⟨2, endOf L.recs, [], true⟩).sync = (m.wait ⟨2, endOf L.recs, [], true⟩).flush := DM.sync_plain (by exact h.armed) (by exact h.gone)
  have hA : After A ⟨2, endOf L.recs, [], true⟩ = updB A 2 (recsB L.gen 0 L.recs) := by
   unfold After doB
   rw [if_pos rfl]
   show updB A 2 ((A 2).take (endOf L.recs)) = _
   rw [e, List.take_left' (recsB_length _ _ _)]
  have hI := (h.flush_is.step ⟨2, endOf L.recs, [], true⟩ (by show 2 < 3; decide) (by
   show endOf L.recs + 0 ≤ _
   have := h.ok.len 5 (by decide)
   rw [h5] at this
   omega)).1 (DM.dead_plain (m := m.flush.wait ⟨2, endOf L.recs, [], true⟩) h.armed h.gone)
  rw [DM.sync_plain (m := m.flush.wait ⟨2, endOf L.recs, [], true⟩) h.armed h.gone, ← flush_wait, ← hs, hA] at hI
  refine ⟨rfl, _, hI.live (by rw [hs]; exact h.armed), ⟨?_, updB_same _ _ _, hR.short⟩, fun hO => ?_, fun _ => hI⟩
  ·rw [updB_other _ _ _ _ (by decide), updB_other _ _ _ _ (by decide)]; exact hR.pick
  ·exact absurd (by rw [hO.recs, recsB_length]) he
end
end Go.Proofs.YtfmagnpmjlppiaaGreatDoor

/- Layer 18 (wal): the chapter's example, in plain words; what a law meets again and again. -/
namespace Go.Proofs.YtfmagnpmjlppiaaGreatDoor

section
variable {m : DM} {A : Nat → List UInt8} {L L' : LM}
theorem append_free (h : m.Live A) (hL : L.On A) (t : List UInt8) (hr : L.room m t = 0) : (L.appM m t).free = m.free - (20 + t.length : Int) := by
 obtain ⟨h0, _⟩ := append_live h hL t hr
 obtain ⟨w1, w2⟩ := write_plain h.armed h.gone 2 (endOf L.recs : Int) (recB L.gen L.recs.length t)
 have hw : wrE m 2 (endOf L.recs : Int) (recB L.gen L.recs.length t) = 0 := by
  unfold LM.appE at h0
  rw [if_pos hr] at h0
  by_cases hh : wrE m 2 (endOf L.recs : Int) (recB L.gen L.recs.length t) = 0
  ·exact hh
  ·rw [if_neg hh] at h0; cases h0
 unfold LM.appM
 rw [if_pos hr, w2 (w1 ▸ hw), DM.flush_free, Int.toNat_natCast]
 have h5 : m.b 5 = A 2 := h.seen 2 (by decide)
 have hp : (A 2).length = endOf L.recs := by rw [hL.recs, recsB_length]
 have hd : doB (m.b 5) ⟨2, endOf L.recs, recB L.gen L.recs.length t, false⟩ = A 2 ++ recB L.gen L.recs.length t := by
  have := congrFun (After_end A 2 (endOf L.recs) (recB L.gen L.recs.length t) hp) 2
  unfold After at this
  rw [updB_same, updB_same] at this
  rw [h5]
  exact this
 show m.room - (updB m.b 5 (doB (m.b 5) ⟨2, endOf L.recs, recB L.gen L.recs.length t, false⟩) 3).length - (updB m.b 5 (doB (m.b 5) ⟨2, endOf L.recs, recB L.gen L.recs.length t, false⟩) 4).length - (updB m.b 5 (doB (m.b 5) ⟨2, endOf L.recs, recB L.gen L.recs.length t, false⟩) 5).length = _
 rw [updB_other _ _ _ _ (by decide), updB_other _ _ _ _ (by decide), updB_same, hd, List.length_append, recB_length]
 unfold DM.free
 rw [h5]
 omega

theorem live0 (room : Int) (h0 : 0 ≤ room) (h1 : room ≤ 1048576) : DM.Live ⟨room, fun _ => [], [], false, 0, false⟩ (fun _ => []) :=
 ⟨⟨h0, h1, fun _ _ => by simp, fun c hc => (by cases hc), Int.le_refl _, by show (0 : Int) ≤ _; omega⟩, rfl, rfl, Nat.zero_le _, fun _ _ => rfl⟩
theorem on0 : LM.On ⟨0, 1, [], [], false⟩ (fun _ => []) := ⟨by show pickB [] [] = _; unfold pickB; rw [goodB_nil], rfl, fun x hx => (by cases hx)⟩
theorem LM.ext' (h1 : L.gen = L'.gen) (h2 : L.slot = L'.slot) (h3 : L.text = L'.text) (h4 : L.recs = L'.recs) (h5 : L.dead = L'.dead) : L = L' := by
 cases L; cases L'; simp only at h1 h2 h3 h4 h5; subst h1; subst h2; subst h3; subst h4; subst h5; rfl
theorem DM.Live.len (h : m.Live A) {i : Nat} (hi : i < 3) : (A i).length ≤ 1048576 := by rw [← h.seen i hi]; exact h.ok.len _ (by omega)
theorem DM.Live.okL (h : m.Live A) (hR : Reads A L) : L.Ok := hR.ok (h.len (by decide)) (h.len (by decide)) (h.len (by decide))
/-- Who opens finds what is there. -/
theorem Live.found (h : m.Live A) (hL : L.On A) (hR : Reads (fun i => m.b (3 + i)) L') : L'.gen = L.gen ∧ L'.slot = L.slot ∧ L'.text = L.text ∧ L'.recs = L.recs ∧ L'.Ok ∧ opE m (endOf L'.recs) = 0 ∧ opM m (endOf L'.recs) = m := by
 have hR' : Reads A L' := hR.congr fun i hi => (h.seen i hi).symm
 obtain ⟨e1, e2, e3, e4⟩ := hR'.same hL.reads (h.len (by decide))
 obtain ⟨o1, B, _, _, o2, _⟩ := open_live h hR'
 refine ⟨e1, e2, e3, e4, h.okL hR', o1, o2 ⟨hR'.pick, ?_, hR'.short⟩⟩
 rw [e4, e1]
 exact hL.recs
end

theorem Live.freeL {m : DM} {A : Nat → List UInt8} (h : m.Live A) : m.free = m.room - ((A 0).length : Int) - ((A 1).length : Int) - ((A 2).length : Int) := by
 unfold DM.free
 rw [← h.seen 0 (by decide), ← h.seen 1 (by decide), ← h.seen 2 (by decide)]
end Go.Proofs.YtfmagnpmjlppiaaGreatDoor
