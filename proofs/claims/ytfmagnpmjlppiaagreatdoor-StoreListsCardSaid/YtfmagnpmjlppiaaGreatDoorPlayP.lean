/- OrderedPlays' plain law: what the reference's functions make of a row is what ours make of it. No program in sight. -/
import Derived.Test.YtfmagnpmjlppiaaGreatDoorOrdSO
namespace Go.Proofs.YtfmagnpmjlppiaaGreatDoor

section
variable {κ ν : Type} {lt : κ → κ → Bool}

theorem look_at1 (L : Lin lt) {l : List (κ × ν)} (h : Rises lt l) {i : Nat} {e : κ × ν} (hi : l[i]? = some e) : look lt e.1 l = some e.2 := by
  obtain ⟨hlt, rfl⟩ := List.getElem?_eq_some_iff.1 hi
  have hs : l = l.take i ++ l[i] :: l.drop (i + 1) := by rw [List.getElem_cons_drop]; exact (List.take_append_drop i l).symm
  have hr : Rises lt (l.take i ++ (l[i].1, l[i].2) :: l.drop (i + 1)) := by rw [← hs]; exact h
  have := look_here L hr
  rw [← hs] at this
  exact this

theorem rank_zero {k : κ} {l : List (κ × ν)} (h : ∀ e ∈ l, lt e.1 k = false) : rank lt k l = 0 := by
  unfold rank
  rw [List.filter_eq_nil_iff.2 fun e he => by simp [h e he]]
  rfl
theorem rank_le (k : κ) (l : List (κ × ν)) : rank lt k l ≤ l.length := List.length_filter_le _ _
/-- A rising row falls apart at a key's rank. -/
theorem split_rank (L : Lin lt) (k : κ) {l : List (κ × ν)} (h : Rises lt l) : (∀ e ∈ l.take (rank lt k l), lt e.1 k = true) ∧ ∀ e ∈ l.drop (rank lt k l), lt e.1 k = false := by
  induction l with
  | nil => exact ⟨by simp, by simp⟩
  | cons a l ih =>
    cases ha : lt a.1 k with
    | true =>
      have e : rank lt k (a :: l) = rank lt k l + 1 := by simp [rank, ha]
      rw [e]
      obtain ⟨h1, h2⟩ := ih h.tail
      refine ⟨fun x hx => ?_, fun x hx => h2 x (by simpa using hx)⟩
      rcases List.mem_cons.1 (by simpa using hx) with rfl | hx
      · exact ha
      · exact h1 x hx
    | false =>
      have hall : ∀ x ∈ a :: l, lt x.1 k = false := fun x hx => by
        rcases List.mem_cons.1 hx with rfl | hx
        · exact ha
        cases hc : lt x.1 k with
        | false => rfl
        | true => exact absurd (L.tr _ _ _ ((List.pairwise_cons.1 h).1 x hx) hc) (by rw [ha]; decide)
      rw [rank_zero hall]
      exact ⟨by simp, by simpa using hall⟩

/-- The entry at a place. -/
def getI (l : List (κ × ν)) (i : Int) : Option (κ × ν) := if 0 ≤ i then l[i.toNat]? else none

theorem getI_here {ll lr : List (κ × ν)} {e : κ × ν} {i : Int} (h : i = (ll.length : Int)) : getI (ll ++ e :: lr) i = some e := by
  subst h
  unfold getI
  rw [if_pos (by omega)]
  simp
theorem getI_left {ll lr : List (κ × ν)} {e : κ × ν} {i : Int} (h : i < (ll.length : Int)) : getI (ll ++ e :: lr) i = getI ll i := by
  unfold getI
  split
  · rw [List.getElem?_append_left (by omega)]
  · rfl
theorem getI_right {ll lr : List (κ × ν)} {e : κ × ν} {i : Int} (h : (ll.length : Int) < i) : getI (ll ++ e :: lr) i = getI lr (i - ((ll.length : Int) + 1)) := by
  unfold getI
  rw [if_pos (by omega), if_pos (by omega), List.getElem?_append_right (by omega), show i.toNat - ll.length = (i - ((ll.length : Int) + 1)).toNat + 1 by omega, List.getElem?_cons_succ]
theorem getI_nil {i : Int} : getI ([] : List (κ × ν)) i = none := by unfold getI; split <;> simp
theorem getI_nat {l : List (κ × ν)} (i : Nat) : getI l (i : Int) = l[i]? := by unfold getI; rw [if_pos (by omega)]; simp
/-! ### spans -/
/-- The entries of a span. -/
def span (lt : κ → κ → Bool) (k to : κ) (l : List (κ × ν)) : List (κ × ν) := l.filter fun e => (!lt e.1 k) && lt e.1 to
/-- The keys of a span, at most so many. -/
def btw (lt : κ → κ → Bool) (k to : κ) (most : Int) (l : List (κ × ν)) : List κ := ((span lt k to l).map fun e => e.1).take most.toNat

theorem span_eq (L : Lin lt) (k to : κ) {l : List (κ × ν)} (h : Rises lt l) : span lt k to l = (l.drop (rank lt k l)).takeWhile fun e => lt e.1 to := by
  obtain ⟨h1, h2⟩ := split_rank L k h
  unfold span
  conv => lhs; rw [← List.take_append_drop (rank lt k l) l]
  rw [List.filter_append, List.filter_eq_nil_iff.2 (fun e he => by simp [h1 e he]), List.nil_append]
  have hd : Rises lt (l.drop (rank lt k l)) := h.sublist (List.drop_sublist _ _)
  generalize l.drop (rank lt k l) = r at *
  clear h h1
  induction r with
  | nil => rfl
  | cons a r ih =>
    have ha := h2 a List.mem_cons_self
    have hr := ih (fun e he => h2 e (List.mem_cons_of_mem _ he)) hd.tail
    cases hb : lt a.1 to with
    | true => simp [ha, hb, hr]
    | false =>
      rw [List.takeWhile_cons_of_neg (by simp [hb])]
      refine List.filter_eq_nil_iff.2 fun e he => ?_
      rcases List.mem_cons.1 he with rfl | he
      · simp [hb]
      · have := (List.pairwise_cons.1 hd).1 e he
        have : lt e.1 to = false := by
          cases hc : lt e.1 to with
          | false => rfl
          | true => exact absurd (L.tr _ _ _ this hc) (by rw [hb]; decide)
        simp [this]

/-- One step of a reader that begins at a key's rank. -/
theorem span_step (L : Lin lt) (k to : κ) {l : List (κ × ν)} (h : Rises lt l) {j : Nat} (hj : j ≤ (span lt k to l).length) :
    (l[rank lt k l + j]? = none → (span lt k to l).length = j) ∧
    (∀ e, l[rank lt k l + j]? = some e → (lt e.1 to = false → (span lt k to l).length = j) ∧ (lt e.1 to = true → j < (span lt k to l).length ∧ ((span lt k to l).map fun e => e.1).take (j + 1) = ((span lt k to l).map fun e => e.1).take j ++ [e.1])) := by
  rw [span_eq L k to h] at *
  rw [← List.getElem?_drop]
  generalize l.drop (rank lt k l) = r at *
  clear h
  revert j
  induction r with
  | nil => intro j hj; simp at hj; subst hj; simp
  | cons a r ih =>
    intro j hj
    cases hb : lt a.1 to with
    | false =>
      rw [List.takeWhile_cons_of_neg (by simp [hb])] at *
      simp at hj
      subst hj
      refine ⟨by simp, fun e he => ?_⟩
      simp at he
      subst he
      exact ⟨fun _ => rfl, fun h => by rw [hb] at h; cases h⟩
    | true =>
      rw [List.takeWhile_cons_of_pos (by simp [hb])] at *
      cases j with
      | zero =>
        refine ⟨by simp, fun e he => ?_⟩
        simp at he
        subst he
        exact ⟨fun h => absurd h (by rw [hb]; decide), fun _ => ⟨by simp, by simp⟩⟩
      | succ j =>
        have := @ih j (by simpa using hj)
        simp only [List.getElem?_cons_succ, List.length_cons, List.map_cons, List.take_succ_cons, List.cons_append]
        refine ⟨fun h => congrArg (· + 1) (this.1 h), fun e he => ⟨fun h => congrArg (· + 1) ((this.2 e he).1 h), fun h => ⟨?_, ?_⟩⟩⟩
        · have := ((this.2 e he).2 h).1
          omega
        · rw [((this.2 e he).2 h).2]

end
end Go.Proofs.YtfmagnpmjlppiaaGreatDoor
