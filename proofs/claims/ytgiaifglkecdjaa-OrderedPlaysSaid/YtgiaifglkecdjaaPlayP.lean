/- OrderedPlays' plain law: what the reference's functions make of a row is what ours make of it. No program in sight. -/
import Derived.Test.YtgiaifglkecdjaaRowP
namespace Go.Proofs.Ytgiaifglkecdjaa

section
variable {κ ν : Type} {lt : κ → κ → Bool}

theorem look_at (L : Lin lt) {l : List (κ × ν)} (h : Rises lt l) {i : Nat} {e : κ × ν} (hi : l[i]? = some e) : look lt e.1 l = some e.2 := by
  obtain ⟨hlt, rfl⟩ := List.getElem?_eq_some_iff.1 hi
  have hs : l = l.take i ++ l[i] :: l.drop (i + 1) := by rw [List.getElem_cons_drop]; exact (List.take_append_drop i l).symm
  have hr : Rises lt (l.take i ++ (l[i].1, l[i].2) :: l.drop (i + 1)) := by rw [← hs]; exact h
  have := look_here L hr
  rw [← hs] at this
  exact this

theorem look_none (L : Lin lt) {k : κ} {l : List (κ × ν)} (h : ∀ e ∈ l, e.1 ≠ k) : look lt k l = none := by
  induction l with
  | nil => rfl
  | cons e l ih =>
    simp only [look]
    split
    · rfl
    · split
      · exact ih fun e' he => h e' (List.mem_cons_of_mem _ he)
      · rename_i h1 h2
        exact absurd (L.tri _ _ (by simpa using h2) (by simpa using h1)) (h e List.mem_cons_self)

theorem rank_all {k : κ} {l : List (κ × ν)} (h : ∀ e ∈ l, lt e.1 k = true) : rank lt k l = l.length := by
  unfold rank
  rw [List.filter_eq_self.2 h]
theorem rank_zero {k : κ} {l : List (κ × ν)} (h : ∀ e ∈ l, lt e.1 k = false) : rank lt k l = 0 := by
  unfold rank
  rw [List.filter_eq_nil_iff.2 fun e he => by simp [h e he]]
  rfl
theorem rank_le (k : κ) (l : List (κ × ν)) : rank lt k l ≤ l.length := List.length_filter_le _ _
theorem rank_snoc (k : κ) (l : List (κ × ν)) (e : κ × ν) : rank lt k (l ++ [e]) = if lt e.1 k then rank lt k l + 1 else rank lt k l := by
  unfold rank
  rw [List.filter_append, List.length_append]
  split
  · rename_i h; simp [h]
  · rename_i h; simp [h]

/-- A rising row falls apart at a key's rank. -/
theorem split_rank (L : Lin lt) (k : κ) {l : List (κ × ν)} (h : Rises lt l) : (∀ e ∈ l.take (rank lt k l), lt e.1 k = true) ∧ ∀ e ∈ l.drop (rank lt k l), lt e.1 k = false := by
  induction l with
  | nil => exact ⟨by simp, by simp⟩
  | cons a l ih =>
    cases ha : lt a.1 k with
    | true =>
      have e : rank lt k (a :: l) = rank lt k l + 1 := by simp [rank, ha]
      rw [e]
      obtain ⟨h1, h2⟩ := ih h.tail
      refine ⟨fun x hx => ?_, fun x hx => h2 x (by simpa using hx)⟩
      rcases List.mem_cons.1 (by simpa using hx) with rfl | hx
      · exact ha
      · exact h1 x hx
    | false =>
      have hall : ∀ x ∈ a :: l, lt x.1 k = false := fun x hx => by
        rcases List.mem_cons.1 hx with rfl | hx
        · exact ha
        cases hc : lt x.1 k with
        | false => rfl
        | true => exact absurd (L.tr _ _ _ ((List.pairwise_cons.1 h).1 x hx) hc) (by rw [ha]; decide)
      rw [rank_zero hall]
      exact ⟨by simp, by simpa using hall⟩

/-- The row behind a key's rank: of what is not below it. -/
theorem ins_ge {k : κ} {v : ν} {l : List (κ × ν)} (hge : ∀ e ∈ l, lt e.1 k = false) : ins lt k v l = (k, v) :: l.drop (if (look lt k l).isSome then 1 else 0) := by
  cases l with
  | nil => simp [ins, look]
  | cons a l =>
    have ha := hge a List.mem_cons_self
    simp only [ins, look, ha]
    split
    · simp
    · simp
theorem rem_ge {k : κ} {l : List (κ × ν)} (hge : ∀ e ∈ l, lt e.1 k = false) : rem lt k l = l.drop (if (look lt k l).isSome then 1 else 0) := by
  cases l with
  | nil => simp [rem, look]
  | cons a l =>
    have ha := hge a List.mem_cons_self
    simp only [rem, look, ha]
    split
    · simp
    · simp

theorem ins_eq (L : Lin lt) {k : κ} {v : ν} {l : List (κ × ν)} (h : Rises lt l) : ins lt k v l = l.take (rank lt k l) ++ (k, v) :: l.drop (rank lt k l + if (look lt k l).isSome then 1 else 0) := by
  obtain ⟨h1, h2⟩ := split_rank L k h
  have e1 : ins lt k v l = l.take (rank lt k l) ++ ins lt k v (l.drop (rank lt k l)) := by
    rw [← ins_skip L h1, List.take_append_drop]
  have e2 : look lt k l = look lt k (l.drop (rank lt k l)) := by
    rw [← look_skip L h1 (r := l.drop (rank lt k l)), List.take_append_drop]
  rw [e1, ins_ge h2, ← e2, List.drop_drop]

theorem rem_eq (L : Lin lt) {k : κ} {l : List (κ × ν)} (h : Rises lt l) : rem lt k l = l.take (rank lt k l) ++ l.drop (rank lt k l + if (look lt k l).isSome then 1 else 0) := by
  obtain ⟨h1, h2⟩ := split_rank L k h
  have e1 : rem lt k l = l.take (rank lt k l) ++ rem lt k (l.drop (rank lt k l)) := by
    rw [← rem_skip L h1, List.take_append_drop]
  have e2 : look lt k l = look lt k (l.drop (rank lt k l)) := by
    rw [← look_skip L h1 (r := l.drop (rank lt k l)), List.take_append_drop]
  rw [e1, rem_ge h2, ← e2, List.drop_drop]
theorem rem_none (L : Lin lt) {k : κ} {l : List (κ × ν)} (h : Rises lt l) (hn : look lt k l = none) : rem lt k l = l := by
  rw [rem_eq L h, hn]
  simp

/-- A key that is there has a rank below the row's length. -/
theorem rank_lt (L : Lin lt) {k : κ} {l : List (κ × ν)} (h : Rises lt l) (hs : (look lt k l).isSome = true) : rank lt k l < l.length := by
  obtain ⟨h1, h2⟩ := split_rank L k h
  rcases Nat.lt_or_ge (rank lt k l) l.length with hlt | hge
  · exact hlt
  exfalso
  rw [List.take_of_length_le hge] at h1
  have := look_skip L h1 (r := [])
  rw [List.append_nil] at this
  rw [this] at hs
  simp [look] at hs

/-- The entry at a place. -/
def getI (l : List (κ × ν)) (i : Int) : Option (κ × ν) := if 0 ≤ i then l[i.toNat]? else none

theorem getI_here {ll lr : List (κ × ν)} {e : κ × ν} {i : Int} (h : i = (ll.length : Int)) : getI (ll ++ e :: lr) i = some e := by
  subst h
  unfold getI
  rw [if_pos (by omega)]
  simp
theorem getI_left {ll lr : List (κ × ν)} {e : κ × ν} {i : Int} (h : i < (ll.length : Int)) : getI (ll ++ e :: lr) i = getI ll i := by
  unfold getI
  split
  · rw [List.getElem?_append_left (by omega)]
  · rfl
theorem getI_right {ll lr : List (κ × ν)} {e : κ × ν} {i : Int} (h : (ll.length : Int) < i) : getI (ll ++ e :: lr) i = getI lr (i - ((ll.length : Int) + 1)) := by
  unfold getI
  rw [if_pos (by omega), if_pos (by omega), List.getElem?_append_right (by omega), show i.toNat - ll.length = (i - ((ll.length : Int) + 1)).toNat + 1 by omega, List.getElem?_cons_succ]
theorem getI_nil {i : Int} : getI ([] : List (κ × ν)) i = none := by unfold getI; split <;> simp
theorem getI_nat {l : List (κ × ν)} (i : Nat) : getI l (i : Int) = l[i]? := by unfold getI; rw [if_pos (by omega)]; simp
theorem getI_some {l : List (κ × ν)} {i : Int} : (getI l i).isSome = decide (0 ≤ i ∧ i < (l.length : Int)) := by
  unfold getI
  split
  · rename_i h
    rcases Nat.lt_or_ge i.toNat l.length with h1 | h1
    · rw [List.getElem?_eq_getElem h1]
      exact (decide_eq_true (by omega)).symm
    · rw [List.getElem?_eq_none h1]
      exact (decide_eq_false (by omega)).symm
  · rename_i h
    exact (decide_eq_false (by omega)).symm

/-! ### spans -/
/-- The entries of a span. -/
def span (lt : κ → κ → Bool) (k to : κ) (l : List (κ × ν)) : List (κ × ν) := l.filter fun e => (!lt e.1 k) && lt e.1 to
/-- The keys of a span, at most so many. -/
def btw (lt : κ → κ → Bool) (k to : κ) (most : Int) (l : List (κ × ν)) : List κ := ((span lt k to l).map fun e => e.1).take most.toNat

theorem span_eq (L : Lin lt) (k to : κ) {l : List (κ × ν)} (h : Rises lt l) : span lt k to l = (l.drop (rank lt k l)).takeWhile fun e => lt e.1 to := by
  obtain ⟨h1, h2⟩ := split_rank L k h
  unfold span
  conv => lhs; rw [← List.take_append_drop (rank lt k l) l]
  rw [List.filter_append, List.filter_eq_nil_iff.2 (fun e he => by simp [h1 e he]), List.nil_append]
  have hd : Rises lt (l.drop (rank lt k l)) := h.sublist (List.drop_sublist _ _)
  generalize l.drop (rank lt k l) = r at *
  clear h h1
  induction r with
  | nil => rfl
  | cons a r ih =>
    have ha := h2 a List.mem_cons_self
    have hr := ih (fun e he => h2 e (List.mem_cons_of_mem _ he)) hd.tail
    cases hb : lt a.1 to with
    | true => simp [ha, hb, hr]
    | false =>
      rw [List.takeWhile_cons_of_neg (by simp [hb])]
      refine List.filter_eq_nil_iff.2 fun e he => ?_
      rcases List.mem_cons.1 he with rfl | he
      · simp [hb]
      · have := (List.pairwise_cons.1 hd).1 e he
        have : lt e.1 to = false := by
          cases hc : lt e.1 to with
          | false => rfl
          | true => exact absurd (L.tr _ _ _ this hc) (by rw [hb]; decide)
        simp [this]

/-- One step of a reader that begins at a key's rank. -/
theorem span_step (L : Lin lt) (k to : κ) {l : List (κ × ν)} (h : Rises lt l) {j : Nat} (hj : j ≤ (span lt k to l).length) :
    (l[rank lt k l + j]? = none → (span lt k to l).length = j) ∧
    (∀ e, l[rank lt k l + j]? = some e → (lt e.1 to = false → (span lt k to l).length = j) ∧ (lt e.1 to = true → j < (span lt k to l).length ∧ ((span lt k to l).map fun e => e.1).take (j + 1) = ((span lt k to l).map fun e => e.1).take j ++ [e.1])) := by
  rw [span_eq L k to h] at *
  rw [← List.getElem?_drop]
  generalize l.drop (rank lt k l) = r at *
  clear h
  revert j
  induction r with
  | nil => intro j hj; simp at hj; subst hj; simp
  | cons a r ih =>
    intro j hj
    cases hb : lt a.1 to with
    | false =>
      rw [List.takeWhile_cons_of_neg (by simp [hb])] at *
      simp at hj
      subst hj
      refine ⟨by simp, fun e he => ?_⟩
      simp at he
      subst he
      exact ⟨fun _ => rfl, fun h => by rw [hb] at h; cases h⟩
    | true =>
      rw [List.takeWhile_cons_of_pos (by simp [hb])] at *
      cases j with
      | zero =>
        refine ⟨by simp, fun e he => ?_⟩
        simp at he
        subst he
        exact ⟨fun h => absurd h (by rw [hb]; decide), fun _ => ⟨by simp, by simp⟩⟩
      | succ j =>
        have := @ih j (by simpa using hj)
        simp only [List.getElem?_cons_succ, List.length_cons, List.map_cons, List.take_succ_cons, List.cons_append]
        refine ⟨fun h => congrArg (· + 1) (this.1 h), fun e he => ⟨fun h => congrArg (· + 1) ((this.2 e he).1 h), fun h => ⟨?_, ?_⟩⟩⟩
        · have := ((this.2 e he).2 h).1
          omega
        · rw [((this.2 e he).2 h).2]

theorem btw_snoc (k to : κ) (most : Int) (l : List (κ × ν)) (e : κ × ν) :
    btw lt k to most (l ++ [e]) = if lt e.1 k = false ∧ lt e.1 to = true ∧ ((btw lt k to most l).length : Int) < most then btw lt k to most l ++ [e.1] else btw lt k to most l := by
  unfold btw span
  rw [List.filter_append, List.map_append]
  generalize hX : List.map (fun e => e.1) (List.filter (fun e : κ × ν => (!lt e.1 k) && lt e.1 to) l) = X
  cases h1 : lt e.1 k with
  | true => simp [h1]
  | false =>
    cases h2 : lt e.1 to with
    | false => simp [h2]
    | true =>
      simp only [List.filter_cons, h1, h2, Bool.not_false, Bool.and_self, if_true, List.filter_nil, List.map_cons, List.map_nil, true_and, List.length_take]
      split
      · rename_i h3
        rw [List.take_of_length_le (l := X ++ [e.1]) (by simp; omega), List.take_of_length_le (l := X) (by omega)]
      · rename_i h3
        rw [List.take_append_of_le_length (by omega)]
theorem btw_nil (k to : κ) (most : Int) : btw lt k to most ([] : List (κ × ν)) = [] := by simp [btw, span]
theorem btw_le (k to : κ) (most : Int) (l : List (κ × ν)) : (btw lt k to most l).length ≤ l.length := by
  unfold btw span
  rw [List.length_take, List.length_map]
  have := List.length_filter_le (fun e : κ × ν => (!lt e.1 k) && lt e.1 to) l
  omega
end
end Go.Proofs.Ytgiaifglkecdjaa
