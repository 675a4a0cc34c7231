/- OrderedFold's plain law: entries put in any order are the same row. No program in sight. -/
import Derived.Test.YtbpmigcbfbdnjaaRowP
namespace Go.Proofs.Ytbpmigcbfbdnjaa

section
variable {κ : Type} {lt : κ → κ → Bool}

theorem ins_mem_of {ν : Type} (L : Lin lt) {k : κ} {v : ν} {l : List (κ × ν)} {e : κ × ν} (h : e ∈ l) (hk : e.1 = k → e = (k, v)) : e ∈ ins lt k v l := by
  induction l with
  | nil => cases h
  | cons a l ih =>
    simp only [ins]
    split
    · exact List.mem_cons_of_mem _ h
    · split
      · rcases List.mem_cons.1 h with rfl | h
        · exact List.mem_cons_self
        · exact List.mem_cons_of_mem _ (ih h)
      · rename_i h2 h3
        rcases List.mem_cons.1 h with rfl | h
        · rw [hk (L.tri _ _ (by simpa using h3) (by simpa using h2))]
          exact List.mem_cons_self
        · exact List.mem_cons_of_mem _ h

theorem ins_mem_self {ν : Type} {k : κ} {v : ν} {l : List (κ × ν)} : (k, v) ∈ ins lt k v l := by
  induction l with
  | nil => simp [ins]
  | cons a l ih =>
    simp only [ins]
    split
    · exact List.mem_cons_self
    · split
      · exact List.mem_cons_of_mem _ ih
      · exact List.mem_cons_self

theorem rises_ext {ν : Type} (L : Lin lt) : ∀ {l r : List (κ × ν)}, Rises lt l → Rises lt r → (∀ e, e ∈ l ↔ e ∈ r) → l = r := by
  intro l
  induction l with
  | nil =>
    intro r _ _ h
    cases r with
    | nil => rfl
    | cons a r => exact absurd ((h a).2 (by simp)) (by simp)
  | cons a l ih =>
    intro r hl hr h
    cases r with
    | nil => exact absurd ((h a).1 (by simp)) (by simp)
    | cons b r =>
      have h1 := List.pairwise_cons.1 hl
      have h2 := List.pairwise_cons.1 hr
      have hab : a = b := by
        rcases List.mem_cons.1 ((h a).1 (by simp)) with e | ha
        · exact e
        rcases List.mem_cons.1 ((h b).2 (by simp)) with e | hb
        · exact e.symm
        have x1 := h2.1 a ha
        have x2 := h1.1 b hb
        rw [L.asy x1] at x2
        cases x2
      subst hab
      have hnl : a ∉ l := fun ha => by have := h1.1 a ha; rw [L.irr] at this; cases this
      have hnr : a ∉ r := fun ha => by have := h2.1 a ha; rw [L.irr] at this; cases this
      rw [ih hl.tail hr.tail fun e => ⟨fun he => by
        rcases List.mem_cons.1 ((h e).1 (by simp [he])) with rfl | h'
        · exact absurd he hnl
        · exact h', fun he => by
        rcases List.mem_cons.1 ((h e).2 (by simp [he])) with rfl | h'
        · exact absurd he hnr
        · exact h'⟩]

/-- The row of all keys of a list, each with the value 1. -/
def insAll (lt : κ → κ → Bool) (l : List κ) : List (κ × Int) := l.foldl (fun L k => ins lt k 1 L) []

theorem insAll_snoc (l : List κ) (k : κ) : insAll lt (l ++ [k]) = ins lt k 1 (insAll lt l) := by simp [insAll]

theorem insAux (L : Lin lt) : ∀ (l : List κ) (R : List (κ × Int)), Rises lt R → (∀ e ∈ R, e.2 = 1) →
    Rises lt (l.foldl (fun L k => ins lt k 1 L) R) ∧ ∀ e, e ∈ l.foldl (fun L k => ins lt k 1 L) R ↔ (e ∈ R ∨ (e.2 = 1 ∧ e.1 ∈ l)) := by
  intro l
  induction l with
  | nil => intro R hr h1; exact ⟨hr, fun e => by simp⟩
  | cons k l ih =>
    intro R hr h1
    have hm : ∀ e, e ∈ ins lt k 1 R ↔ (e ∈ R ∨ e = (k, 1)) := fun e => ⟨fun he => (ins_mem he).symm, fun he => by
      rcases he with he | rfl
      · exact ins_mem_of L he fun hk => Prod.ext hk (h1 e he)
      · exact ins_mem_self⟩
    obtain ⟨a, b⟩ := ih (ins lt k 1 R) (ins_rises L hr) fun e he => by
      rcases (hm e).1 he with he | rfl
      · exact h1 e he
      · rfl
    refine ⟨a, fun e => ?_⟩
    rw [List.foldl_cons, b e, hm e]
    constructor
    · rintro ((h | rfl) | ⟨h, h'⟩)
      · exact .inl h
      · exact .inr ⟨rfl, by simp⟩
      · exact .inr ⟨h, by simp [h']⟩
    · rintro (h | ⟨h, h'⟩)
      · exact .inl (.inl h)
      · rcases List.mem_cons.1 h' with h' | h'
        · exact .inl (.inr (Prod.ext h' h))
        · exact .inr ⟨h, h'⟩

theorem insAll_rises (L : Lin lt) (l : List κ) : Rises lt (insAll lt l) := (insAux L l [] List.Pairwise.nil (by simp)).1
theorem insAll_mem (L : Lin lt) (l : List κ) (e : κ × Int) : e ∈ insAll lt l ↔ (e.2 = 1 ∧ e.1 ∈ l) := by
  have := (insAux L l [] List.Pairwise.nil (by simp)).2 e
  unfold insAll
  rw [this]
  simp
theorem insAll_eq (L : Lin lt) {l r : List κ} (h : ∀ k, k ∈ l ↔ k ∈ r) : insAll lt l = insAll lt r :=
  rises_ext L (insAll_rises L l) (insAll_rises L r) fun e => by rw [insAll_mem L, insAll_mem L, h]
theorem insAll_len (l : List κ) : (insAll lt l).length ≤ l.length := by
  have : ∀ (l : List κ) (R : List (κ × Int)), (l.foldl (fun L k => ins lt k 1 L) R).length ≤ R.length + l.length := by
    intro l
    induction l with
    | nil => intro R; exact Nat.le_refl _
    | cons k l ih =>
      intro R
      have h1 := ih (ins lt k 1 R)
      have h2 : (ins lt k 1 R).length ≤ R.length + 1 := by rw [ins_length]; split <;> omega
      simp only [List.foldl_cons, List.length_cons]
      omega
  have h := this l []
  simpa [insAll] using h

/-- A list turned by r. -/
def turned (l : List Int) (r : Nat) : List Int := (List.range l.length).map fun i => l.getD ((r + i) % l.length) 0
theorem turned_take (l : List Int) (r k : Nat) (h : k < l.length) : (turned l r).take (k + 1) = (turned l r).take k ++ [l.getD ((r + k) % l.length) 0] := by
  rw [List.take_succ_eq_append_getElem (by simp [turned]; exact h)]
  simp [turned]
theorem turned_len (l : List Int) (r : Nat) : (turned l r).length = l.length := by simp [turned]
theorem turned_mem (l : List Int) (r : Nat) (k : Int) : k ∈ l ↔ k ∈ turned l r := by
  constructor
  · intro h
    obtain ⟨j, hj, rfl⟩ := List.mem_iff_getElem.1 h
    refine List.mem_map.2 ⟨(j + (l.length - r % l.length)) % l.length, List.mem_range.2 (Nat.mod_lt _ (by omega)), ?_⟩
    have hr : r % l.length < l.length := Nat.mod_lt _ (by omega)
    have e : (r + (j + (l.length - r % l.length)) % l.length) % l.length = j := by
      rw [Nat.add_mod_mod, ← Nat.mod_add_mod, show r % l.length + (j + (l.length - r % l.length)) = j + l.length by omega, Nat.add_mod_right, Nat.mod_eq_of_lt hj]
    rw [e, List.getD_eq_getElem?_getD, List.getElem?_eq_getElem hj]
    rfl
  · intro h
    obtain ⟨i, hi, rfl⟩ := List.mem_map.1 h
    have hl := List.mem_range.1 hi
    have hm : (r + i) % l.length < l.length := Nat.mod_lt _ (by omega)
    rw [List.getD_eq_getElem?_getD, List.getElem?_eq_getElem hm]
    exact List.getElem_mem _

theorem rank_get {ν : Type} (L : Lin lt) {l : List (κ × ν)} (h : Rises lt l) (i : Nat) (hi : i < l.length) : rank lt l[i].1 l = i := by
  have hs : l = l.take i ++ l[i] :: l.drop (i + 1) := by rw [List.getElem_cons_drop]; exact (List.take_append_drop i l).symm
  have hr : Rises lt (l.take i ++ (l[i].1, l[i].2) :: l.drop (i + 1)) := by rw [← hs]; exact h
  have := rank_left L hr (L.irr l[i].1)
  rw [← hs] at this
  rw [this]
  unfold rank
  rw [List.filter_eq_self.2 fun e he => hr.below e he, List.length_take]
  omega
end
end Go.Proofs.Ytbpmigcbfbdnjaa
