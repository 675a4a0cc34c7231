/- Rows of entries by rising keys: put, take away, find, rank. No program in sight. -/
import Derived.Test.YtgiaifglkecdjaaBase
namespace Go.Proofs.Ytgiaifglkecdjaa

/-- An order of keys. -/
structure Lin {κ : Type} (lt : κ → κ → Bool) : Prop where
  irr : ∀ a, lt a a = false
  tr : ∀ a b c, lt a b = true → lt b c = true → lt a c = true
  tri : ∀ a b, lt a b = false → lt b a = false → a = b

section Rows
variable {κ ν : Type} (lt : κ → κ → Bool)

def Rises (l : List (κ × ν)) : Prop := l.Pairwise fun a b => lt a.1 b.1 = true

def ins (k : κ) (v : ν) : List (κ × ν) → List (κ × ν)
  | [] => [(k, v)]
  | e :: l => if lt k e.1 then (k, v) :: e :: l else if lt e.1 k then e :: ins k v l else (k, v) :: l

def rem (k : κ) : List (κ × ν) → List (κ × ν)
  | [] => []
  | e :: l => if lt k e.1 then e :: l else if lt e.1 k then e :: rem k l else l

/-- The value of a key. -/
def look (k : κ) : List (κ × ν) → Option ν
  | [] => none
  | e :: l => if lt k e.1 then none else if lt e.1 k then look k l else some e.2

/-- How many keys are below one. -/
def rank (k : κ) (l : List (κ × ν)) : Nat := (l.filter fun e => lt e.1 k).length

variable {lt}

theorem Lin.asy (L : Lin lt) {a b : κ} (h : lt a b = true) : lt b a = false := by
  cases h' : lt b a with
  | false => rfl
  | true => have := L.tr a b a h h'; rw [L.irr] at this; cases this

theorem Rises.left {l r : List (κ × ν)} (h : Rises lt (l ++ r)) : Rises lt l := (List.pairwise_append.1 h).1
theorem Rises.right {l r : List (κ × ν)} (h : Rises lt (l ++ r)) : Rises lt r := (List.pairwise_append.1 h).2.1
theorem Rises.tail {e : κ × ν} {l : List (κ × ν)} (h : Rises lt (e :: l)) : Rises lt l := (List.pairwise_cons.1 h).2
theorem Rises.below {l r : List (κ × ν)} {k v} (h : Rises lt (l ++ (k, v) :: r)) : ∀ e ∈ l, lt e.1 k = true := fun e he => (List.pairwise_append.1 h).2.2 e he (k, v) (by simp)
theorem Rises.above {l r : List (κ × ν)} {k v} (h : Rises lt (l ++ (k, v) :: r)) : ∀ e ∈ r, lt k e.1 = true := fun e he => (List.pairwise_cons.1 h.right).1 e he

theorem ins_left {k a : κ} {v b : ν} {l r : List (κ × ν)} (h : lt k a = true) : ins lt k v (l ++ (a, b) :: r) = ins lt k v l ++ (a, b) :: r := by
  induction l with
  | nil => simp [ins, h]
  | cons e l ih =>
    simp only [List.cons_append, ins]
    rw [ih]
    split
    · rfl
    · split <;> rfl

theorem ins_skip (L : Lin lt) {k : κ} {v : ν} {l r : List (κ × ν)} (h : ∀ e ∈ l, lt e.1 k = true) : ins lt k v (l ++ r) = l ++ ins lt k v r := by
  induction l with
  | nil => rfl
  | cons e l ih =>
    have he := h e (by simp)
    simp only [List.cons_append, ins]
    rw [if_neg (by rw [L.asy he]; simp), if_pos he, ih fun x hx => h x (by simp [hx])]

theorem ins_right (L : Lin lt) {k a : κ} {v b : ν} {l r : List (κ × ν)} (hr : Rises lt (l ++ (a, b) :: r)) (h : lt a k = true) : ins lt k v (l ++ (a, b) :: r) = l ++ (a, b) :: ins lt k v r := by
  rw [ins_skip L fun e he => L.tr _ _ _ (hr.below e he) h]
  simp [ins, L.asy h, h]

theorem ins_here (L : Lin lt) {k : κ} {v b : ν} {l r : List (κ × ν)} (hr : Rises lt (l ++ (k, b) :: r)) : ins lt k v (l ++ (k, b) :: r) = l ++ (k, v) :: r := by
  rw [ins_skip L fun e he => hr.below e he]
  simp [ins, L.irr]

theorem rem_left {k a : κ} {b : ν} {l r : List (κ × ν)} (h : lt k a = true) : rem lt k (l ++ (a, b) :: r) = rem lt k l ++ (a, b) :: r := by
  induction l with
  | nil => simp [rem, h]
  | cons e l ih =>
    simp only [List.cons_append, rem]
    rw [ih]
    split
    · rfl
    · split <;> rfl

theorem rem_skip (L : Lin lt) {k : κ} {l r : List (κ × ν)} (h : ∀ e ∈ l, lt e.1 k = true) : rem lt k (l ++ r) = l ++ rem lt k r := by
  induction l with
  | nil => rfl
  | cons e l ih =>
    have he := h e (by simp)
    simp only [List.cons_append, rem]
    rw [if_neg (by rw [L.asy he]; simp), if_pos he, ih fun x hx => h x (by simp [hx])]

theorem rem_right (L : Lin lt) {k a : κ} {b : ν} {l r : List (κ × ν)} (hr : Rises lt (l ++ (a, b) :: r)) (h : lt a k = true) : rem lt k (l ++ (a, b) :: r) = l ++ (a, b) :: rem lt k r := by
  rw [rem_skip L fun e he => L.tr _ _ _ (hr.below e he) h]
  simp [rem, L.asy h, h]

theorem rem_here (L : Lin lt) {k : κ} {b : ν} {l r : List (κ × ν)} (hr : Rises lt (l ++ (k, b) :: r)) : rem lt k (l ++ (k, b) :: r) = l ++ r := by
  rw [rem_skip L fun e he => hr.below e he]
  simp [rem, L.irr]

theorem look_left {k a : κ} {b : ν} {l r : List (κ × ν)} (h : lt k a = true) : look lt k (l ++ (a, b) :: r) = look lt k l := by
  induction l with
  | nil => simp [look, h]
  | cons e l ih => simp only [List.cons_append, look, ih]

theorem look_skip (L : Lin lt) {k : κ} {l r : List (κ × ν)} (h : ∀ e ∈ l, lt e.1 k = true) : look lt k (l ++ r) = look lt k r := by
  induction l with
  | nil => rfl
  | cons e l ih =>
    have he := h e (by simp)
    simp only [List.cons_append, look]
    rw [if_neg (by rw [L.asy he]; simp), if_pos he, ih fun x hx => h x (by simp [hx])]

theorem look_right (L : Lin lt) {k a : κ} {b : ν} {l r : List (κ × ν)} (hr : Rises lt (l ++ (a, b) :: r)) (h : lt a k = true) : look lt k (l ++ (a, b) :: r) = look lt k r := by
  rw [look_skip L fun e he => L.tr _ _ _ (hr.below e he) h]
  simp [look, L.asy h, h]

theorem look_here (L : Lin lt) {k : κ} {b : ν} {l r : List (κ × ν)} (hr : Rises lt (l ++ (k, b) :: r)) : look lt k (l ++ (k, b) :: r) = some b := by
  rw [look_skip L fun e he => hr.below e he]
  simp [look, L.irr]

/-! ### what rises goes on rising -/
theorem ins_mem {k : κ} {v : ν} {l : List (κ × ν)} {e : κ × ν} (h : e ∈ ins lt k v l) : e = (k, v) ∨ e ∈ l := by
  induction l with
  | nil => simpa [ins] using h
  | cons a l ih =>
    simp only [ins] at h
    split at h
    · simpa using h
    · split at h
      · rcases List.mem_cons.1 h with rfl | h
        · simp
        · rcases ih h with h | h
          · exact .inl h
          · exact .inr (by simp [h])
      · rcases List.mem_cons.1 h with rfl | h
        · simp
        · exact .inr (by simp [h])

theorem ins_rises (L : Lin lt) {k : κ} {v : ν} {l : List (κ × ν)} (h : Rises lt l) : Rises lt (ins lt k v l) := by
  induction l with
  | nil => simp [ins, Rises]
  | cons a l ih =>
    have h1 := List.pairwise_cons.1 h
    simp only [ins]
    split
    · rename_i hk
      refine List.pairwise_cons.2 ⟨fun e he => ?_, h⟩
      rcases List.mem_cons.1 he with rfl | he
      · exact hk
      · exact L.tr _ _ _ hk (h1.1 e he)
    · split
      · rename_i hk
        refine List.pairwise_cons.2 ⟨fun e he => ?_, ih h.tail⟩
        rcases ins_mem he with rfl | he
        · exact hk
        · exact h1.1 e he
      · rename_i h2 h3
        obtain rfl := L.tri k a.1 (by simpa using h2) (by simpa using h3)
        exact List.pairwise_cons.2 ⟨fun e he => h1.1 e he, h.tail⟩

theorem rem_sub {k : κ} {l : List (κ × ν)} : (rem lt k l).Sublist l := by
  induction l with
  | nil => exact List.Sublist.refl _
  | cons a l ih =>
    simp only [rem]
    split
    · exact List.Sublist.refl _
    · split
      · exact ih.cons_cons a
      · exact List.sublist_cons_self a l

theorem rem_rises {k : κ} {l : List (κ × ν)} (h : Rises lt l) : Rises lt (rem lt k l) := h.sublist rem_sub

theorem ins_length {k : κ} {v : ν} {l : List (κ × ν)} : (ins lt k v l).length = if (look lt k l).isSome then l.length else l.length + 1 := by
  induction l with
  | nil => simp [ins, look]
  | cons a l ih =>
    simp only [ins, look]
    split
    · simp
    · split
      · simp only [List.length_cons, ih]
        split <;> rfl
      · simp

theorem rem_length {k : κ} {l : List (κ × ν)} : (rem lt k l).length = if (look lt k l).isSome then l.length - 1 else l.length := by
  induction l with
  | nil => simp [rem, look]
  | cons a l ih =>
    simp only [rem, look]
    split
    · simp
    · split
      · simp only [List.length_cons, ih]
        split
        · rename_i h
          have : l ≠ [] := by rintro rfl; simp [look] at h
          have := List.length_pos_iff.2 this
          omega
        · rfl
      · simp

theorem rem_look (L : Lin lt) {k : κ} {l : List (κ × ν)} (h : Rises lt l) : look lt k (rem lt k l) = none := by
  induction l with
  | nil => rfl
  | cons a l ih =>
    have h1 := List.pairwise_cons.1 h
    simp only [rem]
    split
    · rename_i hk; simp [look, hk]
    · split
      · rename_i h2 h3
        simp only [look]
        rw [if_neg h2, if_pos h3]
        exact ih h.tail
      · rename_i h2 h3
        obtain rfl := L.tri k a.1 (by simpa using h2) (by simpa using h3)
        cases l with
        | nil => rfl
        | cons c l => simp [look, h1.1 c (by simp)]

/-! ### rank -/
theorem rank_left (L : Lin lt) {k a : κ} {b : ν} {l r : List (κ × ν)} (hr : Rises lt (l ++ (a, b) :: r)) (h : lt a k = false) : rank lt k (l ++ (a, b) :: r) = rank lt k l := by
  unfold rank
  rw [List.filter_append, List.filter_cons, h, List.length_append]
  have : (r.filter fun e => lt e.1 k) = [] := by
    rw [List.filter_eq_nil_iff]
    intro e he h'
    have h1 := hr.above e he
    have h2 := L.tr _ _ _ h1 h'
    rw [h] at h2
    cases h2
  rw [this]
  simp

theorem rank_right (L : Lin lt) {k a : κ} {b : ν} {l r : List (κ × ν)} (hr : Rises lt (l ++ (a, b) :: r)) (h : lt a k = true) : rank lt k (l ++ (a, b) :: r) = l.length + 1 + rank lt k r := by
  unfold rank
  rw [List.filter_append, List.filter_cons, if_pos h, List.length_append]
  have : (l.filter fun e => lt e.1 k) = l := by
    rw [List.filter_eq_self]
    exact fun e he => L.tr _ _ _ (hr.below e he) h
  rw [this]
  simp
  omega
end Rows
end Go.Proofs.Ytgiaifglkecdjaa
