/- Trees in memory, whose nodes are never turned: each with its shape; what the balanced trees' functions make of shapes. No program in sight. -/
import Derived.Test.YtgiaifglkecdjaaBase
namespace Go.Proofs.Ytgiaifglkecdjaa
open Go.RowKit

theorem below_dr {B : Nat} {a w : World} (h : Below B a w) : Below B a w.drew := ⟨h.os, h.tape, h.output, h.size, h.block⟩

/-- All blocks that were stay as they are. -/
def BK (w w' : World) : Prop := ∀ b, b < w.heap.size → w'.heap[b]? = w.heap[b]?
theorem BK.refl (w : World) : BK w w := fun _ _ => rfl
theorem BK.trans {a b c : World} (h : BK a b) (k : BK b c) : BK a c := fun i hi => by
  have h1 := h i hi
  have h2 : i < b.heap.size := by
    rw [Array.getElem?_eq_getElem hi] at h1
    exact (Array.getElem?_eq_some_iff.1 h1).1
  exact (k i h2).trans h1
theorem BK.of_below {w w' : World} (h : Below w.heap.size w w') : BK w w' := fun i hi => h.block i hi
theorem BK.drew (w : World) : BK w w.drew := fun _ _ => rfl
theorem BK.drewN (w : World) (n : Nat) : BK w (w.drewN n) := fun _ _ => rfl
theorem BK.cell {w w' : World} (h : BK w w') : Keeps w w' := fun p v hp => by
  have hb := World.block_lt_of_cell? w p hp
  rw [World.cell?_of_block (h p.block hb)]
  exact hp

/-! ### shapes: a model's code serves as a tree's shape: skip is the empty one, seq a node -/
def ht : Code → Nat
  | .seq a b => 1 + max (ht a) (ht b)
  | _ => 0
def sz : Code → Nat
  | .seq a b => sz a + sz b + 1
  | _ => 0
def Bal : Code → Prop
  | .seq a b => ht a ≤ ht b + 1 ∧ ht b ≤ ht a + 1 ∧ Bal a ∧ Bal b
  | _ => True

def lowS : Code → Code → Code
  | .seq a b, r => if ht a < ht b then (match b with | .seq m1 m2 => .seq (.seq a m1) (.seq m2 r) | _ => .skip) else .seq a (.seq b r)
  | _, _ => .skip
def raiS (l : Code) : Code → Code
  | .seq a b => if ht b < ht a then (match a with | .seq m1 m2 => .seq (.seq l m1) (.seq m2 b) | _ => .skip) else .seq (.seq l a) b
  | _ => .skip
def joinS (l r : Code) : Code := if ht r + 1 < ht l then lowS l r else if ht l + 1 < ht r then raiS l r else .seq l r
def leastS : Code → Code
  | .seq a b => match a with | .skip => b | _ => joinS (leastS a) b
  | _ => .skip

section Tree
variable {κ ν : Type}

def putS (lt : κ → κ → Bool) (k : κ) : Code → List (κ × ν) → Code
  | .seq a b, l => match l.drop (sz a) with
    | [] => .skip
    | e :: lr => if lt k e.1 then joinS (putS lt k a (l.take (sz a))) b else if lt e.1 k then joinS a (putS lt k b lr) else .seq a b
  | _, _ => .seq .skip .skip
def delS (lt : κ → κ → Bool) (k : κ) : Code → List (κ × ν) → Code
  | .seq a b, l => match l.drop (sz a) with
    | [] => .skip
    | e :: lr => if lt k e.1 then joinS (delS lt k a (l.take (sz a))) b else if lt e.1 k then joinS a (delS lt k b lr) else (match b with | .skip => a | _ => joinS a (leastS b))
  | _, _ => .skip

/-- NP w b k v l r h s: block b is a node. A tree of shape s at p, with the entries l from left to right. -/
def Tr (NP : World → Nat → κ → ν → Option Addr → Option Addr → Nat → Nat → Prop) (w : World) : Code → Option Addr → List (κ × ν) → Prop
  | .seq a b, p, l => ∃ (g : Nat) (k : κ) (v : ν) (pl pr : Option Addr) (ll lr : List (κ × ν)), p = some ⟨g, 0, none⟩ ∧ NP w g k v pl pr (1 + max (ht a) (ht b)) (ll.length + lr.length + 1) ∧ l = ll ++ (k, v) :: lr ∧ Tr NP w a pl ll ∧ Tr NP w b pr lr
  | .skip, p, l => p = none ∧ l = []
  | _, _, _ => False

variable {NP : World → Nat → κ → ν → Option Addr → Option Addr → Nat → Nat → Prop}

theorem Tr.nil (w : World) : Tr NP w .skip none [] := ⟨rfl, rfl⟩

/-- What a tree at an address is. -/
theorem Tr.open {w : World} {s p l} (a : Tr NP w s p l) : (s = .skip ∧ p = none ∧ l = []) ∨ ∃ (b : Nat) (k : κ) (v : ν) (pl pr : Option Addr) (ll lr : List (κ × ν)) (sl sr : Code), p = some ⟨b, 0, none⟩ ∧ NP w b k v pl pr (1 + max (ht sl) (ht sr)) (ll.length + lr.length + 1) ∧ l = ll ++ (k, v) :: lr ∧
      s = .seq sl sr ∧ Tr NP w sl pl ll ∧ Tr NP w sr pr lr := by
  cases s with
  | seq x y =>
    obtain ⟨b, k, v, pl, pr, ll, lr, h1, h2, h3, h4, h5⟩ := a
    exact .inr ⟨b, k, v, pl, pr, ll, lr, x, y, h1, h2, h3, rfl, h4, h5⟩
  | skip => exact .inl ⟨rfl, a.1, a.2⟩
  | _ => exact a.elim

theorem Tr.keepAux {w w' : World} (hk : ∀ b k v pl pr h s, NP w b k v pl pr h s → NP w' b k v pl pr h s) : ∀ (n : Nat) (s : Code) (p : Option Addr) (l : List (κ × ν)), sz s ≤ n → Tr NP w s p l → Tr NP w' s p l := by
  intro n
  induction n with
  | zero =>
    intro s p l hn a
    rcases a.open with ⟨rfl, rfl, rfl⟩ | ⟨b, k, v, pl, pr, ll, lr, sl, sr, _, _, _, rfl, _, _⟩
    · exact Tr.nil w'
    · simp [sz] at hn
  | succ n ih =>
    intro s p l hn a
    rcases a.open with ⟨rfl, rfl, rfl⟩ | ⟨b, k, v, pl, pr, ll, lr, sl, sr, h1, h2, h3, rfl, h4, h5⟩
    · exact Tr.nil w'
    · simp only [sz] at hn
      exact ⟨b, k, v, pl, pr, ll, lr, h1, hk _ _ _ _ _ _ _ h2, h3, ih sl pl ll (by omega) h4, ih sr pr lr (by omega) h5⟩

theorem Tr.keep {w w' : World} {s p l} (a : Tr NP w s p l) (hk : ∀ b k v pl pr h s, NP w b k v pl pr h s → NP w' b k v pl pr h s) : Tr NP w' s p l := Tr.keepAux hk _ s p l (Nat.le_refl _) a

theorem Tr.node {w : World} {b k v pl pr ll lr sl sr} (hn : NP w b k v pl pr (1 + max (ht sl) (ht sr)) (ll.length + lr.length + 1)) (a : Tr NP w sl pl ll) (c : Tr NP w sr pr lr) :
    Tr NP w (.seq sl sr) (some ⟨b, 0, none⟩) (ll ++ (k, v) :: lr) := ⟨b, k, v, pl, pr, ll, lr, rfl, hn, rfl, a, c⟩

theorem ht_skip : ht .skip = 0 := rfl
theorem ht_seq (a b : Code) : ht (.seq a b) = 1 + max (ht a) (ht b) := rfl

theorem Tr.pos {w : World} {s p l} (a : Tr NP w s p l) (hp : 0 < ht s) : ∃ (b : Nat) (k : κ) (v : ν) (pl pr : Option Addr) (ll lr : List (κ × ν)) (sl sr : Code), p = some ⟨b, 0, none⟩ ∧ NP w b k v pl pr (1 + max (ht sl) (ht sr)) (ll.length + lr.length + 1) ∧ l = ll ++ (k, v) :: lr ∧
      s = .seq sl sr ∧ Tr NP w sl pl ll ∧ Tr NP w sr pr lr := by
  rcases a.open with ⟨rfl, _⟩ | x
  · simp [ht] at hp
  · exact x

theorem Tr.lenAux {w : World} : ∀ (n : Nat) (s : Code) (p : Option Addr) (l : List (κ × ν)), sz s ≤ n → Tr NP w s p l → l.length = sz s := by
  intro n
  induction n with
  | zero =>
    intro s p l hn a
    rcases a.open with ⟨rfl, rfl, rfl⟩ | ⟨b, k, v, pl, pr, ll, lr, sl, sr, _, _, _, rfl, _, _⟩
    · rfl
    · simp [sz] at hn
  | succ n ih =>
    intro s p l hn a
    rcases a.open with ⟨rfl, rfl, rfl⟩ | ⟨b, k, v, pl, pr, ll, lr, sl, sr, h1, h2, rfl, rfl, h4, h5⟩
    · rfl
    · simp only [sz] at hn ⊢
      have e1 := ih sl pl ll (by omega) h4
      have e2 := ih sr pr lr (by omega) h5
      simp only [List.length_append, List.length_cons]
      omega

theorem Tr.len {w : World} {s p l} (a : Tr NP w s p l) : l.length = sz s := Tr.lenAux _ s p l (Nat.le_refl _) a

theorem ht_le : ∀ (n : Nat) (s : Code), sz s ≤ n → ht s ≤ sz s := by
  intro n
  induction n with
  | zero =>
    intro s hn
    cases s with
    | seq a b => simp [sz] at hn
    | _ => exact Nat.le_refl _
  | succ n ih =>
    intro s hn
    cases s with
    | seq a b =>
      simp only [sz, ht] at *
      have := ih a (by omega)
      have := ih b (by omega)
      omega
    | _ => exact Nat.le_refl _
theorem Tr.le {w : World} {s p l} (a : Tr NP w s p l) : ht s ≤ l.length := by rw [a.len]; exact ht_le _ s (Nat.le_refl _)

theorem putS_lt {lt : κ → κ → Bool} {k : κ} {a b : Code} {ll lr : List (κ × ν)} {e : κ × ν} (h : ll.length = sz a) (h1 : lt k e.1 = true) : putS lt k (.seq a b) (ll ++ e :: lr) = joinS (putS lt k a ll) b := by
  simp only [putS, ← h, List.drop_left, List.take_left, h1, if_true]
theorem putS_gt {lt : κ → κ → Bool} {k : κ} {a b : Code} {ll lr : List (κ × ν)} {e : κ × ν} (h : ll.length = sz a) (h1 : lt k e.1 = false) (h2 : lt e.1 k = true) : putS lt k (.seq a b) (ll ++ e :: lr) = joinS a (putS lt k b lr) := by
  simp only [putS, ← h, List.drop_left, h1, h2, if_true]
  simp
theorem putS_eq {lt : κ → κ → Bool} {k : κ} {a b : Code} {ll lr : List (κ × ν)} {e : κ × ν} (h : ll.length = sz a) (h1 : lt k e.1 = false) (h2 : lt e.1 k = false) : putS lt k (.seq a b) (ll ++ e :: lr) = .seq a b := by
  simp only [putS, ← h, List.drop_left, h1, h2]
  simp
theorem delS_lt {lt : κ → κ → Bool} {k : κ} {a b : Code} {ll lr : List (κ × ν)} {e : κ × ν} (h : ll.length = sz a) (h1 : lt k e.1 = true) : delS lt k (.seq a b) (ll ++ e :: lr) = joinS (delS lt k a ll) b := by
  simp only [delS, ← h, List.drop_left, List.take_left, h1, if_true]
theorem delS_gt {lt : κ → κ → Bool} {k : κ} {a b : Code} {ll lr : List (κ × ν)} {e : κ × ν} (h : ll.length = sz a) (h1 : lt k e.1 = false) (h2 : lt e.1 k = true) : delS lt k (.seq a b) (ll ++ e :: lr) = joinS a (delS lt k b lr) := by
  simp only [delS, ← h, List.drop_left, h1, h2, if_true]
  simp
theorem delS_eq {lt : κ → κ → Bool} {k : κ} {a b : Code} {ll lr : List (κ × ν)} {e : κ × ν} (h : ll.length = sz a) (h1 : lt k e.1 = false) (h2 : lt e.1 k = false) : delS lt k (.seq a b) (ll ++ e :: lr) = (match b with | .skip => a | _ => joinS a (leastS b)) := by
  simp only [delS, ← h, List.drop_left, h1, h2]
  simp
theorem leastS_seq (x y b : Code) : leastS (.seq (.seq x y) b) = joinS (leastS (.seq x y)) b := rfl
end Tree

/-! ### balance -/
theorem joinS_bal {l r : Code} (bl : Bal l) (br : Bal r) (h1 : ht l ≤ ht r + 2) (h2 : ht r ≤ ht l + 2) :
    Bal (joinS l r) ∧ (max (ht l) (ht r) ≤ ht (joinS l r) ∧ ht (joinS l r) ≤ 1 + max (ht l) (ht r) ∧ (ht l ≤ ht r + 1 → ht r ≤ ht l + 1 → ht (joinS l r) = 1 + max (ht l) (ht r))) := by
  unfold joinS
  split
  · rename_i h
    cases l with
    | seq a b =>
      obtain ⟨b1, b2, b3, b4⟩ := bl
      simp only [ht_seq] at *
      simp only [lowS]
      split
      · rename_i hlt
        cases b with
        | seq m1 m2 =>
          obtain ⟨c1, c2, c3, c4⟩ := b4
          simp only [ht_seq] at *
          refine ⟨⟨?_, ?_, ⟨?_, ?_, b3, c3⟩, ⟨?_, ?_, c4, br⟩⟩, ?_⟩ <;> (try simp only [ht_seq]) <;> omega
        | _ => simp [ht] at hlt
      · refine ⟨⟨?_, ?_, b3, ⟨?_, ?_, b4, br⟩⟩, ?_⟩ <;> (try simp only [ht_seq]) <;> omega
    | _ => simp [ht] at h
  · split
    · rename_i h
      cases r with
      | seq a b =>
        obtain ⟨b1, b2, b3, b4⟩ := br
        simp only [ht_seq] at *
        simp only [raiS]
        split
        · rename_i hlt
          cases a with
          | seq m1 m2 =>
            obtain ⟨c1, c2, c3, c4⟩ := b3
            simp only [ht_seq] at *
            refine ⟨⟨?_, ?_, ⟨?_, ?_, bl, c3⟩, ⟨?_, ?_, c4, b4⟩⟩, ?_⟩ <;> (try simp only [ht_seq]) <;> omega
          | _ => simp [ht] at hlt
        · refine ⟨⟨?_, ?_, ⟨?_, ?_, bl, b3⟩, b4⟩, ?_⟩ <;> (try simp only [ht_seq]) <;> omega
      | _ => simp [ht] at h
    · refine ⟨⟨?_, ?_, bl, br⟩, ?_, ?_, fun _ _ => ?_⟩ <;> (try simp only [ht_seq]) <;> omega

theorem bal_one : Bal (.seq .skip .skip) := ⟨by decide, by decide, trivial, trivial⟩

section
variable {κ ν : Type}
theorem putS_bal (lt : κ → κ → Bool) (k : κ) : ∀ (n : Nat) (s : Code) (l : List (κ × ν)), sz s ≤ n → l.length = sz s → Bal s → Bal (putS lt k s l) ∧ ht s ≤ ht (putS lt k s l) ∧ ht (putS lt k s l) ≤ ht s + 1 := by
  intro n
  induction n with
  | zero =>
    intro s l hn hl b
    cases s with
    | seq a b => simp [sz] at hn
    | _ => exact ⟨bal_one, by simp [ht, putS], by simp [ht, putS]⟩
  | succ n ih =>
    intro s l hn hl b
    cases s with
    | seq x y =>
      obtain ⟨b1, b2, b3, b4⟩ := b
      simp only [sz] at hn hl
      obtain ⟨e, lr, he⟩ : ∃ e lr, l.drop (sz x) = e :: lr := by
        cases h : l.drop (sz x) with
        | nil => have := congrArg List.length h; simp at this; omega
        | cons e lr => exact ⟨e, lr, rfl⟩
      have hlr : lr.length = sz y := by have := congrArg List.length he; simp at this; omega
      simp only [putS, he, ht_seq]
      split
      · obtain ⟨q1, q2, q3⟩ := ih x (l.take (sz x)) (by omega) (by simp; omega) b3
        obtain ⟨j1, j2, j3, j4⟩ := joinS_bal q1 b4 (by omega) (by omega)
        exact ⟨j1, by omega, by omega⟩
      · split
        · obtain ⟨q1, q2, q3⟩ := ih y lr (by omega) hlr b4
          obtain ⟨j1, j2, j3, j4⟩ := joinS_bal b3 q1 (by omega) (by omega)
          exact ⟨j1, by omega, by omega⟩
        · exact ⟨⟨b1, b2, b3, b4⟩, by simp only [ht_seq]; omega, by simp only [ht_seq]; omega⟩
    | _ => exact ⟨bal_one, by simp [ht, putS], by simp [ht, putS]⟩

theorem leastS_bal : ∀ (n : Nat) (s : Code), sz s ≤ n → 0 < ht s → Bal s → Bal (leastS s) ∧ ht (leastS s) ≤ ht s ∧ ht s ≤ ht (leastS s) + 1 := by
  intro n
  induction n with
  | zero =>
    intro s hn hp b
    cases s with
    | seq a b => simp [sz] at hn
    | _ => simp [ht] at hp
  | succ n ih =>
    intro s hn hp b
    cases s with
    | seq x y =>
      obtain ⟨b1, b2, b3, b4⟩ := b
      simp only [sz] at hn
      cases x with
      | seq u v =>
        obtain ⟨q1, q2, q3⟩ := ih (.seq u v) (by omega) (by simp only [ht_seq]; omega) b3
        obtain ⟨j1, j2, j3, j4⟩ := joinS_bal q1 b4 (by omega) (by omega)
        rw [leastS_seq]
        simp only [ht_seq] at *
        exact ⟨j1, by omega, by omega⟩
      | skip => simp only [leastS, ht_seq, ht_skip] at *; exact ⟨b4, by omega, by omega⟩
      | _ =>
        simp only [leastS, ht] at *
        obtain ⟨j1, j2, j3, j4⟩ := joinS_bal (l := .skip) (r := y) trivial b4 (by simp only [ht]; omega) (by simp only [ht]; omega)
        simp only [ht] at *
        exact ⟨j1, by omega, by omega⟩
    | _ => simp [ht] at hp

theorem delS_bal (lt : κ → κ → Bool) (k : κ) : ∀ (n : Nat) (s : Code) (l : List (κ × ν)), sz s ≤ n → l.length = sz s → Bal s → Bal (delS lt k s l) ∧ ht (delS lt k s l) ≤ ht s ∧ ht s ≤ ht (delS lt k s l) + 1 := by
  intro n
  induction n with
  | zero =>
    intro s l hn hl b
    cases s with
    | seq a b => simp [sz] at hn
    | _ => exact ⟨trivial, by simp [ht, delS], by simp [ht, delS]⟩
  | succ n ih =>
    intro s l hn hl b
    cases s with
    | seq x y =>
      obtain ⟨b1, b2, b3, b4⟩ := b
      simp only [sz] at hn hl
      obtain ⟨e, lr, he⟩ : ∃ e lr, l.drop (sz x) = e :: lr := by
        cases h : l.drop (sz x) with
        | nil => have := congrArg List.length h; simp at this; omega
        | cons e lr => exact ⟨e, lr, rfl⟩
      have hlr : lr.length = sz y := by have := congrArg List.length he; simp at this; omega
      simp only [delS, he, ht_seq]
      split
      · obtain ⟨q1, q2, q3⟩ := ih x (l.take (sz x)) (by omega) (by simp; omega) b3
        obtain ⟨j1, j2, j3, j4⟩ := joinS_bal q1 b4 (by omega) (by omega)
        exact ⟨j1, by omega, by omega⟩
      · split
        · obtain ⟨q1, q2, q3⟩ := ih y lr (by omega) hlr b4
          obtain ⟨j1, j2, j3, j4⟩ := joinS_bal b3 q1 (by omega) (by omega)
          exact ⟨j1, by omega, by omega⟩
        · cases y with
          | skip => simp only [ht_skip] at *; exact ⟨b3, by omega, by omega⟩
          | seq u v =>
            obtain ⟨q1, q2, q3⟩ := leastS_bal _ (.seq u v) (Nat.le_refl _) (by simp only [ht_seq]; omega) b4
            obtain ⟨j1, j2, j3, j4⟩ := joinS_bal b3 q1 (by omega) (by omega)
            dsimp only
            exact ⟨j1, by omega, by omega⟩
          | _ =>
            simp only [ht] at *
            obtain ⟨j1, j2, j3, j4⟩ := joinS_bal (l := x) (r := .skip) b3 trivial (by simp only [ht]; omega) (by simp only [ht]; omega)
            simp only [ht, leastS] at *
            exact ⟨j1, by omega, by omega⟩
    | _ => exact ⟨trivial, by simp [ht, delS], by simp [ht, delS]⟩
end

/-- How many entries a balanced tree has at least. -/
def leastN : Nat → Nat
  | 0 => 0
  | 1 => 1
  | h + 2 => 1 + leastN (h + 1) + leastN h

theorem leastN_step : ∀ h, leastN h ≤ leastN (h + 1) := by
  intro h
  match h with
  | 0 => decide
  | h + 1 => simp only [leastN]; omega

theorem leastN_up (hl hr : Nat) (h1 : hl ≤ hr + 1) (h2 : hr ≤ hl + 1) : leastN (1 + max hl hr) ≤ leastN hl + leastN hr + 1 := by
  rcases Nat.lt_or_ge hl hr with h | h
  · obtain rfl : hr = hl + 1 := by omega
    rw [show 1 + max hl (hl + 1) = hl + 2 by omega]
    simp only [leastN]
    omega
  · rcases Nat.lt_or_ge hr hl with h' | h'
    · obtain rfl : hl = hr + 1 := by omega
      rw [show 1 + max (hr + 1) hr = hr + 2 by omega]
      simp only [leastN]
      omega
    · obtain rfl : hl = hr := by omega
      rw [show 1 + max hl hl = hl + 1 by omega]
      match hl with
      | 0 => decide
      | h + 1 => have := leastN_step h; simp only [leastN] at *; omega

theorem leastN_le : ∀ (n : Nat) (s : Code), sz s ≤ n → Bal s → leastN (ht s) ≤ sz s := by
  intro n
  induction n with
  | zero =>
    intro s hn b
    cases s with
    | seq a b => simp [sz] at hn
    | _ => simp [ht, leastN]
  | succ n ih =>
    intro s hn b
    cases s with
    | seq x y =>
      obtain ⟨b1, b2, b3, b4⟩ := b
      simp only [sz, ht] at *
      have := ih x (by omega) b3
      have := ih y (by omega) b4
      have := leastN_up _ _ b1 b2
      omega
    | _ => simp [ht, leastN]
end Go.Proofs.Ytgiaifglkecdjaa
