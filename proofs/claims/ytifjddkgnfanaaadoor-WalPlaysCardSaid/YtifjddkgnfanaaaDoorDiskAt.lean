/- A disk in memory. -/
import Derived.Test.YtifjddkgnfanaaaDoorDiskWr
import Derived.Test.YtifjddkgnfanaaaDoorErrs
import Derived.Test.YtifjddkgnfanaaaDoorSha
namespace Go.Proofs.YtifjddkgnfanaaaDoor
open Go.RowKit

def dcells (m : DM) (bv : Nat → Value) (wv : Value) : Array Value := #[.int .i64 m.room, bv 0, bv 1, bv 2, bv 3, bv 4, bv 5, wv, .bool m.armed, .int .i64 m.left, .bool m.gone]
def wcells (ws : List (DChg × Value)) : List Value := ws.flatMap fun x => [.int .i64 (x.1.area : Int), .int .i64 (x.1.pos : Int), x.2, .bool x.1.cuts]

theorem wcells_length (ws : List (DChg × Value)) : (wcells ws).length = ws.length * 4 := by
  induction ws with
  | nil => rfl
  | cons a l ih => simp only [wcells, List.flatMap_cons, List.length_append, List.length_cons, List.length_nil] at *; omega
theorem wcells_append (a b : List (DChg × Value)) : wcells (a ++ b) = wcells a ++ wcells b := by simp [wcells]
theorem wcells_get : ∀ (ws : List (DChg × Value)) (k : Nat) (x : DChg × Value), ws[k]? = some x → (wcells ws)[k * 4]? = some (.int .i64 (x.1.area : Int)) ∧ (wcells ws)[k * 4 + 1]? = some (.int .i64 (x.1.pos : Int)) ∧ (wcells ws)[k * 4 + 2]? = some x.2 ∧ (wcells ws)[k * 4 + 3]? = some (.bool x.1.cuts) := by
  intro ws
  induction ws with
  | nil => intro k x h; cases h
  | cons a l ih =>
    intro k x h
    cases k with
    | zero =>
      injection h with h
      subst h
      exact ⟨rfl, rfl, rfl, rfl⟩
    | succ k =>
      have := ih k x (by simpa using h)
      rw [show (k + 1) * 4 = k * 4 + 1 + 1 + 1 + 1 by omega]
      exact this

/-- Block g is a disk; O: the blocks that are its own. -/
structure DiskV (w : World) (O : Nat → Prop) (g : Nat) (m : DM) (bv : Nat → Value) (wv : Value) (ws : List (DChg × Value)) : Prop where
  cells : w.heap[g]? = some (.cells (dcells m bv wv) 60 (0, 0))
  areas : ∀ i, i < 6 → OB w 0 (bv i) (m.b i)
  wts : OwnS w 0 66 4 wv ws.length (wcells ws)
  eq : ws.map (fun x => x.1) = m.waits
  bytes : ∀ x ∈ ws, OB w 0 x.2 x.1.bytes
  apart : ∀ i j, i < 6 → j < 6 → i ≠ j → ∀ k, (bv i).ownBlock = some k → (bv j).ownBlock ≠ some k
  apartW : ∀ x ∈ ws, ∀ i, i < 6 → ∀ k, x.2.ownBlock = some k → (bv i).ownBlock ≠ some k
  ownG : O g
  ownB : ∀ i, i < 6 → ∀ k, (bv i).ownBlock = some k → O k
  ownW : ∀ k, wv.ownBlock = some k → O k
  ownX : ∀ x ∈ ws, ∀ k, x.2.ownBlock = some k → O k
def DiskAt (w : World) (O : Nat → Prop) (g : Nat) (m : DM) : Prop := ∃ bv wv ws, DiskV w O g m bv wv ws

/-- What a call made is the disk's own, too. -/
def ext (O : Nat → Prop) (w w' : World) (k : Nat) : Prop := O k ∨ (w.heap.size ≤ k ∧ k < w'.heap.size)

section
variable {w w' : World} {O : Nat → Prop} {g : Nat} {m m' : DM} {bv : Nat → Value} {wv : Value} {ws : List (DChg × Value)}

theorem own_type {w : World} {base e size n : Nat} {v : Value} {xs : List Value} (h : OwnS w base e size v n xs) {k : Nat} (hk : v.ownBlock = some k) : ∃ cur, w.heap[k]? = some (.cells cur e (0, 0)) := by
  rcases h.2 with ⟨rfl, _⟩ | ⟨g, o, cap, cur, rfl, _, h3, _⟩
  · cases hk
  · injection hk with hk
    subst hk
    exact ⟨cur, h3⟩
theorem types_ne {w : World} {k : Nat} {a b : Array Value} {s t : TypeId} {f f' : Nat × Nat} (h1 : w.heap[k]? = some (.cells a s f)) (h2 : w.heap[k]? = some (.cells b t f')) : s = t := by
  rw [h1] at h2
  injection h2 with h2
  injection h2
theorem DiskV.lt (h : DiskV w O g m bv wv ws) : g < w.heap.size := (Array.getElem?_eq_some_iff.1 h.cells).1
theorem DiskV.bne (h : DiskV w O g m bv wv ws) {i : Nat} (hi : i < 6) : (bv i).ownBlock ≠ some g := fun e => by
  obtain ⟨cur, hc⟩ := own_type (h.areas i hi) e
  exact absurd (types_ne hc h.cells) (by decide)
theorem DiskV.wne (h : DiskV w O g m bv wv ws) : wv.ownBlock ≠ some g := fun e => by
  obtain ⟨cur, hc⟩ := own_type h.wts e
  exact absurd (types_ne hc h.cells) (by decide)
theorem DiskV.bw (h : DiskV w O g m bv wv ws) {i : Nat} (hi : i < 6) {k : Nat} (hk : wv.ownBlock = some k) : (bv i).ownBlock ≠ some k := fun e => by
  obtain ⟨cur, hc⟩ := own_type (h.areas i hi) e
  obtain ⟨cur', hc'⟩ := own_type h.wts hk
  exact absurd (types_ne hc hc') (by decide)
theorem DiskV.xne (h : DiskV w O g m bv wv ws) {x : DChg × Value} (hx : x ∈ ws) : x.2.ownBlock ≠ some g := fun e => by
  obtain ⟨cur, hc⟩ := own_type (h.bytes x hx) e
  exact absurd (types_ne hc h.cells) (by decide)
theorem DiskV.xw (h : DiskV w O g m bv wv ws) {x : DChg × Value} (hx : x ∈ ws) {k : Nat} (hk : x.2.ownBlock = some k) : wv.ownBlock ≠ some k := fun e => by
  obtain ⟨cur, hc⟩ := own_type (h.bytes x hx) hk
  obtain ⟨cur', hc'⟩ := own_type h.wts e
  exact absurd (types_ne hc hc') (by decide)
theorem DiskV.lenB (h : DiskV w O g m bv wv ws) {i : Nat} (hi : i < 6) : ∃ A c, bv i = .slice A (m.b i).length c ∧ (m.b i).length ≤ c ∧ c ≤ maxLen := by
  obtain ⟨A, c, e, h1, h2, _⟩ := (h.areas i hi).form
  exact ⟨A, c, e, h1, h2⟩
theorem DiskV.cell (h : DiskV w O g m bv wv ws) (k : Nat) : w.cell? ⟨g, k, none⟩ = (dcells m bv wv)[k]? := cell_of_row _ _ _ _ _ _ h.cells
theorem DiskV.free (h : DiskV w O g m bv wv ws) (k : Nat) : w.frozen? ⟨g, k, none⟩ = false := frozen_of_row _ _ _ _ _ h.cells

theorem OB.below0 {w w' : World} {v : Value} {l : List UInt8} (h : OB w 0 v l) (hb : Below w.heap.size w w') : OB w' 0 v l := OB.below h hb
/-- Only the disk's block has turned, and in it neither areas nor what waits. -/
theorem DiskV.turn (h : DiskV w O g m bv wv ws) (hf : Fr (fun k => k = g) w w') (hc : w'.heap[g]? = some (.cells (dcells m' bv wv) 60 (0, 0))) (hb : m'.b = m.b) (hw : m'.waits = m.waits) : DiskV w' O g m' bv wv ws := by
  have hx : ∀ x ∈ ws, OB w' 0 x.2 x.1.bytes := fun x hx => OwnS.kept (h.bytes x hx) hf fun k hk e => h.xne hx (by rw [← e]; exact hk)
  exact ⟨hc, fun i hi => by rw [hb]; exact OwnS.kept (h.areas i hi) hf (fun k hk e => h.bne hi (by rw [← e]; exact hk)), OwnS.kept h.wts hf (fun k hk e => h.wne (by rw [← e]; exact hk)), by rw [hw]; exact h.eq, hx, h.apart, h.apartW, h.ownG, h.ownB, h.ownW, h.ownX⟩

theorem DiskV.frO (h : DiskV w O g m bv wv ws) {j : Nat} (hj : j < 6) {S : Nat → Prop} (hf : Fr (doS g (bv j)) w w') (hs : ∀ k, O k → S k) : Fr S w w' :=
  hf.mono fun k _ hk => hs k (by
    rcases hk with rfl | hk
    · exact h.ownG
    · exact h.ownB j hj k hk)

def updV (f : Nat → Value) (i : Nat) (x : Value) : Nat → Value := fun j => if j = i then x else f j

/-- An area has turned. -/
theorem DiskV.area (h : DiskV w O g m bv wv ws) {j : Nat} (hj : j < 6) {v' : Value} {l' : List UInt8} (hf : Fr (doS g (bv j)) w w') (hc : w'.heap[g]? = some (.cells ((dcells m bv wv).setIfInBounds (1 + j) v') 60 (0, 0)))
    (hv : OB w' 0 v' l') (hat : v'.ownBlock = (bv j).ownBlock ∨ ∃ k, v'.ownBlock = some k ∧ w.heap.size ≤ k) : DiskV w' (ext O w w') g { m with b := updB m.b j l' } (updV bv j v') wv ws := by
  have hvk : ∀ k, v'.ownBlock = some k → (bv j).ownBlock = some k ∨ (w.heap.size ≤ k ∧ k < w'.heap.size) := fun k hk => by
    rcases hat with e | ⟨q, e, hq⟩
    · exact .inl (e.symm.trans hk)
    · rw [e] at hk
      injection hk with hk
      subst hk
      exact .inr ⟨hq, (OB.lt hv _ e).2⟩
  have hlt : ∀ i, i < 6 → ∀ k, (bv i).ownBlock = some k → k < w.heap.size := fun i hi k hk => (OB.lt (h.areas i hi) k hk).2
  have hdo : ∀ i, i < 6 → i ≠ j → ∀ k, (bv i).ownBlock = some k → ¬ doS g (bv j) k := fun i hi hij k hk e => by
    rcases e with rfl | e
    · exact h.bne hi hk
    · exact h.apart i j hi hj hij k hk e
  have hcs : (dcells m bv wv).setIfInBounds (1 + j) v' = dcells { m with b := updB m.b j l' } (updV bv j v') wv := by
    have : j = 0 ∨ j = 1 ∨ j = 2 ∨ j = 3 ∨ j = 4 ∨ j = 5 := by omega
    rcases this with rfl | rfl | rfl | rfl | rfl | rfl <;> rfl
  rw [hcs] at hc
  refine ⟨hc, fun i hi => ?_, ?_, h.eq, fun x hx => ?_, fun i i' hi hi' hne k hk => ?_, fun x hx i hi k hk => ?_, .inl h.ownG, fun i hi k hk => ?_, fun k hk => .inl (h.ownW k hk), fun x hx k hk => .inl (h.ownX x hx k hk)⟩
  · by_cases e : i = j
    · subst e
      show OB w' 0 (if i = i then v' else _) (if i = i then l' else _)
      rw [if_pos rfl, if_pos rfl]
      exact hv
    · show OB w' 0 (if i = j then v' else _) (if i = j then l' else _)
      rw [if_neg e, if_neg e]
      exact OwnS.kept (h.areas i hi) hf (hdo i hi e)
  · exact OwnS.kept h.wts hf fun k hk e => by
      rcases e with rfl | e
      · exact h.wne hk
      · exact h.bw hj hk e
  · exact OwnS.kept (h.bytes x hx) hf fun k hk e => by
      rcases e with rfl | e
      · exact h.xne hx hk
      · exact h.apartW x hx j hj k hk e
  · have key : ∀ i, i < 6 → i ≠ j → ∀ k, v'.ownBlock = some k → (bv i).ownBlock ≠ some k := fun i hi hij k hk e => by
      rcases hvk k hk with h1 | h1
      · exact h.apart i j hi hj hij k e h1
      · have := hlt i hi k e; omega
    unfold updV at *
    by_cases e : i = j
    · subst e
      rw [if_pos rfl] at hk
      rw [if_neg (fun e => hne e.symm)]
      exact key i' hi' (fun e => hne e.symm) k hk
    · rw [if_neg e] at hk
      by_cases e' : i' = j
      · subst e'
        rw [if_pos rfl]
        exact fun h2 => key i hi e k h2 hk
      · rw [if_neg e']
        exact h.apart i i' hi hi' hne k hk
  · have hxl := (OB.lt (h.bytes x hx) k hk).2
    unfold updV
    by_cases e : i = j
    · rw [if_pos e]
      intro h2
      rcases hvk k h2 with h1 | h1
      · exact h.apartW x hx j hj k hk h1
      · omega
    · rw [if_neg e]
      exact h.apartW x hx i hi k hk
  · unfold updV at hk
    by_cases e : i = j
    · rw [if_pos e] at hk
      rcases hvk k hk with h1 | h1
      · exact .inl (h.ownB j hj k h1)
      · exact .inr h1
    · rw [if_neg e] at hk
      exact .inl (h.ownB i hi k hk)
theorem DiskV.dcell (m : DM) (bv : Nat → Value) (wv : Value) {j : Nat} (hj : j < 6) : (dcells m bv wv)[1 + j]? = some (bv j) := by
  have : j = 0 ∨ j = 1 ∨ j = 2 ∨ j = 3 ∨ j = 4 ∨ j = 5 := by omega
  rcases this with rfl | rfl | rfl | rfl | rfl | rfl <;> rfl
end

/-- do, of a disk's area (off = 1: what is sure; off = 4: what is seen). -/
theorem do_any (g off a : Nat) (c : DChg) (xv : Value) (m : DM) (hok : m.Ok) (O : Nat → Prop) (bv : Nat → Value) (wv : Value) (ws : List (DChg × Value)) (w : World) (h : DiskV w O g m bv wv ws) (hoff : off = 1 ∨ off = 4) (hca : c.area = a) (ha : a < 3) (hp : c.pos + c.bytes.length ≤ 1048576)
    (hx : OB w 0 xv c.bytes) (hap : ∀ k, xv.ownBlock = some k → (bv (off - 1 + a)).ownBlock ≠ some k) :
    Calls Tryd.prog 49 #[.pointer (some ⟨g, off, none⟩), .agg #[.int .i64 (a : Int), .int .i64 (c.pos : Int), xv, .bool c.cuts]] w fun e w' => e = .returned (.tuple #[]) ∧
      ∃ bv', DiskV w' (ext O w w') g { m with b := updB m.b (off - 1 + a) (doB (m.b (off - 1 + a)) c) } bv' wv ws ∧ Fr O w w' := by
  have hj : off - 1 + a < 6 := by omega
  have ej : off + a = 1 + (off - 1 + a) := by omega
  obtain ⟨A, cp, e1, h1, h2⟩ := h.lenB hj
  have hd := DiskV.dcell m bv wv hj
  have hB := h.areas _ hj
  rw [e1] at hd hB
  obtain ⟨ca, cpos, cb, ccuts⟩ := c
  subst hca
  cases ccuts with
  | true =>
    refine (do_cut g off ca cpos _ A _ cp (m.b (off - 1 + ca)) xv w h.cells ha (by rw [ej]; exact hd) hB rfl h1 (hok.len _ hj) (by simp at hp; omega)).mono ?_
    rintro e w' ⟨rfl, hc', hv', hf'⟩
    rw [ej] at hc'
    have hf2 : Fr (doS g (bv (off - 1 + ca))) w w' := hf'.mono fun k _ hk => .inl hk
    exact ⟨rfl, _, h.area hj hf2 hc' hv' (.inl (by rw [e1]; cases A <;> rfl)), h.frO hj hf2 fun k hk => hk⟩
  | false =>
    obtain ⟨Ab, cbb, e2, h3, h4, hr⟩ := hx.form
    subst e2
    refine (do_write g off ca cpos cb.length cbb _ A Ab _ cp (m.b (off - 1 + ca)) cb w h.cells ha (by rw [ej]; exact hd) hB rfl h1 (hok.len _ hj) hp hr ?_).mono ?_
    · rintro h0 b' o' rfl h5
      exact hap b' rfl (by rw [e1]; exact h5)
    · rintro e w' ⟨rfl, v', hc', hv', hat, hf'⟩
      rw [ej] at hc'
      rw [← e1] at hf' hat
      exact ⟨rfl, _, h.area hj hf' hc' hv' hat, h.frO hj hf' fun k hk => hk⟩
end Go.Proofs.YtifjddkgnfanaaaDoor
