/- Maps from texts, in memory: what is read, what is written. -/
import Derived.Test.YtlfeofakggkebaaDoorBase
import Derived.Test.YtlfeofakggkebaaDoorOwn
import Derived.WideMake
namespace Go.Proofs.YtlfeofakggkebaaDoor
open Go.RowKit Go.Instr

/-- Where a key stands, and what stands there. -/
def lookI (k : ByteArray) : List (ByteArray × Value) → Nat → Option (Nat × Value)
  | [], _ => none
  | x :: l, i => if (k == x.1) = true then some (i, x.2) else lookI k l (i + 1)
def entryOf (e : MapEntry) : Value × Value := (e.key, e.val)
def pairOf (x : ByteArray × Value) : Value × Value := (.string x.1, x.2)
/-- Block b is a map that holds the entries l, in the order of their making. -/
def SM (w : World) (b : Nat) (l : List (ByteArray × Value)) : Prop := ∃ es clock, w.heap[b]? = some (.map es clock) ∧ es.toList.map entryOf = l.map pairOf

theorem findNow_s (k : ByteArray) : ∀ (es : List MapEntry) (l : List (ByteArray × Value)) (i : Nat), es.map entryOf = l.map pairOf → findNow .string (.string k) es i = some (lookI k l i) := by
  intro es
  induction es with
  | nil =>
    intro l i h
    cases l with
    | nil => rfl
    | cons _ _ => cases h
  | cons e es ih =>
    intro l i h
    cases l with
    | nil => cases h
    | cons x l =>
      injection h with h1 h2
      injection h1 with h3 h4
      have h3 : e.key = .string x.1 := h3
      have h4 : e.val = x.2 := h4
      unfold findNow lookI
      rw [h3, h4]
      show (match some (k == x.1) with | some true => _ | some false => _ | none => _) = _
      cases hk : k == x.1 with
      | true => rfl
      | false => exact ih l (i + 1) h2

section
variable {P : Program} {w : World} {mty kt et : TypeId}
theorem run_look_s {b : Nat} {l : List (ByteArray × Value)} (hm : P.underlying mty = some (.map kt et)) (hk : P.underlying kt = some .string) (h : SM w b l) {z : Value} (hz : ∀ W, (zeroValue et).run P W = .ok z W) (k : ByteArray) :
    (Instr.lookup mty (.map (some b)) (.string k) true).run P w = .ok (.tuple #[((lookI k l 0).map (·.2)).getD z, .bool (lookI k l 0).isSome]) w := by
  obtain ⟨es, clock, hb, he⟩ := h
  have hf := findNow_s k es.toList l 0 he
  have hc : (Instr.checkKey es.isEmpty 10000 kt (.string k)).run P w = .ok () w := MapKept.run_checkKey (k := .string k) hk (by simp [MapKept.IsKey]) _ 9999
  cases hl : lookI k l 0 with
  | none =>
    rw [hl] at hf
    simp [Instr.lookup, run_underlying hm, MapKept.run_getObj_map hb, hc, MapKept.run_findKey hk hf, hz, Result.andThen]
  | some y =>
    rw [hl] at hf
    simp [Instr.lookup, run_underlying hm, MapKept.run_getObj_map hb, hc, MapKept.run_findKey hk hf, Result.andThen]

theorem run_put_s {b : Nat} {l : List (ByteArray × Value)} (hm : P.underlying mty = some (.map kt et)) (hk : P.underlying kt = some .string) (h : SM w b l) (k : ByteArray) (v : Value) (hn : lookI k l 0 = none) :
    ∃ w', (Instr.mapUpdate mty (.map (some b)) (.string k) v).run P w = .ok () w' ∧ SM w' b (l ++ [(k, v)]) ∧ Fr (fun i => i = b) w w' := by
  obtain ⟨es, clock, hb, he⟩ := h
  have hf := findNow_s k es.toList l 0 he
  rw [hn] at hf
  have hc : (Instr.checkKey false 10000 kt (.string k)).run P w = .ok () w := MapKept.run_checkKey (k := .string k) hk (by simp [MapKept.IsKey]) _ 9999
  have hlt := (Array.getElem?_eq_some_iff.1 hb).1
  refine ⟨{ w with heap := w.heap.setIfInBounds b (.map (es.push { key := .string k, val := v, born := clock }) (clock + 1)) }, ?_, ⟨es.push { key := .string k, val := v, born := clock }, clock + 1, by simp [hlt], by simp [he, entryOf, pairOf]⟩, ⟨rfl, rfl, rfl, by simp, fun i hi hne => ?_⟩⟩
  · simp [Instr.mapUpdate, run_underlying hm, MapKept.run_getObj_map hb, hc, MapKept.run_findKey hk hf, MapKept.run_setObj_map _ hb, Result.andThen]
  · show (w.heap.setIfInBounds b _)[i]? = _
    rw [Array.getElem?_setIfInBounds_ne (fun e => hne e.symm)]

/-- The entries behind a store at a key that is there. -/
def overI (k : ByteArray) (v : Value) : List (ByteArray × Value) → List (ByteArray × Value)
  | [] => []
  | x :: l => if (k == x.1) = true then (x.1, v) :: l else x :: overI k v l
theorem lookI_over (k : ByteArray) (v : Value) : ∀ (l : List (ByteArray × Value)) (i : Nat) (r : Nat × Value), lookI k l i = some r → ∃ j x, r.1 = i + j ∧ l[j]? = some x ∧ (k == x.1) = true ∧ overI k v l = l.set j (x.1, v) := by
  intro l
  induction l with
  | nil => intro i r h; exact absurd h (by simp [lookI])
  | cons z l ih =>
    intro i r h
    by_cases c : (k == z.1) = true
    · have e : lookI k (z :: l) i = some (i, z.2) := if_pos c
      rw [e] at h
      exact ⟨0, z, by rw [← Option.some.inj h]; rfl, rfl, c, if_pos c⟩
    · have e : lookI k (z :: l) i = lookI k l (i + 1) := if_neg c
      rw [e] at h
      obtain ⟨j, x, h1, h2, h3, h4⟩ := ih _ _ h
      refine ⟨j + 1, x, by omega, h2, h3, ?_⟩
      have e2 : overI k v (z :: l) = z :: overI k v l := if_neg c
      rw [e2, h4]
      rfl
end
end Go.Proofs.YtlfeofakggkebaaDoor
