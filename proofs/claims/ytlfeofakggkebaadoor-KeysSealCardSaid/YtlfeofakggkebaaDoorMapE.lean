/- Maps from entries (two texts): equality of keys. -/
import Derived.Test.YtlfeofakggkebaaDoorMapS
import Derived.Test.YtlfeofakggkebaaDoorBytes
import Derived.Laws.StructEq
namespace Go.Proofs.YtlfeofakggkebaaDoor
open Go.RowKit Go.Instr

def ev (a b : ByteArray) : Value := .agg #[.string a, .string b]
theorem fields_ent : Tryd.prog.underlying 119 = some (.struct (Tryd.prog.fieldsOf 119)) := by kernel_rfl
theorem stood_ent : Tryd.prog.stoodInHeld 119 = false := by kernel_rfl
theorem two_ent : (match (Tryd.prog.fieldsOf 119).toList with
    | [f0, f1] => f0.name != "_" && f0.type == 9 && f0.offset == 0 && f1.name != "_" && f1.type == 9 && f1.offset == 1
    | _ => false) = true := by kernel_rfl
theorem run_equal_ent (w : World) (a b c d : ByteArray) : (Op.equal 119 (ev a b) (ev c d)).run Tryd.prog w = .ok ((a.toList == c.toList) && (b.toList == d.toList)) w := by
  unfold Op.equal ev
  rw [show Op.maxDepth = 9999 + 1 from rfl, run_equalIn_struct w 9999 _ _ _ fields_ent stood_ent]
  have hs : Tryd.prog.underlying 9 = some .string := Tryd.underlying9
  have h := two_ent
  split at h
  · rename_i f0 f1 hfs
    simp only [Bool.and_eq_true, bne_iff_ne, beq_iff_eq] at h
    obtain ⟨⟨⟨⟨⟨n0, t0⟩, o0⟩, n1⟩, t1⟩, o1⟩ := h
    rw [hfs]
    have p0 : ∀ (x y : ByteArray) W, (part f0.type #[.string x, .string y] f0.offset).run Tryd.prog W = .ok (.string x) W := by
      intro x y W
      rw [t0, o0]
      kernel_rfl
    have p1 : ∀ (x y : ByteArray) W, (part f1.type #[.string x, .string y] f1.offset).run Tryd.prog W = .ok (.string y) W := by
      intro x y W
      rw [t1, o1]
      kernel_rfl
    have e0 := fun W (x y : ByteArray) => run_equalIn_string (P := Tryd.prog) W 9998 9 x y hs
    rw [← t0] at e0
    have e1 := fun W (x y : ByteArray) => run_equalIn_string (P := Tryd.prog) W 9998 9 x y hs
    rw [← t1] at e1
    simp [Op.eqFields, n0, n1, p0, p1, e0, e1]
    by_cases h1 : a.toList = c.toList <;> by_cases h2 : b.toList = d.toList <;> simp [h1, h2]
  · cases h

theorem run_check_ent (e : Bool) (w : World) (a b : ByteArray) : (Instr.checkKey e 10000 119 (ev a b)).run Tryd.prog w = .ok () w := by
  have hs : Tryd.prog.underlying 9 = some .string := Tryd.underlying9
  have h := two_ent
  split at h
  · rename_i f0 f1 hfs
    simp only [Bool.and_eq_true, bne_iff_ne, beq_iff_eq] at h
    obtain ⟨⟨⟨⟨⟨n0, t0⟩, o0⟩, n1⟩, t1⟩, o1⟩ := h
    have p0 : ∀ (x y : ByteArray) W, (part f0.type #[.string x, .string y] f0.offset).run Tryd.prog W = .ok (.string x) W := by
      intro x y W
      rw [t0, o0]
      kernel_rfl
    have p1 : ∀ (x y : ByteArray) W, (part f1.type #[.string x, .string y] f1.offset).run Tryd.prog W = .ok (.string y) W := by
      intro x y W
      rw [t1, o1]
      kernel_rfl
    have k0 : ∀ W (x : ByteArray), (Instr.checkKey e 9999 f0.type (.string x)).run Tryd.prog W = .ok () W := fun W x => MapKept.run_checkKey (k := .string x) (by rw [t0]; exact hs) (by simp [MapKept.IsKey]) _ 9998
    have k1 : ∀ W (x : ByteArray), (Instr.checkKey e 9999 f1.type (.string x)).run Tryd.prog W = .ok () W := fun W x => MapKept.run_checkKey (k := .string x) (by rw [t1]; exact hs) (by simp [MapKept.IsKey]) _ 9998
    rw [show (10000 : Nat) = 9999 + 1 from rfl]
    unfold Instr.checkKey ev
    simp only [Sem.run_bind, run_underlying fields_ent, Result.andThen_ok]
    rw [← Array.forIn_toList, hfs]
    simp [n0, n1, p0, p1, k0, k1]
  · cases h

def lookE (a b : ByteArray) : List (ByteArray × ByteArray) → Nat → Option (Nat × Value)
  | [], _ => none
  | x :: l, i => if a.toList = x.1.toList ∧ b.toList = x.2.toList then some (i, .bool true) else lookE a b l (i + 1)
def pairE (x : ByteArray × ByteArray) : Value × Value := (ev x.1 x.2, .bool true)
/-- Block b is a map that holds true at the entries l, in the order of their making. -/
def EM (w : World) (b : Nat) (l : List (ByteArray × ByteArray)) : Prop := ∃ es clock, w.heap[b]? = some (.map es clock) ∧ es.toList.map entryOf = l.map pairE

theorem run_ask_ent (w : World) (a b : ByteArray) : ∀ (es : List MapEntry) (l : List (ByteArray × ByteArray)) (i : Nat), es.map entryOf = l.map pairE → (Instr.findAsking 119 (ev a b) es i).run Tryd.prog w = .ok (lookE a b l i) w := by
  intro es
  induction es with
  | nil =>
    intro l i h
    cases l with
    | nil => simp [Instr.findAsking, lookE]
    | cons _ _ => cases h
  | cons e es ih =>
    intro l i h
    cases l with
    | nil => cases h
    | cons x l =>
      have h' : entryOf e :: es.map entryOf = pairE x :: l.map pairE := h
      have h3 : e.key = ev x.1 x.2 := congrArg Prod.fst (List.cons.inj h').1
      have h4 : e.val = .bool true := congrArg Prod.snd (List.cons.inj h').1
      have h2 := (List.cons.inj h').2
      clear h h'
      unfold Instr.findAsking lookE
      simp only [Sem.run_bind, h3, run_equal_ent, Result.andThen_ok, h4]
      by_cases q1 : a.toList = x.1.toList <;> by_cases q2 : b.toList = x.2.toList <;> simp [q1, q2, ih l (i + 1) h2]

theorem run_find_ent (w : World) (a b : ByteArray) (es : List MapEntry) (l : List (ByteArray × ByteArray)) (h : es.map entryOf = l.map pairE) : (Instr.findKey 119 (ev a b) es).run Tryd.prog w = .ok (lookE a b l 0) w := by
  cases es with
  | nil =>
    cases l with
    | nil =>
      have hn : ∀ F, Instr.findNow (.struct F) (ev a b) [] 0 = some none := fun _ => rfl
      unfold Instr.findKey
      simp only [Sem.run_bind, run_underlying fields_ent, Result.andThen_ok, hn, Sem.run_pure, lookE]
    | cons _ _ => cases h
  | cons e es =>
    cases l with
    | nil => cases h
    | cons x l =>
      have hk : e.key = ev x.1 x.2 := congrArg Prod.fst (List.cons.inj (show entryOf e :: es.map entryOf = pairE x :: l.map pairE from h)).1
      have hn : ∀ F, Instr.findNow (.struct F) (ev a b) (e :: es) 0 = none := by
        intro F
        unfold Instr.findNow
        rw [hk]
        rfl
      have := run_ask_ent w a b (e :: es) (x :: l) 0 h
      unfold Instr.findKey
      simp only [Sem.run_bind, run_underlying fields_ent, Result.andThen_ok, hn, this]

theorem lookE_val (x y : ByteArray) : ∀ (l : List (ByteArray × ByteArray)) (i : Nat) (r : Nat × Value), lookE x y l i = some r → r.2 = .bool true := by
  intro l
  induction l with
  | nil => intro i r h; exact absurd h (by simp [lookE])
  | cons z l ih =>
    intro i r h
    by_cases c : x.toList = z.1.toList ∧ y.toList = z.2.toList
    · have e : lookE x y (z :: l) i = some (i, .bool true) := if_pos c
      rw [e] at h
      rw [← Option.some.inj h]
    · have e : lookE x y (z :: l) i = lookE x y l (i + 1) := if_neg c
      rw [e] at h
      exact ih _ _ h
theorem map_ent : Tryd.prog.underlying 115 = some (.map 119 4) := Tryd.underlying115
theorem run_look_ent {w : World} {b : Nat} {l : List (ByteArray × ByteArray)} (h : EM w b l) (x y : ByteArray) :
    (Instr.lookup 115 (.map (some b)) (ev x y) false).run Tryd.prog w = .ok (.bool (lookE x y l 0).isSome) w := by
  obtain ⟨es, clock, hb, he⟩ := h
  have hf := run_find_ent w x y es.toList l he
  have hz : ∀ W, (zeroValue 4).run Tryd.prog W = .ok (.bool false) W := fun W => by kernel_rfl
  have hv : ∀ r, lookE x y l 0 = some r → r.2 = .bool true := fun r => lookE_val x y l 0 r
  unfold Instr.lookup
  simp only [Sem.run_bind, run_underlying map_ent, Result.andThen_ok, MapKept.run_getObj_map hb, Sem.run_pure, run_check_ent, hf]
  cases hl : lookE x y l 0 with
  | none => simp [hz]
  | some r =>
    have := hv r hl
    obtain ⟨i, v⟩ := r
    subst this
    simp

theorem bytes_inj {a b : ByteArray} (h : a.toList = b.toList) : a = b := by
  rw [ByteArray.toList_eq, ByteArray.toList_eq] at h
  obtain ⟨⟨x⟩⟩ := a
  obtain ⟨⟨y⟩⟩ := b
  have h : x = y := h
  rw [h]
theorem lookE_at (x y : ByteArray) : ∀ (l : List (ByteArray × ByteArray)) (i : Nat) (r : Nat × Value), lookE x y l i = some r → ∃ j, r.1 = i + j ∧ l[j]? = some (x, y) := by
  intro l
  induction l with
  | nil => intro i r h; exact absurd h (by simp [lookE])
  | cons z l ih =>
    intro i r h
    by_cases c : x.toList = z.1.toList ∧ y.toList = z.2.toList
    · have e : lookE x y (z :: l) i = some (i, .bool true) := if_pos c
      rw [e] at h
      refine ⟨0, by rw [← Option.some.inj h]; rfl, ?_⟩
      rw [bytes_inj c.1, bytes_inj c.2]
      rfl
    · have e : lookE x y (z :: l) i = lookE x y l (i + 1) := if_neg c
      rw [e] at h
      obtain ⟨j, h1, h2⟩ := ih _ _ h
      exact ⟨j + 1, by omega, h2⟩

theorem same_ent (x y : ByteArray) : sameBits 10000 (ev x y) (ev x y) = true := by
  rw [show (10000 : Nat) = 9999 + 1 from rfl]
  have hb : ∀ z : ByteArray, (z == z) = true := fun z => by rw [beq_toListBytes]; exact beq_self_eq_true _
  unfold ev sameBits
  simp [sameBits, hb]
/-- The entries behind a store. -/
def putE (x y : ByteArray) (l : List (ByteArray × ByteArray)) : List (ByteArray × ByteArray) := if (lookE x y l 0).isSome then l else l ++ [(x, y)]
theorem run_put_ent {w : World} {b : Nat} {l : List (ByteArray × ByteArray)} (h : EM w b l) (x y : ByteArray) :
    ∃ w', (Instr.mapUpdate 115 (.map (some b)) (ev x y) (.bool true)).run Tryd.prog w = .ok () w' ∧ EM w' b (putE x y l) ∧ Fr (fun i => i = b) w w' := by
  obtain ⟨es, clock, hb, he⟩ := h
  have hf := run_find_ent w x y es.toList l he
  have hlt := (Array.getElem?_eq_some_iff.1 hb).1
  have hfr : ∀ o, Fr (fun i => i = b) w { w with heap := w.heap.setIfInBounds b o } := fun o => ⟨rfl, rfl, rfl, by simp, fun i hi hne => by
    show (w.heap.setIfInBounds b _)[i]? = _
    rw [Array.getElem?_setIfInBounds_ne (fun e => hne e.symm)]⟩
  have hset : ∀ o, (w.heap.setIfInBounds b o)[b]? = some o := fun o => by simp [hlt]
  cases hl : lookE x y l 0 with
  | none =>
    rw [hl] at hf
    have hp : putE x y l = l ++ [(x, y)] := by unfold putE; rw [hl]; rfl
    refine ⟨{ w with heap := w.heap.setIfInBounds b (.map (es.push { key := ev x y, val := .bool true, born := clock }) (clock + 1)) }, ?_, ⟨_, _, hset _, ?_⟩, hfr _⟩
    · unfold Instr.mapUpdate
      simp only [Sem.run_bind, run_underlying map_ent, Result.andThen_ok, MapKept.run_getObj_map hb, run_check_ent, hf]
      exact MapKept.run_setObj_map _ hb
    · rw [hp, Array.toList_push, List.map_append, List.map_append, he]
      rfl
  | some r =>
    rw [hl] at hf
    have hp : putE x y l = l := by unfold putE; rw [hl]; rfl
    obtain ⟨j, hj, hlj⟩ := lookE_at x y l 0 r hl
    rw [Nat.zero_add] at hj
    have hej : (es.toList.map entryOf)[j]? = some (pairE (x, y)) := by rw [he, List.getElem?_map, hlj]; rfl
    rw [List.getElem?_map] at hej
    cases hx : es.toList[j]? with
    | none => rw [hx] at hej; exact absurd hej (by simp)
    | some e0 =>
      rw [hx] at hej
      have hkv : entryOf e0 = pairE (x, y) := Option.some.inj hej
      have hk0 : e0.key = ev x y := congrArg Prod.fst hkv
      have hv0 : e0.val = .bool true := congrArg Prod.snd hkv
      have hes : es[j]? = some e0 := by rw [← Array.getElem?_toList]; exact hx
      have hks : (keyThatStays (((es[r.1]?).map (·.key)).getD (ev x y)) (ev x y)).run Tryd.prog w = .ok (ev x y) w := by
        rw [hj, hes]
        show (keyThatStays e0.key (ev x y)).run Tryd.prog w = _
        rw [hk0]
        unfold keyThatStays
        rw [if_pos (same_ent x y)]
        rfl
      obtain ⟨i, v⟩ := r
      refine ⟨{ w with heap := w.heap.setIfInBounds b (.map (es.modify i fun e => { e with key := ev x y, val := .bool true }) clock) }, ?_, ⟨_, _, hset _, ?_⟩, hfr _⟩
      · unfold Instr.mapUpdate
        simp only [Sem.run_bind, run_underlying map_ent, Result.andThen_ok, MapKept.run_getObj_map hb, run_check_ent, hf, hks]
        exact MapKept.run_setObj_map _ hb
      · rw [hp, ← he]
        have hj : i = j := hj
        subst hj
        apply List.ext_getElem?
        intro k
        rw [List.getElem?_map, List.getElem?_map, Array.getElem?_toList, Array.getElem?_toList, Array.getElem?_modify]
        by_cases hk : i = k
        · subst hk
          rw [if_pos rfl, hes]
          show some (ev x y, Value.bool true) = some (entryOf e0)
          rw [hkv]
          rfl
        · rw [if_neg hk]
end Go.Proofs.YtlfeofakggkebaaDoor
