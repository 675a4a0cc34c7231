/- errors.Is, of errors out of errors.New: the same pointer, another pointer, nil. -/
import Derived.Test.YtjodehdmafagoaaDoorErrs
import Derived.WalkKit
import Derived.LaidEql
import Derived.Stop.Asserts
import Derived.RowKitTokens
namespace Go.Proofs.YtjodehdmafagoaaDoor
open Go.RowKit Go.Extern.Stop Go.Stop Go.Extern

theorem isTypeOf (v : Value) (w : World) : (Extern.ReflectliteType.typeOf #[.iface 143 v]).run Tryd.prog w = .ok (.iface 119 (.agg #[.pointer (some ⟨30, 143, none⟩)])) w := by kernel_rfl
def cmpMeth : Array Value → Sem Value := Extern.ReflectliteType.method fun t => do
  Extern.Rtype.noPackHeld "Comparable" t
  pure (.bool (← typeInfo t).comparable)
theorem isComparable (w : World) : (cmpMeth #[.agg #[.pointer (some ⟨30, 143, none⟩)]]).run Tryd.prog w = .ok (.bool true) w := by kernel_rfl
theorem isMethodComparable (v : Value) (w : World) : (Go.method 279 119 v "Comparable").run Tryd.prog w = .ok (108, v) w := by kernel_rfl
theorem isComp : (Tryd.prog.info? 143).map (·.comparable) = some true := by kernel_rfl
theorem isSize : (Tryd.prog.info? 167).map (·.size) = some 1 := by kernel_rfl

theorem noIsE (v : Value) (xT : TypeId) (w : World) : (Instr.typeAssert (.iface 143 v) xT 121 true).run Tryd.prog w = .ok (.tuple #[.nilIface, .bool false]) w := run_typeAssert_lacksB Tryd.underlying121 (by kernel_rfl) (by kernel_rfl) v xT w
theorem noUnwrapE (v : Value) (xT : TypeId) (w : World) : (Instr.typeAssert (.iface 143 v) xT 124 true).run Tryd.prog w = .ok (.tuple #[.nilIface, .bool false]) w := run_typeAssert_lacksB Tryd.underlying124 (by kernel_rfl) (by kernel_rfl) v xT w
theorem noUnwrapsE (v : Value) (xT : TypeId) (w : World) : (Instr.typeAssert (.iface 143 v) xT 125 true).run Tryd.prog w = .ok (.tuple #[.nilIface, .bool false]) w := run_typeAssert_lacksB Tryd.underlying125 (by kernel_rfl) (by kernel_rfl) v xT w

/-- errors.Is(x, x). -/
theorem is_same (a : Addr) (w : World) :
    Calls Tryd.prog 40 #[.iface 143 (.pointer (some a)), .iface 143 (.pointer (some a))] w fun e w' => e = .returned (.bool true) ∧ w = w' := by
  obtain ⟨i, hi, hcmp⟩ := Option.map_eq_some_iff.1 isComp
  obtain ⟨j, hj, hjs⟩ := Option.map_eq_some_iff.1 isSize
  have h8 := @run_callFunc_extern Tryd.prog 62 _ Extern.ReflectliteType.typeOf Tryd.func62 (by kernel_rfl) (by kernel_rfl) (by kernel_rfl) (by kernel_rfl)
  have h32 := @run_callFunc_extern Tryd.prog 108 _ cmpMeth Tryd.func108 (by kernel_rfl) (by kernel_rfl) (by kernel_rfl) (by kernel_rfl)
  have tT := isTypeOf
  have cT := isComparable
  have mR := isMethodComparable
  have heq := run_eql_iface_ptr_same (P := Tryd.prog) w a Tryd.underlying28 Tryd.underlying143 hi hcmp hj
  go_enter Tryd.func40, Tryd.ntmps40
  go_wp2
  refine wp_loop_rounds 1 ?_
  rw [rounds_succ]
  go_wp2
  go_ret
  exact ⟨rfl, rfl⟩

/-- errors.Is(x, y), two pointers. -/
theorem is_other (a b : Addr) (ca cb : Array Value) (ta tb : TypeId) (w : World) (hne : a ≠ b) (ha : w.heap[a.block]? = some (.cells ca ta (0, 0))) (hb : w.heap[b.block]? = some (.cells cb tb (0, 0))) :
    Calls Tryd.prog 40 #[.iface 143 (.pointer (some a)), .iface 143 (.pointer (some b))] w fun e w' => e = .returned (.bool false) ∧ w = w' := by
  obtain ⟨i, hi, hcmp⟩ := Option.map_eq_some_iff.1 isComp
  obtain ⟨j, hj, hjs⟩ := Option.map_eq_some_iff.1 isSize
  have h8 := @run_callFunc_extern Tryd.prog 62 _ Extern.ReflectliteType.typeOf Tryd.func62 (by kernel_rfl) (by kernel_rfl) (by kernel_rfl) (by kernel_rfl)
  have h32 := @run_callFunc_extern Tryd.prog 108 _ cmpMeth Tryd.func108 (by kernel_rfl) (by kernel_rfl) (by kernel_rfl) (by kernel_rfl)
  have tT := isTypeOf
  have cT := isComparable
  have mR := isMethodComparable
  have nE := noIsE
  have uE := noUnwrapE
  have vE := noUnwrapsE
  have heq := run_eql_iface_ptr_other (P := Tryd.prog) w Tryd.underlying28 Tryd.underlying143 hi hcmp hj (by rw [hjs]; decide) hne ha hb
  go_enter Tryd.func40, Tryd.ntmps40
  go_wp2
  refine wp_loop_rounds 1 ?_
  rw [rounds_succ]
  go_wp2
  go_ret
  exact ⟨rfl, rfl⟩

/-- The address of the n-th error's variable, by the document's numbers. -/
def errG (n : Nat) : Nat := [0, 0, 5, 4, 2, 6, 7, 8, 9, 10, 11, 12, 13, 14, 15, 16, 17, 18, 19, 20, 21, 22, 23, 24, 25, 3, 1, 26, 27].getD n 0

/-- The errors' variables hold pointers ea 1 to ea 28, no two the same. -/
structure Errs (w : World) (ea : Nat → Addr) : Prop where
  cell : ∀ n, 1 ≤ n → n ≤ 28 → w.cell? ⟨errG n, 0, none⟩ = some (ErrVal (ea n))
  block : ∀ n, 1 ≤ n → n ≤ 28 → ∃ c t, w.heap[(ea n).block]? = some (.cells c t (0, 0))
  apart : ∀ n m, 1 ≤ n → n ≤ 28 → 1 ≤ m → m ≤ 28 → n ≠ m → ea n ≠ ea m

theorem Errs.below {w w' : World} {ea : Nat → Addr} (h : Errs w ea) (hb : Below w.heap.size w w') : Errs w' ea :=
  ⟨fun n h1 h2 => Keeps.of_below hb _ _ (h.cell n h1 h2), fun n h1 h2 => let ⟨c, t, e⟩ := h.block n h1 h2; ⟨c, t, (hb.block _ (Array.getElem?_eq_some_iff.1 e).1).trans e⟩, h.apart⟩

/-- An error's number as a value: 0 is nil. -/
def errOf (ea : Nat → Addr) (n : Nat) : Value := if n = 0 then .nilIface else ErrVal (ea n)

theorem Errs.is {w : World} {ea : Nat → Addr} (h : Errs w ea) (n m : Nat) (h1 : 1 ≤ n) (h2 : n ≤ 28) (h3 : 1 ≤ m) (h4 : m ≤ 28) :
    Calls Tryd.prog 40 #[.iface 143 (.pointer (some (ea n))), .iface 143 (.pointer (some (ea m)))] w fun e w' => e = .returned (.bool (decide (n = m))) ∧ w = w' := by
  by_cases hnm : n = m
  · subst hnm
    rw [decide_eq_true rfl]
    exact is_same _ _
  · obtain ⟨c, t, e⟩ := h.block n h1 h2
    obtain ⟨c', t', e'⟩ := h.block m h3 h4
    rw [decide_eq_false hnm]
    exact is_other _ _ c c' t t' w (h.apart n m h1 h2 h3 h4 hnm) e e'
end Go.Proofs.YtjodehdmafagoaaDoor
