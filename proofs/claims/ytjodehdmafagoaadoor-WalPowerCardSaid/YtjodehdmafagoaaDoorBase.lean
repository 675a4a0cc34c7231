/- Words on memory that the walks share: a slice of bytes reads as a list; a slice of such slices; frames. No program in sight. -/
import Derived.WalkKit
import Derived.WalkLawsBesides
import Derived.WalkSpells
import Derived.Deep.QuietTactic
import Derived.BigQuiet
import Derived.Lib.Hide
import Derived.Deep.AppendSrc
import Derived.Deep.AppendLies
import Derived.Laws.BytesArg
namespace Go.Proofs.YtjodehdmafagoaaDoor
open Go.RowKit

theorem ret_bool {a b : Bool} (h : a = b) : Ending.returned (.bool a) = .returned (.bool b) := by rw [h]
theorem ret_int {k : IntKind} {a b : Int} (h : a = b) : Ending.returned (.int k a) = .returned (.int k b) := by rw [h]

/-- The slice header (A, n) reads as the bytes l. -/
def RB (w : World) (A : Option Addr) (n : Nat) (l : List UInt8) : Prop :=
  l.length = n ∧ (0 < n → ∃ b o, A = some ⟨b, o, none⟩ ∧ ∀ k, k < n → w.cell? ⟨b, o + k, none⟩ = some (.int .u8 (l.getD k 0).toNat))

/-- A slice value reads as the bytes l. -/
def SB (w : World) (v : Value) (l : List UInt8) : Prop :=
  ∃ A c, v = .slice A l.length c ∧ l.length ≤ c ∧ c ≤ maxLen ∧ RB w A l.length l

/-- The slice header (A, n) reads as a list of bytes' slices. -/
def RBL (w : World) (A : Option Addr) (n : Nat) (ls : List (List UInt8)) : Prop :=
  ls.length = n ∧ (0 < n → ∃ b o, A = some ⟨b, o, none⟩ ∧ ∀ k, k < n → ∃ v, w.cell? ⟨b, o + k, none⟩ = some v ∧ SB w v (ls.getD k []))

/-- All cells that w has, w' has too, with the same values. -/
def Keeps (w w' : World) : Prop := ∀ p v, w.cell? p = some v → w'.cell? p = some v

theorem Keeps.refl (w : World) : Keeps w w := fun _ _ h => h
theorem Keeps.trans {a b c : World} (h : Keeps a b) (k : Keeps b c) : Keeps a c := fun p v x => k p v (h p v x)
theorem Keeps.of_below {w w' : World} (h : Below w.heap.size w w') : Keeps w w' := fun p _ x => (h.cell (World.block_lt_of_cell? w p x)).trans x
theorem Keeps.drewN (w : World) (n : Nat) : Keeps w (w.drewN n) := fun _ _ h => h
theorem Keeps.drew (w : World) : Keeps w w.drew := fun _ _ h => h

theorem RB.keep {w w' : World} {A n l} (h : RB w A n l) (k : Keeps w w') : RB w' A n l :=
  ⟨h.1, fun hn => let ⟨b, o, e, hc⟩ := h.2 hn; ⟨b, o, e, fun i hi => k _ _ (hc i hi)⟩⟩
theorem SB.keep {w w' : World} {v l} (h : SB w v l) (k : Keeps w w') : SB w' v l :=
  let ⟨A, c, e, h1, h2, h3⟩ := h; ⟨A, c, e, h1, h2, h3.keep k⟩
theorem RBL.keep {w w' : World} {A n ls} (h : RBL w A n ls) (k : Keeps w w') : RBL w' A n ls :=
  ⟨h.1, fun hn => let ⟨b, o, e, hc⟩ := h.2 hn; ⟨b, o, e, fun i hi => let ⟨v, h1, h2⟩ := hc i hi; ⟨v, k _ _ h1, h2.keep k⟩⟩⟩

theorem below_drewN {B : Nat} {a w : World} (h : Below B a w) (n : Nat) : Below B a (w.drewN n) := ⟨h.os, h.tape, h.output, h.size, h.block⟩

theorem RB.nil (w : World) (A : Option Addr) : RB w A 0 [] := ⟨rfl, fun h => absurd h (by omega)⟩
theorem SB.nil (w : World) : SB w (.slice none 0 0) [] := ⟨none, 0, rfl, Nat.le_refl _, by unfold maxLen; omega, RB.nil _ _⟩
theorem RBL.nil (w : World) (A : Option Addr) : RBL w A 0 [] := ⟨rfl, fun h => absurd h (by omega)⟩

theorem SB.of_rb {w : World} {A n c l} (h : RB w A n l) (hc : n ≤ c) (hm : c ≤ maxLen) : SB w (.slice A n c) l := by
  obtain ⟨rfl, h2⟩ := h
  exact ⟨A, c, rfl, hc, hm, rfl, h2⟩

theorem b_or (a b : UInt8) : bits .or .u8 (a.toNat : Int) (b.toNat : Int) = ((a ||| b).toNat : Int) := by
  rw [u8_or_nat _ _ a.toNat_lt b.toNat_lt, UInt8.toNat_or]
theorem b_xor (a b : UInt8) : bits .xor .u8 (a.toNat : Int) (b.toNat : Int) = ((a ^^^ b).toNat : Int) := by
  rw [u8_xor_nat _ _ a.toNat_lt b.toNat_lt, UInt8.toNat_xor]

/-- The cells of bytes. -/
def bcells (l : List UInt8) : List Value := l.map fun b => Value.int .u8 b.toNat
theorem bcells_length (l : List UInt8) : (bcells l).length = l.length := by simp [bcells]
theorem bcells_append (l r : List UInt8) : bcells (l ++ r) = bcells l ++ bcells r := by simp [bcells]
theorem bcells_one (l : List UInt8) : ∀ u ∈ bcells l, u.oneCell' = true := by
  intro u hu
  obtain ⟨_, _, rfl⟩ := List.mem_map.1 hu
  rfl
theorem bcells_get {l : List UInt8} {k : Nat} (h : k < l.length) : (bcells l)[k]? = some (.int .u8 (l.getD k 0).toNat) := by
  simp [bcells, h]

theorem addr_add (b o k : Nat) : (⟨b, o, none⟩ : Addr).add k = ⟨b, o + k, none⟩ := by unfold Addr.add; split <;> simp_all

theorem RB.news {w : World} {b o n : Nat} {l : List UInt8} (hl : l.length = n) (h : ∀ k, k < n → w.cell? ⟨b, o + k, none⟩ = some (.int .u8 (l.getD k 0).toNat)) :
    ∀ j u, (bcells l)[j]? = some u → w.cell? ((⟨b, o, none⟩ : Addr).add j) = some u := by
  intro j u hu
  have hj : j < l.length := by
    rcases Nat.lt_or_ge j l.length with h' | h'
    · exact h'
    · rw [List.getElem?_eq_none (by rw [bcells_length]; exact h')] at hu; cases hu
  rw [addr_add, h j (by omega), ← hu, bcells_get hj]

/-- What an append's second argument yields: a slice that reads as bytes. -/
theorem RB.src {P : Program} {w : World} {tx e' : TypeId} (hk : P.underlying tx = some (.slice e')) {A : Option Addr} {n c : Nat} {l : List UInt8} (h : RB w A n l) :
    Src P 1 tx (.slice A n c) n (bcells l) w := by
  rcases Nat.eq_zero_or_pos n with h0 | h0
  · subst h0
    have : l = [] := List.eq_nil_of_length_eq_zero h.1
    subst this
    cases A with
    | none => exact Src.ofNil w hk c
    | some a => exact Src.ofSlice w hk a 0 c [] (by simp) (by simp) (by simp)
  · obtain ⟨b, o, rfl, hc⟩ := h.2 h0
    exact Src.ofSlice w hk _ n c (bcells l) (by rw [bcells_length, h.1, Nat.mul_one]) (RB.news h.1 hc) (bcells_one l)

/-- A row of the call's own reads as bytes. -/
theorem RB.of_own {w : World} {base e n c : Nat} {A : Option Addr} {l : List UInt8} (h : w.ownsRow base e 1 (.slice A n c) n (bcells l)) : RB w A n l := by
  have hl : l.length = n := by have := h.1; rw [bcells_length] at this; omega
  refine ⟨hl, fun hn => ?_⟩
  obtain ⟨g, cap, hv, _, _⟩ := h.form hn
  injection hv with hA _ _
  subst hA
  refine ⟨g, 0, rfl, fun k hk => ?_⟩
  have := h.cells (g := g) rfl k _ (bcells_get (l := l) (by omega))
  rwa [addr_add] at this

/-- bytes to string -/
theorem run_bytes_string {P : Program} {src e : TypeId} (hs : P.underlying src = some (.slice e)) (he : P.underlying e = some (.int .u8)) {dst : TypeId} (hd : P.underlying dst = some .string)
    {w : World} {A : Option Addr} {n c : Nat} {l : List UInt8} (h : RB w A n l) : (convert src dst (.slice A n c)).run P w = .ok (.string ⟨l.toArray⟩) w := by
  rcases Nat.eq_zero_or_pos n with h0 | h0
  · subst h0
    have : l = [] := List.eq_nil_of_length_eq_zero h.1
    subst this
    cases A with
    | none => exact run_convert_bytes_nil w src e hs he 0 c dst hd
    | some a =>
      rw [run_convert_bytes_string w src dst e _ 0 c hs he hd, run_bytesToString w a 0 c [] (by simp [loadCells, loadCellsFrom])]
      rfl
  · obtain ⟨b, o, rfl, hc⟩ := h.2 h0
    have := run_convert_bytes_arg (P := P) w src e hs he b o n c (l.map fun x => (x.toNat : Int)) (by simp [h.1]) (fun i hi => by
      rw [hc i hi]
      have : i < l.length := by have := h.1; omega
      simp [this]) dst hd
    rw [this]
    have e : (l.map fun x : UInt8 => (x.toNat : Int)).map (fun n => UInt8.ofNat n.toNat) = l := by
      rw [List.map_map]
      conv => rhs; rw [← List.map_id l]
      exact List.map_congr_left fun x _ => by simp
    unfold strOfNums
    rw [e]

theorem str_list (l : List UInt8) : (⟨l.toArray⟩ : ByteArray).toList = l := ByteArray.toList_eq _

/-! ### a quiet region behind a quiet region -/
theorem quiet_add {P : Program} {f : FuncId} {args : Array Value} {w : World} {a n : Nat} {v : Value}
    (h : Calls P f args (w.drewN (a + n)) fun e w' => e = .returned v ∧ ∃ m, w' = (w.drewN (a + n)).drewN m) :
    Calls P f args (w.drewN (a + n)) fun e w'' => e = .returned v ∧ ∃ m, w'' = w.drewN (a + m) :=
  h.mono fun _ _ ⟨he, m, hm⟩ => ⟨he, n + m, by rw [hm, World.drewN_drewN, Nat.add_assoc]⟩
theorem quiet_add_same {P : Program} {f : FuncId} {args : Array Value} {w : World} {a n : Nat} {v : Value}
    (h : Calls P f args (w.drewN (a + n)) fun e w' => e = .returned v ∧ w' = w.drewN (a + n)) :
    Calls P f args (w.drewN (a + n)) fun e w'' => e = .returned v ∧ ∃ m, w'' = w.drewN (a + m) :=
  h.mono fun _ _ ⟨he, hm⟩ => ⟨he, n, hm⟩
theorem quiet_left {P : Program} {f : FuncId} {args : Array Value} {w : World} {n : Nat} {v : Value}
    (h : Calls P f args (w.drewN n) fun e w' => e = .returned v ∧ w.drewN n = w') : Calls P f args (w.drewN n) fun e w'' => e = .returned v ∧ ∃ m, w'' = w.drewN m :=
  h.mono fun _ _ ⟨he, hm⟩ => ⟨he, n, hm.symm⟩
end Go.Proofs.YtjodehdmafagoaaDoor
