/- KeysCount: what is signed, read. -/
import Derived.Test.YtlfeofakggkebaaDoorStructs
import Derived.Test.YtlfeofakggkebaaDoorLaw
import Derived.Test.YtlfeofakggkebaaDoorAlive10
import Derived.Test.YtlfeofakggkebaaDoorApartLaw0
import Derived.IntWalk
namespace Go.Proofs.YtlfeofakggkebaaDoor
open Go.RowKit Go.ChangeShapes Go.WideShapes Go.ChangeAt Go.Deep

structure Sgn where
  key : Int
  dom : ByteArray
  A : Option Addr
  c : Nat
  msg : List UInt8
instance : Inhabited Sgn := ⟨⟨0, ⟨#[]⟩, none, 0, []⟩⟩
def Sgn.v (a : Sgn) : Value := .slice a.A a.msg.length a.c

/-- What a signed thing's fields point to. -/
def SgnOk (w : World) (a : Sgn) : Prop := RB w a.A a.msg.length a.msg ∧ a.msg.length ≤ a.c ∧ a.c ≤ maxLen ∧ a.dom.size ≤ maxLen
theorem SgnOk.keep {w w' : World} {a : Sgn} (h : SgnOk w a) (k : Keeps w w') : SgnOk w' a := ⟨h.1.keep k, h.2⟩
/-- The slice header (A, n) reads as the list l. -/
def RSgn (w : World) (A : Option Addr) (n : Nat) (l : List Sgn) : Prop :=
  l.length = n ∧ (∀ a ∈ l, SgnOk w a) ∧ (0 < n → ∃ b o, A = some ⟨b, o, none⟩ ∧ ∀ k, k < n → w.cell? ⟨b, o + k * 3, none⟩ = some (.int .i64 (l.getD k default).key) ∧ w.cell? ⟨b, o + k * 3 + 1, none⟩ = some (.string (l.getD k default).dom) ∧
    w.cell? ⟨b, o + k * 3 + 2, none⟩ = some (l.getD k default).v)

theorem fields_sgn : fieldsOf Tryd.prog 36 = some (List.zipIdx [3, 9, 22]) := by kernel_rfl
theorem cells_sgn : Tryd.prog.cellsOf 36 = 3 := by kernel_rfl
theorem cells_sgn1 : ∀ T ∈ [3, 9, 22], Tryd.prog.cellsOf T = 1 := by
  intro T hT
  have h : ([3, 9, 22].all fun T => Tryd.prog.cellsOf T == 1) = true := by kernel_rfl
  simpa using List.all_eq_true.1 h T hT

theorem sgn_of {H : Type} {enc : TypeId × Value → H} {W : World} {held : Bool} {n' : Nat} {V : Nat → Value} (hn : ∀ j T, [3, 9, 22][j]? = some T → ∃ y, DataW.trod enc Tryd.prog W 0 (fun _ => true) held n' T [V j] = some y) :
    ∃ a : Sgn, V 0 = .int .i64 a.key ∧ V 1 = .string a.dom ∧ V 2 = a.v ∧ SgnOk W a := by
  obtain ⟨y0, t0⟩ := hn 0 _ rfl
  obtain ⟨y1, t1⟩ := hn 1 _ rfl
  obtain ⟨y2, t2⟩ := hn 2 _ rfl
  obtain ⟨k0, e0, _, _⟩ := DataW.trod_int Tryd.underlying3 t0
  obtain ⟨s, e1, _, hs⟩ := DataW.trod_string Tryd.underlying9 t1
  obtain ⟨l, A, c, e5, h1, h2, h3⟩ := open_sb t2
  injection e0 with e0 _
  injection e1 with e1 _
  exact ⟨⟨k0, s, A, c, l⟩, e0, e1, e5, h3, h1, h2, hs⟩

theorem open_sgns {H : Type} {enc : TypeId × Value → H} {W : World} {held : Bool} {fuel : Nat} {v : Value} {x : DataW H × List MemPlace} (h : DataW.trod enc Tryd.prog W 0 (fun _ => true) held fuel 34 [v] = some x) :
    ∃ (A : Option Addr) (n c : Nat) (l : List Sgn), v = .slice A n c ∧ RSgn W A n l ∧ n ≤ c ∧ c ≤ maxLen := by
  obtain ⟨A, n, c, V, rfl, hnc, hc, hx⟩ := open_structs Tryd.underlying34 fields_sgn cells_sgn cells_sgn1 (by decide) h
  rcases Nat.eq_zero_or_pos n with h0 | h0
  · subst h0
    exact ⟨A, 0, c, [], rfl, ⟨rfl, by simp, fun h => absurd h (by omega)⟩, hnc, hc⟩
  obtain ⟨b, o, rfl, hx2⟩ := hx h0
  have hx' : ∀ i, i < n → ∃ a : Sgn, (W.cell? ⟨b, o + i * 3, none⟩ = some (.int .i64 a.key) ∧ W.cell? ⟨b, o + i * 3 + 1, none⟩ = some (.string a.dom) ∧ W.cell? ⟨b, o + i * 3 + 2, none⟩ = some a.v) ∧ SgnOk W a := by
    intro i hi
    obtain ⟨n', hn'⟩ := hx2 i hi
    obtain ⟨a, e0, e1, e2, h6⟩ := sgn_of (V := V i) fun j T hj => (hn' j T hj).2
    have g := fun j T hj => (hn' j T hj).1
    refine ⟨a, ⟨?_, ?_, ?_⟩, h6⟩
    · rw [← e0]; exact g 0 _ rfl
    · rw [← e1]; exact g 1 _ rfl
    · rw [← e2]; exact g 2 _ rfl
  obtain ⟨f, hf⟩ := choose_lt hx'
  refine ⟨some ⟨b, o, none⟩, n, c, (List.range n).map f, rfl, ⟨by simp, fun a ha => ?_, fun _ => ⟨b, o, rfl, fun k hk => ?_⟩⟩, hnc, hc⟩
  · obtain ⟨k, hk, rfl⟩ := List.mem_map.1 ha
    exact (hf k (List.mem_range.1 hk)).2
  · have e : ((List.range n).map f).getD k default = f k := by simp [hk]
    rw [e]
    exact (hf k hk).1

theorem open_sgn {H : Type} {enc : TypeId × Value → H} {W : World} {held : Bool} {fuel : Nat} {cs : Array Value} {x : DataW H × List MemPlace} (h : DataW.trod enc Tryd.prog W 0 (fun _ => true) held fuel 36 cs.toList = some x) :
    ∃ a : Sgn, cs = #[.int .i64 a.key, .string a.dom, a.v] ∧ SgnOk W a := by
  obtain ⟨hl, n, hf⟩ := open_fields fields_sgn cells_sgn1 h
  rw [cells_sgn] at hl
  obtain ⟨a, e0, e1, e2, h1⟩ := sgn_of (V := fun j => cs.toList.getD j undef) fun j T hj => hf j T hj (by have : j < 3 := (List.getElem?_eq_some_iff.1 hj).1; omega)
  refine ⟨a, ?_, h1⟩
  have hs : cs.size = 3 := by simpa using hl
  apply Array.ext
  · exact hs
  · intro i hi _
    have hi6 : i < 3 := by omega
    have hg : cs[i] = cs.toList.getD i undef := by simp [List.getD_eq_getElem?_getD, hi]
    rw [hg]
    have : i = 0 ∨ i = 1 ∨ i = 2 := by omega
    rcases this with rfl | rfl | rfl
    · exact e0
    · exact e1
    · exact e2

/-! ### the three keys -/
def keyI (i : Nat) : List UInt8 := UInt8.ofNat (i + 1) :: List.replicate 31 0
theorem keyI_len (i : Nat) : (keyI i).length = 32 := by simp [keyI]
theorem zero_set (i : Nat) (h : i < 3) : (bcells zeroK).toArray.setIfInBounds 0 (.int .u8 ((i : Int) + 1)) = (bcells (keyI i)).toArray := by
  rw [← Int.natCast_succ]
  have e : bcells zeroK = .int .u8 0 :: bcells (List.replicate 31 0) := rfl
  have e2 : bcells (keyI i) = .int .u8 ((i + 1 : Nat) : Int) :: bcells (List.replicate 31 0) := by
    have : (UInt8.ofNat (i + 1)).toNat = i + 1 := by simp; omega
    unfold keyI bcells
    rw [List.map_cons, this]
  rw [e, e2]
  simp
def idI (i : Nat) : ByteArray := ⟨(idL (keyI i)).toArray⟩
theorem ids_apart : idL (keyI 0) ≠ idL (keyI 1) ∧ idL (keyI 0) ≠ idL (keyI 2) ∧ idL (keyI 1) ≠ idL (keyI 2) := by decide +kernel
theorem three_inj {α : Type} {f : Nat → α} (h1 : f 0 ≠ f 1) (h2 : f 0 ≠ f 2) (h3 : f 1 ≠ f 2) {i j : Nat} (hi : i < 3) (hj : j < 3) (e : f i = f j) : i = j := by
  have ci : i = 0 ∨ i = 1 ∨ i = 2 := by omega
  have cj : j = 0 ∨ j = 1 ∨ j = 2 := by omega
  rcases ci with rfl | rfl | rfl <;> rcases cj with rfl | rfl | rfl <;> first | rfl | exact absurd e h1 | exact absurd e h2 | exact absurd e h3 | exact absurd e.symm h1 | exact absurd e.symm h2 | exact absurd e.symm h3
theorem bytes_of_mk {l r : List UInt8} (h : (⟨l.toArray⟩ : ByteArray) = ⟨r.toArray⟩) : l = r := by
  injection h with h
  injection h with h
theorem idI_inj {i j : Nat} (hi : i < 3) (hj : j < 3) (h : idI i = idI j) : i = j :=
  three_inj (f := fun i => idL (keyI i)) ids_apart.1 ids_apart.2.1 ids_apart.2.2 hi hj (bytes_of_mk h)
def ksI : Nat → List (ByteArray × List UInt8)
  | 0 => []
  | k + 1 => ksI k ++ [(idI k, keyI k)]
theorem findK_append (id : ByteArray) (l r : List (ByteArray × List UInt8)) : findK id (l ++ r) = (findK id l).or (findK id r) := by
  induction l with
  | nil => rfl
  | cons x l ih =>
    by_cases c : (id == x.1) = true
    · have e1 : findK id (x :: l ++ r) = some x.2 := if_pos c
      have e2 : findK id (x :: l) = some x.2 := if_pos c
      rw [e1, e2]; rfl
    · have e1 : findK id (x :: l ++ r) = findK id (l ++ r) := if_neg c
      have e2 : findK id (x :: l) = findK id l := if_neg c
      rw [e1, e2, ih]
theorem beq_bytes {a b : ByteArray} : (a == b) = true ↔ a = b := by
  rw [beq_toListBytes, beq_iff_eq]
  exact ⟨bytes_inj, fun h => by rw [h]⟩
theorem findK_two (a b : ByteArray) (key : List UInt8) (h : a ≠ b) : findK a [(b, key)] = none := if_neg fun c => h (beq_bytes.1 c)
theorem findK_new {i : Nat} (hi : i < 3) : ∀ k, k ≤ i → findK (idI i) (ksI k) = none
  | 0, _ => rfl
  | k + 1, hk => by
    rw [ksI, findK_append, findK_new hi k (by omega), findK_two _ _ _ fun e => by have := idI_inj hi (by omega) e; omega]
    rfl
theorem findK_ksI {i : Nat} (hi : i < 3) : findK (idI i) (ksI 3) = some (keyI i) := by
  have h3 : ∃ t, ksI 3 = ksI i ++ (idI i, keyI i) :: t := by
    have ci : i = 0 ∨ i = 1 ∨ i = 2 := by omega
    rcases ci with rfl | rfl | rfl
    · exact ⟨[(idI 1, keyI 1), (idI 2, keyI 2)], by simp only [ksI, List.nil_append, List.cons_append]⟩
    · exact ⟨[(idI 2, keyI 2)], by simp only [ksI, List.nil_append, List.cons_append]⟩
    · exact ⟨[], by simp only [ksI, List.nil_append, List.cons_append]⟩
  obtain ⟨t, h3⟩ := h3
  have e : findK (idI i) ((idI i, keyI i) :: t) = some (keyI i) := by
    unfold findK
    rw [if_pos (beq_bytes.2 rfl)]
  rw [h3, findK_append, findK_new hi i (Nat.le_refl _), e]
  rfl

/-- Which of the three keys a number means. -/
def kOf (i : Int) : Nat := (i % 18446744073709551616 % 3).toNat
theorem kOf_lt (i : Int) : kOf i < 3 := by unfold kOf; omega
theorem wrapK (x : Int) : wrap64 ((IntKind.u64.wrap x).tmod 3) = (kOf x : Int) := by
  have h : IntKind.u64.wrap x = x % 18446744073709551616 := by simp [IntKind.wrap, IntKind.signed, IntKind.bits]
  have h0 : 0 ≤ x % 18446744073709551616 := Int.emod_nonneg _ (by decide)
  rw [h, Int.tmod_eq_emod_of_nonneg h0]
  unfold kOf wrap64
  omega
/-- Which of the signed things is asked for. -/
def isAsk (ask x : Sgn) : Prop := kOf x.key = kOf ask.key ∧ x.dom = ask.dom ∧ x.msg = ask.msg
def frS (a : Sgn) : List UInt8 := frameB a.dom.data.toList [a.msg]
theorem goodS {a : Sgn} (h : wordBad a.dom.data.toList = false) (ho : a.msg.length ≤ 200) : frameBad a.dom.data.toList [a.msg] = false := by
  unfold frameBad partsBad
  rw [h]
  simp [tooLong]
  omega
theorem frS_inj {a b : Sgn} (ha : wordBad a.dom.data.toList = false) (hb : wordBad b.dom.data.toList = false) (la : a.msg.length ≤ 200) (lb : b.msg.length ≤ 200) (h : frS a = frS b) : a.dom = b.dom ∧ a.msg = b.msg := by
  have l1 := wordBad_len ha
  have l2 := wordBad_len hb
  have := frameB_prefix a.dom.data.toList b.dom.data.toList [a.msg] [b.msg] [] (by omega) (by omega) (by simp) (by simp) (fun p hp => by rw [List.mem_singleton.1 hp]; omega) (fun p hp => by rw [List.mem_singleton.1 hp]; omega) (by rw [List.append_nil]; exact h)
  refine ⟨bytes_inj ?_, by simpa using this.2⟩
  rw [ByteArray.toList_eq, ByteArray.toList_eq]
  exact this.1
/-- What was asked for is in the book. -/
def InBook (ask : Sgn) (was : Bool) (es : List (ByteArray × ByteArray)) : Prop := wordBad ask.dom.data.toList = false → was = inE (idI (kOf ask.key)) ⟨(frS ask).toArray⟩ es
theorem InBook.step {ask x : Sgn} {was : Bool} {es : List (ByteArray × ByteArray)} (h : InBook ask was es) (la : ask.msg.length ≤ 200) (lx : x.msg.length ≤ 200) (hx : wordBad x.dom.data.toList = false) {b : Bool} (hb : b = true ↔ isAsk ask x) :
    InBook ask (was || b) (putE (idI (kOf x.key)) ⟨(frS x).toArray⟩ es) := by
  intro ha
  rw [h ha]
  by_cases hs : isAsk ask x
  · have e1 : frS x = frS ask := by unfold frS; rw [hs.2.1, hs.2.2]
    rw [hb.2 hs, Bool.or_true, hs.1, e1, inE_put_same]
  · have e1 : b = false := by cases b; · rfl
                              · exact absurd (hb.1 rfl) hs
    rw [e1, Bool.or_false, inE_put_other]
    rintro ⟨h1, h2⟩
    have h3 := frS_inj ha hx la lx (bytes_of_mk h2)
    exact hs ⟨(idI_inj (kOf_lt _) (kOf_lt _) h1).symm, h3.1.symm, h3.2.symm⟩
def overS (a : Sgn) : Bool := decide (100 < a.dom.size) || decide (200 < a.msg.length)
end Go.Proofs.YtlfeofakggkebaaDoor
