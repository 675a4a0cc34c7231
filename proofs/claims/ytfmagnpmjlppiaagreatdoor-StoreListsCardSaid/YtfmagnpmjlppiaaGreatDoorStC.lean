/- Layer 20: its acts, read; long; SameObject. -/
import Derived.Test.YtfmagnpmjlppiaaGreatDoorOrdSO
import Derived.Deep.LoopGhost
import Derived.Test.YtfmagnpmjlppiaaGreatDoorLaw
namespace Go.Proofs.YtfmagnpmjlppiaaGreatDoor
open Go.RowKit SO
structure Act20 where
 kind : Int
 n : Int
 torn : Int
 scat : Int
 o : OV
 bs : List UInt8
 now : Bool
instance : Inhabited Act20 := ⟨⟨0, 0, 0, 0, ⟨0, ⟨#[]⟩, ⟨#[]⟩, 0, none, 0, 0⟩, [], false⟩⟩
/-- Ten cells are an act. -/
def AC (w : World) (b off : Nat) (a : Act20) : Prop :=
 w.cell? ⟨b, off, none⟩ = some (.int .i64 a.kind) ∧ w.cell? ⟨b, off + 1, none⟩ = some (.int .i64 a.n) ∧ w.cell? ⟨b, off + 2, none⟩ = some (.int .i64 a.torn) ∧ w.cell? ⟨b, off + 3, none⟩ = some (.int .u64 a.scat) ∧
 w.cell? ⟨b, off + 4, none⟩ = some (.int .i64 a.o.kind) ∧ w.cell? ⟨b, off + 4 + 1, none⟩ = some (.string a.o.space) ∧ w.cell? ⟨b, off + 4 + 2, none⟩ = some (.string a.o.name) ∧ w.cell? ⟨b, off + 4 + 3, none⟩ = some (.int .i64 a.o.ver) ∧ w.cell? ⟨b, off + 4 + 4, none⟩ = some (.slice a.o.A a.o.n a.o.c) ∧ w.cell? ⟨b, off + 9, none⟩ = some (.bool a.now)
theorem AC.keep {w w' : World} {b off : Nat} {a : Act20} (h : AC w b off a) (k : Keeps w w') : AC w' b off a :=
 ⟨k _ _ h.1, k _ _ h.2.1, k _ _ h.2.2.1, k _ _ h.2.2.2.1, k _ _ h.2.2.2.2.1, k _ _ h.2.2.2.2.2.1, k _ _ h.2.2.2.2.2.2.1, k _ _ h.2.2.2.2.2.2.2.1, k _ _ h.2.2.2.2.2.2.2.2.1, k _ _ h.2.2.2.2.2.2.2.2.2⟩
/-- What stands of an act. -/
structure ActOk (w : World) (a : Act20) : Prop where
 rb : RB w a.o.A a.o.n a.bs
 nc : a.o.n ≤ a.o.c
 cm : a.o.c ≤ maxLen
 kind : a.o.kind ≤ 9223372036854775807
theorem ActOk.keep {w w' : World} {a : Act20} (h : ActOk w a) (k : Keeps w w') : ActOk w' a := ⟨h.rb.keep k, h.nc, h.cm, h.kind⟩
/-- The slice header (A, n) reads as the acts l. -/
def RActs20 (w : World) (A : Option Addr) (n : Nat) (l : List Act20) : Prop :=
 l.length = n ∧ (∀ a ∈ l, ActOk w a) ∧ (0 < n → ∃ b o, A = some ⟨b, o, none⟩ ∧ ∀ k, k < n → AC w b (o + k * 10) (l.getD k default))
theorem RActs20.keep {w w' : World} {A : Option Addr} {n : Nat} {l : List Act20} (h : RActs20 w A n l) (k : Keeps w w') : RActs20 w' A n l :=
 ⟨h.1, fun a ha => (h.2.1 a ha).keep k, fun h0 => let ⟨b, o, e, hc⟩ := h.2.2 h0; ⟨b, o, e, fun i hi => (hc i hi).keep k⟩⟩
def over20 (a : Act20) : Bool := decide (9000 < a.o.n) || (decide (100 < a.o.name.size) || decide (100 < a.o.space.size))
def longS (l : List Act20) : Bool := decide (40 < l.length) || l.any over20

set_option maxHeartbeats 2000000 in
theorem long20_any (A : Option Addr) (n c : Nat) (l : List Act20) (w : World) (hl : RActs20 w A n l) (hn : n ≤ maxLen) :
  Calls Tryz.prog 7 #[.slice A n c] w fun e w' => e = .returned (.bool (longS l)) ∧ Below w.heap.size w w' := by
 unfold maxLen at hn
 have Hl := Hj hl
 have Hll := Hj hl.1
 clear hl
 by_cases h1 : 40 < n
 ·have d1 : decide (40 < (n : Int)) = true := decide_eq_true (by omega)
  have HR : Hid (longS l = true) := Hj (by unfold longS; rw [Hll.out, decide_eq_true h1]; rfl)
  rw [HR.out]
  go_enter Tryz.func7, Tryz.ntmps7
  go_wp2
  go_ret
  exact ⟨rfl, Below.refl _ _⟩
 have d1 : decide (40 < (n : Int)) = false := decide_eq_false (by omega)
 have HR : Hid (longS l = l.any over20) := Hj (by unfold longS; rw [Hll.out, decide_eq_false h1]; rfl)
 have hn40 : n ≤ 40 := by omega
 have HN := Hj hn40
 rw [HR.out]
 clear h1 hn hn40
 by_cases hz : n = 0
 ·subst hz
  have HE : Hid (l.any over20 = false) := Hj (by rw [List.eq_nil_of_length_eq_zero Hll.out]; rfl)
  go_enter Tryz.func7, Tryz.ntmps7
  go_wp2
  go_loopg [10] 1 (fun gk s10 wr => s10 = .int .i64 0 ∧ wr = w)
  case atStart => exact ⟨rfl, rfl⟩
  case round =>
   obtain ⟨rfl, hw⟩ := hrel
   subst hw
   go_wp2
   go_ret
   exact ⟨ret_bool HE.out.symm, Below.refl _ _⟩
 obtain ⟨b, o, rfl, hb⟩ := Hl.out.2.2 (Nat.pos_of_ne_zero hz)
 have HBc := Hj hb
 clear hb hz
 go_enter Tryz.func7, Tryz.ntmps7
 go_wp2
 go_loopg [10] n (fun gk s10 wr => ∃ k : Nat, s10 = .int .i64 (k : Int) ∧ k + gk = n ∧ (l.take k).any over20 = false ∧ Below w.heap.size w wr)
 case atStart => exact ⟨0, rfl, by omega, by simp, Below.refl _ _⟩
 case round =>
  obtain ⟨k, rfl, hk, hall, hbel⟩ := hrel
  have HK := Hj hk
  have HA := Hj hall
  have HB := Hj hbel
  by_cases hlt : k < n
  ·obtain ⟨c0, c1, c2, c3, c4, c5, c6, c7, c8, c9⟩ := (HBc.out k hlt).keep (Kz hbel)
   have HS := Hj (List.take_succ_eq_append_getElem (l := l) (i := k) (by rw [Hll.out]; exact hlt))
   have HM := Hj (List.getElem_mem (l := l) (n := k) (by rw [Hll.out]; exact hlt))
   rw [List.getD_eq_getElem?_getD, List.getElem?_eq_getElem (by rw [Hll.out]; exact hlt)] at c0 c1 c2 c3 c4 c5 c6 c7 c8 c9
   simp only [Option.getD_some] at c0 c1 c2 c3 c4 c5 c6 c7 c8 c9
   generalize l[k]'(by rw [Hll.out]; exact hlt) = x at *
   have k0 : (0 : Int) ≤ (k : Int) := by omega
   have k1 : (k : Int) < (n : Int) := by omega
   have k2 : (k : Int) ≤ 40 := by have := HN.out; omega
   have HB1 := Hj (HB.out.alloc HB.out.size (.cells #[.int .i64 x.kind, .int .i64 x.n, .int .i64 x.torn, .int .u64 x.scat, .int .i64 x.o.kind, .string x.o.space, .string x.o.name, .int .i64 x.o.ver, .slice x.o.A x.o.n x.o.c, .bool x.now] 28))
   have HLt := Hj hlt
   cases hq : over20 x with
   | true =>
    have HT : Hid (l.any over20 = true) := Hj (List.any_eq_true.2 ⟨x, HM.out, hq⟩)
    clear hk hall hbel hlt
    unfold over20 at hq
    by_cases q1 : 9000 < x.o.n
    ·have q1i : (9000 : Int) < (x.o.n : Int) := by omega
     clear hq
     go_wp2
     go_ret
     exact ⟨ret_bool HT.out.symm, HB1.out⟩
    ·rw [decide_eq_false q1, Bool.false_or] at hq
     have q1i : ¬ (9000 : Int) < (x.o.n : Int) := by omega
     by_cases q2 : 100 < x.o.name.size
     ·have q2i : (100 : Int) < (x.o.name.size : Int) := by omega
      clear hq
      go_wp2
      go_ret
      exact ⟨ret_bool HT.out.symm, HB1.out⟩
     ·rw [decide_eq_false q2, Bool.false_or] at hq
      have q2i : ¬ (100 : Int) < (x.o.name.size : Int) := by omega
      have q3 := of_decide_eq_true hq
      have q3i : (100 : Int) < (x.o.space.size : Int) := by omega
      clear hq
      go_wp2
      go_ret
      exact ⟨ret_bool HT.out.symm, HB1.out⟩
   | false =>
    have Hq := Hj hq
    unfold over20 at hq
    rw [Bool.or_eq_false_iff, Bool.or_eq_false_iff] at hq
    have q1 := of_decide_eq_false hq.1
    have q2 := of_decide_eq_false hq.2.1
    have q3 := of_decide_eq_false hq.2.2
    have q1i : ¬ (9000 : Int) < (x.o.n : Int) := by omega
    have q2i : ¬ (100 : Int) < (x.o.name.size : Int) := by omega
    have q3i : ¬ (100 : Int) < (x.o.space.size : Int) := by omega
    clear hk hall hbel hlt hq
    go_wp2
    go_roundg (gk - 1)
    case measure => have := HK.out; have := HLt.out; omega
    case rel => exact ⟨k + 1, by go_num, by have := HK.out; have := HLt.out; omega, by rw [HS.out, List.any_append, HA.out]; simpa using Hq.out, HB1.out⟩
  ·obtain hkn : k = n := by omega
   have HE : Hid (l.any over20 = false) := Hj (by have := HA.out; rwa [List.take_of_length_le (by rw [Hll.out]; omega)] at this)
   have q5 : ¬ (k : Int) < (n : Int) := by omega
   clear hk hall hbel hlt hkn
   go_wp2
   go_ret
   exact ⟨ret_bool HE.out.symm, HB.out⟩

end Go.Proofs.YtfmagnpmjlppiaaGreatDoor

/- Layer 20: acts as arguments, read. -/
namespace Go.Proofs.YtfmagnpmjlppiaaGreatDoor
open Go.RowKit Go.ChangeShapes Go.WideShapes Go.ChangeAt Go.Deep SO

section
variable {H : Type} {enc : TypeId × Value → H} {P : Program} {w : World} {base : Nat} {spare : Nat → Bool} {held : Bool}
/-- A struct's fields, of any size. -/
theorem open_fields2 {e : TypeId} {fl : List (TypeId × Nat)} (he : fieldsOf P e = some fl) {fuel : Nat} {cs : List Value} {x : DataW H × List MemPlace} (h : DataW.trod enc P w base spare held fuel e cs = some x) :
  cs.length = P.cellsOf e ∧ ∃ n, ∀ (j : Nat) (T : TypeId) (o : Nat), fl[j]? = some (T, o) → ∃ y, DataW.trod enc P w base spare held n T ((cs.drop o).take (P.cellsOf T)) = some y := by
 unfold fieldsOf at he
 split at he
 ·rename_i fs hu
  obtain ⟨xs, n, rfl, hx, hcl, hxl, hf⟩ := DataW.trod_struct hu h
  refine ⟨hcl, n, fun j T o hj => ?_⟩
  have hz : fs.toList.map (fun f => (f.type, f.offset)) = fl := Option.some.inj he
  rw [← hz, List.getElem?_map] at hj
  cases hg : fs.toList[j]? with
  | none => rw [hg] at hj; cases hj
  | some f =>
   rw [hg] at hj
   have hfj : fs[j]? = some f := by rw [← Array.getElem?_toList]; exact hg
   have hp : (f.type, f.offset) = (T, o) := Option.some.inj hj
   have hT : f.type = T := congrArg Prod.fst hp
   have ho : f.offset = o := congrArg Prod.snd hp
   have hjl : j < fs.size := (Cz hfj)
   have := hf j f hfj
   rw [hT, ho] at this
   exact ⟨xs[j]'(by omega), by rw [this, List.getElem?_eq_getElem]⟩
 ·cases he
end

theorem list5 {α : Type} {l : List α} (h : l.length = 5) : ∃ a b c d e, l = [a, b, c, d, e] := by
 match l, h with
 | [a, b, c, d, e], _ => exact ⟨_, _, _, _, _, rfl⟩
theorem list10 {α : Type} {l : List α} (h : l.length = 10) : ∃ a b c d e f g i j k, l = [a, b, c, d, e, f, g, i, j, k] := by
 match l, h with
 | [a, b, c, d, e, f, g, i, j, k], _ => exact ⟨_, _, _, _, _, _, _, _, _, _, rfl⟩
theorem fields_act20 : fieldsOf Tryz.prog 28 = some [(3, 0), (3, 1), (3, 2), (23, 3), (26, 4), (4, 9)] := by kernel_rfl
theorem fields_obj20 : fieldsOf Tryz.prog 26 = some [(3, 0), (9, 1), (9, 2), (3, 3), (24, 4)] := by kernel_rfl
theorem cells_act20 : Tryz.prog.cellsOf 28 = 10 := by kernel_rfl
theorem cells_obj20 : Tryz.prog.cellsOf 26 = 5 := by kernel_rfl
theorem cells_int20 : Tryz.prog.cellsOf 3 = 1 := by kernel_rfl
theorem cells_u6420 : Tryz.prog.cellsOf 23 = 1 := by kernel_rfl
theorem cells_str20 : Tryz.prog.cellsOf 9 = 1 := by kernel_rfl
theorem cells_bool20 : Tryz.prog.cellsOf 4 = 1 := by kernel_rfl

section
variable {H : Type} {enc : TypeId × Value → H} {W : World} {held : Bool}
theorem open_obj20 {fuel : Nat} {cs : List Value} {x : DataW H × List MemPlace} (h : DataW.trod enc Tryz.prog W 0 (fun _ => true) held fuel 26 cs = some x) :
  ∃ (v : OV) (bs : List UInt8), cs = [.int .i64 v.kind, .string v.space, .string v.name, .int .i64 v.ver, .slice v.A v.n v.c] ∧ RB W v.A v.n bs ∧ v.n ≤ v.c ∧ v.c ≤ maxLen ∧ v.kind ≤ 9223372036854775807 := by
 obtain ⟨hl, n, hf⟩ := open_fields2 fields_obj20 h
 rw [cells_obj20] at hl
 obtain ⟨c0, c1, c2, c3, c4, rfl⟩ := list5 hl
 obtain ⟨y0, t0⟩ := hf 0 _ _ rfl
 obtain ⟨y1, t1⟩ := hf 1 _ _ rfl
 obtain ⟨y2, t2⟩ := hf 2 _ _ rfl
 obtain ⟨y3, t3⟩ := hf 3 _ _ rfl
 obtain ⟨y4, t4⟩ := hf 4 _ _ rfl
 rw [cells_int20] at t0 t3
 rw [cells_str20] at t1 t2
 rw [cells_bytes] at t4
 obtain ⟨k0, e0, _, hw⟩ := DataW.trod_int Tryz.underlying3 t0
 obtain ⟨k1, e1, _, _⟩ := DataW.trod_string Tryz.underlying9 t1
 obtain ⟨k2, e2, _, _⟩ := DataW.trod_string Tryz.underlying9 t2
 obtain ⟨k3, e3, _, _⟩ := DataW.trod_int Tryz.underlying3 t3
 obtain ⟨l, A, c, e4, h1, h2, h3⟩ := open_sb (show DataW.trod enc Tryz.prog W 0 (fun _ => true) held n 24 [c4] = some y4 from t4)
 injection (show [c0] = _ from e0) with e0 _
 injection (show [c1] = _ from e1) with e1 _
 injection (show [c2] = _ from e2) with e2 _
 injection (show [c3] = _ from e3) with e3 _
 simp [Lit.wf, IntKind.min, IntKind.max, IntKind.signed, IntKind.bits] at hw
 refine ⟨⟨k0, k1, k2, k3, A, l.length, c⟩, l, ?_, h3, h1, h2, by dsimp only; omega⟩
 rw [e0, e1, e2, e3, e4]

/-- An act's ten cells, read. -/
theorem open_actL {fuel : Nat} {cs : List Value} {x : DataW H × List MemPlace} (h : DataW.trod enc Tryz.prog W 0 (fun _ => true) held fuel 28 cs = some x) :
  ∃ a : Act20, cs = [.int .i64 a.kind, .int .i64 a.n, .int .i64 a.torn, .int .u64 a.scat, .int .i64 a.o.kind, .string a.o.space, .string a.o.name, .int .i64 a.o.ver, .slice a.o.A a.o.n a.o.c, .bool a.now] ∧ ActOk W a ∧ 0 ≤ a.scat ∧ a.scat ≤ 18446744073709551615 := by
 obtain ⟨hl, n, hf⟩ := open_fields2 fields_act20 h
 rw [cells_act20] at hl
 obtain ⟨c0, c1, c2, c3, c4, c5, c6, c7, c8, c9, rfl⟩ := list10 hl
 obtain ⟨y0, t0⟩ := hf 0 _ _ rfl
 obtain ⟨y1, t1⟩ := hf 1 _ _ rfl
 obtain ⟨y2, t2⟩ := hf 2 _ _ rfl
 obtain ⟨y3, t3⟩ := hf 3 _ _ rfl
 obtain ⟨y4, t4⟩ := hf 4 _ _ rfl
 obtain ⟨y5, t5⟩ := hf 5 _ _ rfl
 rw [cells_int20] at t0 t1 t2
 rw [cells_u6420] at t3
 rw [cells_obj20] at t4
 rw [cells_bool20] at t5
 obtain ⟨k0, e0, _, _⟩ := DataW.trod_int Tryz.underlying3 t0
 obtain ⟨k1, e1, _, _⟩ := DataW.trod_int Tryz.underlying3 t1
 obtain ⟨k2, e2, _, _⟩ := DataW.trod_int Tryz.underlying3 t2
 obtain ⟨k3, e3, _, hw⟩ := DataW.trod_int Tryz.underlying23 t3
 obtain ⟨v, bs, e4, h1, h2, h3, h4⟩ := open_obj20 (show DataW.trod enc Tryz.prog W 0 (fun _ => true) held n 26 [c4, c5, c6, c7, c8] = some y4 from t4)
 obtain ⟨k5, e5, _⟩ := DataW.trod_bool Tryz.underlying4 t5
 injection (show [c0] = _ from e0) with e0 _
 injection (show [c1] = _ from e1) with e1 _
 injection (show [c2] = _ from e2) with e2 _
 injection (show [c3] = _ from e3) with e3 _
 injection (show [c9] = _ from e5) with e5 _
 simp [Lit.wf, IntKind.min, IntKind.max, IntKind.signed, IntKind.bits] at hw
 refine ⟨⟨k0, k1, k2, k3, v, bs, k5⟩, ?_, ⟨h1, h2, h3, h4⟩, by dsimp only; omega, by dsimp only; omega⟩
 rw [e0, e1, e2, e3, e5]
 exact congrArg (fun l => [Value.int .i64 k0, .int .i64 k1, .int .i64 k2, .int .u64 k3] ++ l ++ [.bool k5]) e4

theorem open_acts20 {fuel : Nat} {v : Value} {x : DataW H × List MemPlace} (h : DataW.trod enc Tryz.prog W 0 (fun _ => true) held fuel 22 [v] = some x) :
  ∃ (A : Option Addr) (n c : Nat) (l : List Act20), v = .slice A n c ∧ RActs20 W A n l ∧ n ≤ c ∧ c ≤ maxLen := by
 rcases open_slice Tryz.underlying22 h with ⟨e0, _⟩ | ⟨a, len, cap, m, n, D, Pl, e0, hb, hl, hm, hmm, _, hx⟩
 ·injection e0 with e0 _
  exact ⟨none, 0, 0, [], e0, ⟨rfl, by simp, fun h => absurd h (by omega)⟩, Nat.le_refl _, by unfold maxLen; omega⟩
 injection e0 with e0 _
 subst e0
 have each : ∀ i, i < len → ∃ x : Act20, ActOk W x ∧ ∀ j, j < 10 → W.cell? (a.add (i * 10 + j)) = some ([Value.int .i64 x.kind, .int .i64 x.n, .int .i64 x.torn, .int .u64 x.scat, .int .i64 x.o.kind, .string x.o.space, .string x.o.name, .int .i64 x.o.ver, .slice x.o.A x.o.n x.o.c, .bool x.now].getD j undef) := by
  intro i hi
  obtain ⟨cs, h2, h3⟩ := hx i (by rw [hmm]; split <;> omega)
  rw [cells_act20] at h2
  obtain ⟨_, hlen, hcell⟩ := World.cells?_some h2
  obtain ⟨x, e, hok, _, _⟩ := open_actL h3
  refine ⟨x, hok, fun j hj => ?_⟩
  have := hcell j hj
  rw [add_add] at this
  rw [this, ← e, List.getD_eq_getElem?_getD, List.getElem?_eq_getElem (by omega)]
  rfl
 obtain ⟨f, hf⟩ := choose_lt each
 refine ⟨some a, len, cap, (List.range len).map f, rfl, ⟨by simp, fun y hy => ?_, fun h0 => ?_⟩, hl, hm⟩
 ·obtain ⟨k, hk, rfl⟩ := List.mem_map.1 hy
  exact (hf k (List.mem_range.1 hk)).1
 ·obtain ⟨b, o, rfl⟩ := addr_form (by have := (hf 0 h0).2 0 (by decide); simpa using this)
  refine ⟨b, o, rfl, fun k hk => ?_⟩
  have e : ((List.range len).map f).getD k default = f k := by simp [hk]
  rw [e]
  have g : ∀ j, j < 10 → W.cell? ⟨b, o + k * 10 + j, none⟩ = some ([Value.int .i64 (f k).kind, .int .i64 (f k).n, .int .i64 (f k).torn, .int .u64 (f k).scat, .int .i64 (f k).o.kind, .string (f k).o.space, .string (f k).o.name, .int .i64 (f k).o.ver, .slice (f k).o.A (f k).o.n (f k).o.c, .bool (f k).now].getD j undef) := fun j hj => by
   have := (hf k hk).2 j hj
   rw [addr_add, ← Nat.add_assoc] at this
   exact this
  exact ⟨g 0 (by decide), g 1 (by decide), g 2 (by decide), g 3 (by decide), g 4 (by decide), g 5 (by decide), g 6 (by decide), g 7 (by decide), g 8 (by decide), g 9 (by decide)⟩
end
end Go.Proofs.YtfmagnpmjlppiaaGreatDoor
