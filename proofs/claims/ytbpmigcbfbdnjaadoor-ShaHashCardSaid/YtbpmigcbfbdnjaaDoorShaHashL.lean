/- ShaHash: its walk. -/
import Derived.Test.YtbpmigcbfbdnjaaDoorShaSumC
import Derived.Deep.SlicePairs
namespace Go.Proofs.YtbpmigcbfbdnjaaDoor
open Go.RowKit Go.ChangeShapes Go.WideShapes Go.ChangeAt Go.Deep

theorem HashAt.mono {w : World} {B B' g : Nat} {ro : Option Nat} {s : W8} {rest : List UInt8} {n : Nat} (h : HashAt w B g ro s rest n) (hb : B' ≤ B) : HashAt w B' g ro s rest n := by
  obtain ⟨h1, rv, h2, h3, h4⟩ := h
  exact ⟨Nat.le_trans hb h1, rv, h2, h3.mono hb, h4⟩
theorem HashIs.mono {w : World} {B B' g : Nat} {ro : Option Nat} {K : Nat → UInt32} {s0 : W8} {all : List UInt8} (h : HashIs w B g ro K s0 all) (hb : B' ≤ B) : HashIs w B' g ro K s0 all := HashAt.mono h hb

/-- A slice of steps reads so. -/
def RSt (w : World) (A : Option Addr) (n : Nat) (ss : List (Bool × List UInt8)) : Prop :=
  ss.length = n ∧ (0 < n → ∃ b o, A = some ⟨b, o, none⟩ ∧ ∀ k, k < n → w.cell? ⟨b, o + k * 2, none⟩ = some (.bool (ss.getD k (false, [])).1) ∧
    ∃ v, w.cell? ⟨b, o + k * 2 + 1, none⟩ = some v ∧ SB w v (ss.getD k (false, [])).2)
def allK (ss : List (Bool × List UInt8)) : Nat → List UInt8
  | 0 => []
  | k + 1 => if (ss.getD k (false, [])).1 then allK ss k else allK ss k ++ (ss.getD k (false, [])).2

/-- The state of the hash and of all bytes so far. -/
structure HSt (w : World) (B g : Nat) (ro : Option Nat) (v4 : Value) (all : List UInt8) : Prop where
  h : HashIs w B g ro kfun htab all
  o : OB w B v4 all
  ng : v4.ownBlock ≠ some g
  nr : ∀ q, ro = some q → v4.ownBlock ≠ some q
theorem HSt.below {w w' : World} {B g : Nat} {ro : Option Nat} {v4 : Value} {all : List UInt8} (h : HSt w B g ro v4 all) (hb : Below w.heap.size w w') : HSt w' B g ro v4 all :=
  ⟨h.h.below hb, h.o.below hb, h.ng, h.nr⟩

theorem HSt.kept {w w' : World} {B g : Nat} {ro : Option Nat} {v4 : Value} {all : List UInt8} (h : HSt w B g ro v4 all) {S : Nat → Prop} (hf : Fr S w w') (hg : ¬ S g) (hr : ∀ q, ro = some q → ¬ S q) (ho : ∀ q, v4.ownBlock = some q → ¬ S q) : HSt w' B g ro v4 all :=
  ⟨HashAt.kept h.h hf hg hr, h.o.kept hf ho, h.ng, h.nr⟩
theorem OB.setB {w : World} {B g o n cap k : Nat} {l : List UInt8} (x : UInt8) (h : OB w B (.slice (some ⟨g, o, none⟩) n cap) l) (hn : l.length = n) (_hk : k < n) :
    w.frozen? ⟨g, o + k, none⟩ = false ∧ OB (w.setCell ⟨g, o + k, none⟩ (.int .u8 (x.toNat : Int))) B (.slice (some ⟨g, o, none⟩) n cap) (l.set k x) := by
  obtain ⟨h1, h2⟩ := h
  rcases h2 with ⟨h2, _⟩ | ⟨g', o', cap', cur, h2, h3, h4, h5, h6, h7, h8⟩
  · cases h2
  · injection h2 with e1 e2 e3
    injection e1 with e1
    injection e1 with e4 e5
    subst e4; subst e5; subst e3
    refine ⟨frozen_of_row _ _ _ _ _ h4, ?_, .inr ⟨_, _, _, _, by rw [List.length_set, hn], h3, heap_setCell_same _ _ _ _ _ _ h4, by rw [List.length_set]; exact h5, h6, by simpa using h7, ?_⟩⟩
    · rw [bcells_length, Nat.mul_one]
    · rw [List.length_set, Array.toList_setIfInBounds, List.drop_set, if_neg (by omega), List.take_set, h8]
      simp [bcells, List.map_set]

theorem neq_bytes (w : World) (dg : List UInt8) (h : dg.length = 32) : (binOp .neq 44 (.agg (bcells dg).toArray) (.agg (bcells dg).toArray)).run Tryd.prog w = .ok (.bool false) w := by
  rw [run_neq_struct]
  have h1 := run_equalIn_bytes (P := Tryd.prog) w 9998 44 5 32 Tryd.underlying44 Tryd.underlying5 (fun _ => by kernel_rfl) dg dg h h
  rw [beq_self_eq_true] at h1
  have e : (Op.equalIn 10000 44 (.agg (bcells dg).toArray) (.agg (bcells dg).toArray)).run Tryd.prog w = .ok true w := h1
  rw [e]
  rfl

set_option linter.unusedSimpArgs false in
set_option maxHeartbeats 4000000 in
set_option maxRecDepth 100000 in
theorem ShaHash_any (A : Option Addr) (n c : Nat) (ss : List (Bool × List UInt8)) (w : World) (hl : RSt w A n ss) (hn : n ≤ maxLen) (ht : ShaTabs w) :
    Calls Tryd.prog 6 #[.slice A n c] w fun e w' => e = .returned (.bool true) ∧ Below w.heap.size w w' := by
  have Hl := Lib.hid hl
  have Hlen := Lib.hid hl.1
  have Ht := Lib.hid ht
  clear hl ht
  by_cases hbig : 30 < n
  · have k1 : decide (30 < (n : Int)) = true := decide_eq_true (by omega)
    go_enter Tryd.func6, Tryd.ntmps6
    go_wp2_with (first
      | (go_at_call 17; refine (alive01_any w Ht.out).mono ?_; rintro e w1 ⟨rfl, hb1⟩)
      | fail)
    go_ret
    exact ⟨rfl, hb1⟩
  have k1 : decide (30 < (n : Int)) = false := decide_eq_false (by omega)
  go_enter Tryd.func6, Tryd.ntmps6
  go_wp2_with (first
    | (go_at_call 17; refine (alive01_any w Ht.out).mono ?_; rintro e w1 ⟨rfl, hb1⟩; have Hb1 := Lib.hid hb1; clear hb1)
    | (go_at_call 21; refine (New_any w1 htab kfun (Ht.out.f.keep (Keeps.of_below Hb1.out))).mono ?_; rintro e w2 ⟨rfl, hh2, hb2⟩; have Hh2 := Lib.hid hh2; have Hb2 := Lib.hid hb2; clear hh2 hb2)
    | fail)
  have hst : HSt (w2.alloc (.cells #[] 5)) w1.heap.size w1.heap.size none (.slice (some ⟨w2.heap.size, 0, none⟩) 0 0) [] := by
    have hlt := HashAt.lt Hh2.out
    refine ⟨Hh2.out.below ((Below.refl _ w2).alloc (Nat.le_refl _) _), OB.lit w2 w1.heap.size Hb2.out.size [] 0 rfl (by decide), ?_, fun q hq => by cases hq⟩
    simp [Value.ownBlock]; omega
  have Hst := Lib.hid hst
  clear hst
  go_loopg [3, 4, 21] n (fun k s3 s4 s21 wr => ∃ (g : Nat) (ro : Option Nat) (v4 : Value) (i : Nat), s3 = .pointer (some ⟨g, 0, none⟩) ∧ s4 = v4 ∧ s21 = .int .i64 (i : Int) ∧ i + k = n ∧ HSt wr w1.heap.size g ro v4 (allK ss i) ∧ Below w1.heap.size w1 wr ∧ (allK ss i).length ≤ 200 * i)
  case atStart => exact ⟨_, none, _, 0, rfl, rfl, rfl, by omega, Hst.out, Hb2.out.alloc Hb2.out.size _, by simp [allK]⟩
  case round =>
    obtain ⟨g, ro, v4, i, rfl, rfl, rfl, hik, hst, hbel, hle⟩ := hrel
    have HS := Lib.hid hst
    have Hbel := Lib.hid hbel
    have Hbw := Lib.hid (Hb1.out.trans (hbel.mono Hb1.out.size))
    clear hst hbel
    by_cases hi : i < n
    · obtain ⟨b, o, hA, hc⟩ := Hl.out.2 (by omega)
      subst hA
      obtain ⟨hc0, v, hc1, A', c', hv, hcc1, hcc2, hrb⟩ := hc i hi
      subst hv
      have c0 := Keeps.of_below Hbw.out _ _ hc0
      have c1 := Keeps.of_below Hbw.out _ _ hc1
      have Hrb := Lib.hid (hrb.keep (Keeps.of_below Hbw.out))
      have Hrb0 := Lib.hid hrb
      have HA := Lib.hid (show allK ss (i + 1) = if (ss.getD i (false, [])).1 then allK ss i else allK ss i ++ (ss.getD i (false, [])).2 from rfl)
      clear hc hc0 hc1 hrb
      generalize (ss.getD i (false, [])).1 = f at *
      generalize (ss.getD i (false, [])).2 = p at *
      generalize hall1 : allK ss (i + 1) = all1 at *
      have Hall1 := Lib.hid hall1
      clear hall1
      generalize allK ss i = all0 at *
      have i0 : (0 : Int) ≤ (i : Int) := by omega
      have i1 : (i : Int) < (n : Int) := by omega
      by_cases hp : 200 < p.length
      · have kp : decide (200 < (p.length : Int)) = true := decide_eq_true (by omega)
        go_wp2_with fail
        go_ret
        exact ⟨rfl, Hbw.out.alloc Hbw.out.size _⟩
      have kp : decide (200 < (p.length : Int)) = false := decide_eq_false (by omega)
      have hall6 : all0.length ≤ 6000 := by omega
      cases f with
      | true =>
        rw [if_pos rfl] at HA
        have hrl := (blocks_rest kfun all0.length htab all0 (Nat.le_refl _)).1
        have HS0 := Lib.hid (fun o => HS.out.below ((Below.refl _ wr).alloc (Nat.le_refl _) o))
        have Hrl := Lib.hid hrl
        clear hrl
        go_wp2_with fail
        refine (Copy_any g w1.heap.size all0.length ro _ _ _ (HS0.out _).h (by have := Hrl.out; omega)).mono ?_
        rintro e w3 ⟨g3, ro3, rfl, hh3, hb3⟩
        have Hh3 := Lib.hid hh3
        have Hs3 := Lib.hid ((HS0.out _).below hb3)
        have hsz3 : wr.heap.size + 1 ≤ w3.heap.size := by have := hb3.size; simpa using this
        have Hlow := Lib.hid (show wr.heap.size + 1 ≤ g3 by have := hh3.low; simpa using this)
        have Hrlow := Lib.hid (show ∀ q, ro3 = some q → wr.heap.size + 1 ≤ q from fun q hq => by have := (hh3.rlt q hq).1; simpa using this)
        have Hb3 := Lib.hid ((Hbel.out.alloc Hbel.out.size _).trans (hb3.mono (by have := Hbel.out.size; simp; omega)))
        clear hh3 hb3
        have kc := fun (w : World) (C : Array Value) (n c : Nat) => Lib.run_convert_bytes_const (P := Tryd.prog) w 27 5 C n c Tryd.underlying27 Tryd.underlying5
        go_wp2_with fail
        have Hs4 := Lib.hid (fun o => Hs3.out.below ((Below.refl _ w3).alloc (Nat.le_refl _) o))
        have hrb4 : RB (w3.alloc (.cells #[.int .u8 111, .int .u8 116, .int .u8 104, .int .u8 101, .int .u8 114] 5 (5, 6))) (some ⟨w3.heap.size, 0, none⟩) 5 [111, 116, 104, 101, 114] := by
          have h := SB.cells (l := [111, 116, 104, 101, 114]) (n := 5) (c := 5) (heap_alloc_new w3 (.cells #[.int .u8 111, .int .u8 116, .int .u8 104, .int .u8 101, .int .u8 114] 5 (5, 6))) rfl (by omega) (by unfold maxLen; omega)
          obtain ⟨A9, c9, e9, _, _, h9⟩ := h
          injection e9 with e1 _ _
          subst e1
          exact h9
        have hkw : Keeps w (w3.alloc (.cells #[.int .u8 111, .int .u8 116, .int .u8 104, .int .u8 101, .int .u8 114] 5 (5, 6))) := (Keeps.of_below (Hb1.out.trans (Hb3.out.mono Hb1.out.size))).trans (Keeps.of_below ((Below.refl _ w3).alloc (Nat.le_refl _) _))
        refine (Write_is g 5 5 w1.heap.size _ ro kfun htab all0 [111, 116, 104, 101, 114] _ (Hs4.out _).h hrb4 (Ht.out.k.keep hkw) (by have := Ht.out.lt; have := Hb1.out.size; omega) (by simp; omega)).mono ?_
        rintro e w4 ⟨rfl, hfr4, _, _, _⟩
        have hg0 := HashAt.lt HS.out.h
        have hr0 := HashAt.rlt HS.out.h
        have hnS : ∀ q, wr.heap.size + 1 ≤ q → ¬ (q = g ∨ some q = ro) := fun q hq h => by
          rcases h with h | h
          · omega
          · have := (hr0 q h.symm).2; omega
        have hst4 : HSt w4 w1.heap.size g3 ro3 u4 all0 := by
          have h3 : HashIs w3 w1.heap.size g3 ro3 kfun htab all0 := HashAt.mono Hh3.out (by have := Hbel.out.size; simp; omega)
          refine ⟨HashAt.kept (h3.below ((Below.refl _ w3).alloc (Nat.le_refl _) _)) hfr4 (hnS g3 Hlow.out) (fun q hq => hnS q (Hrlow.out q hq)), (Hs4.out _).o.kept hfr4 (fun q hq h => ?_), fun e => ?_, fun q hq e => ?_⟩
          · rcases h with h | h
            · exact HS.out.ng (h ▸ hq)
            · exact HS.out.nr q h.symm hq
          · have := (HS.out.o.lt g3 e).2; have := Hlow.out; omega
          · have := (HS.out.o.lt q e).2; have := Hrlow.out q hq; omega
        have hb4 : Below w1.heap.size w1 w4 := (Hb3.out.alloc Hb3.out.size _).trans (hfr4.below (by have := Hb3.out.size; simp; omega) (fun q _ h => by
          rcases h with h | h
          · have := HashAt.lt HS.out.h; have := HS.out.h.low; omega
          · exact (hr0 q h.symm).1))
        have HS4 := Lib.hid hst4
        have Hb4 := Lib.hid hb4
        clear hst4 hb4 hfr4 hrb4 hkw
        go_wp2_with fail
        obtain ⟨A4, cap4, hv4, _, _, hrb4⟩ := HS4.out.o.form
        have Hrb4 := Lib.hid hrb4
        clear hrb4
        have hkw4 := (Keeps.of_below (Hb1.out.trans (Hb4.out.mono Hb1.out.size)))
        have hlt4 := ShaTabs.lt (Ht.out.keep hkw4)
        refine (HashSum_is g3 _ ro3 kfun htab all0 w4 HS4.out.h (Ht.out.k.keep hkw4) hlt4 (by omega)).mono ?_
        rintro e w9 ⟨rfl, hb9⟩
        have Hs9 := Lib.hid (HS4.out.below hb9)
        have Hb9 := Lib.hid (Hb4.out.trans (hb9.mono Hb4.out.size))
        have Hk9 := Lib.hid (Keeps.of_below hb9)
        clear hb9 hkw4 hlt4
        generalize hm : all0.length = m at *
        have Hm := Lib.hid hm
        have hm6 : m ≤ 6000 := by omega
        clear hm
        subst hv4
        have Hd32 := Lib.hid (shaB_length kfun htab all0)
        generalize hdg : shaB kfun htab all0 = dg at *
        have HDg := Lib.hid hdg
        clear hdg
        go_wp2_with fail
        refine (RefSum_any A4 m cap4 all0 w9 (Hrb4.out.keep Hk9.out) (by omega)).mono ?_
        rintro e w10 ⟨rfl, hb10⟩
        rw [HDg.out]
        have Hs10 := Lib.hid (Hs9.out.below hb10)
        have Hb10 := Lib.hid (Hb9.out.trans (hb10.mono Hb9.out.size))
        clear hb10
        have hneq : ∀ W, (binOp .neq 44 (.agg (bcells dg).toArray) (.agg (bcells dg).toArray)).run Tryd.prog W = .ok (.bool false) W := fun W => neq_bytes W dg Hd32.out
        have hmm : ((m : Int) != (m : Int)) = false := by simp
        go_wp2_with (first
          | (go_at_call 26; refine (Len_any g3 _ all0.length ro3 _ _ _ Hs10.out.h).mono ?_; rintro e w' ⟨rfl, rfl⟩; rw [Hm.out])
          | fail)
        go_roundg (gk - 1)
        case measure => omega
        case rel => exact ⟨g3, ro3, _, i + 1, rfl, rfl, by go_num, by omega, by rw [Hall1.out, HA.out]; exact Hs10.out, Hb10.out, by rw [Hall1.out, HA.out, Hm.out]; omega⟩
      | false =>
        rw [if_neg (by decide)] at HA
        have hg0 := HashAt.lt HS.out.h
        have hr0 := HashAt.rlt HS.out.h
        have hglow := HS.out.h.low
        have Hr0 := Lib.hid hr0
        have HS0 := Lib.hid (fun o => HS.out.below ((Below.refl _ wr).alloc (Nat.le_refl _) o))
        have hbase := Hbel.out.size
        have Hlit : Hid (∀ o, OB ((wr.alloc o).alloc (.cells #[] 5)) (wr.heap.size + 1) (.slice (some ⟨wr.heap.size + 1, 0, none⟩) 0 0) []) := fun o => by
          have := OB.lit (wr.alloc o) (wr.heap.size + 1) (by simp) [] 0 rfl (by decide)
          rwa [show (wr.alloc o).heap.size = wr.heap.size + 1 by simp] at this
        have Hbo : Hid (∀ o, Below w1.heap.size w1 ((wr.alloc o).alloc (.cells #[] 5))) := fun o => ((Hbel.out.alloc hbase o).alloc (by simp; omega) _)
        clear hr0
        have hlt : ∀ q, (q = g ∨ ro = some q ∨ u4.ownBlock = some q) → q < wr.heap.size := fun q h => by
          rcases h with h | h | h
          · omega
          · exact (Hr0.out q h).2
          · exact (HS.out.o.lt q h).2
        have Hlt := Lib.hid hlt
        clear hlt
        go_wp2_with (first
          | (at_builtin; refine wpList_append_b rfl (.tmp 38) (.tmp 40) 27 rfl (Hlit.out _) rfl (RB.src Tryd.underlying27 (Hrb0.out.keep (Keeps.of_below (Hb1.out.trans ((Hbo.out _).mono Hb1.out.size))))) rfl (by simp; omega) (by simp) ?_; intro v5 w5 hown5 hgr5 hat5)
          | fail)
        rw [List.nil_append] at hown5
        have Hs5 := Lib.hid (show wr.heap.size + 2 ≤ w5.heap.size by have := hgr5.size; simpa using this)
        have Hb5 := Lib.hid (below_append (B := w1.heap.size) (Hbo.out _) hgr5 (Hlit.out _) (by omega) (by simp; omega))
        have Hn5 := Lib.hid (((HS0.out _).below ((Below.refl _ _).alloc (Nat.le_refl _) _)).kept (Fr.of_grown hgr5) (by simp [Value.ownBlock]; omega) (fun q hq => by have := Hlt.out q (.inr (.inl hq)); simp [Value.ownBlock]; omega) (fun q hq => by have := Hlt.out q (.inr (.inr hq)); simp [Value.ownBlock]; omega))
        have hv5 := hown5.lt
        have Hown5 := Lib.hid hown5
        have Hv5 := Lib.hid hv5
        have hcell5 : w5.cell? ⟨wr.heap.size, 1, none⟩ = some (.slice A' p.length c') := by
          refine grown_cell hgr5 (Keeps.of_below ((Below.refl _ _).alloc (Nat.le_refl _) _) _ _ ?_) (by simp [Value.ownBlock])
          rw [cell_of_row _ _ _ _ _ _ (heap_alloc_new wr _)]
          rfl
        have Hcell5 := Lib.hid hcell5
        clear hown5 hgr5 hat5 hv5 hcell5
        obtain ⟨A5, cap5, e5, hc5, hm5, hr5⟩ := Hown5.out.form
        subst e5
        have Hr5 := Lib.hid hr5
        clear hr5
        refine (Write_is g p.length cap5 w1.heap.size A5 ro kfun htab all0 p w5 Hn5.out.h Hr5.out (Ht.out.k.keep (Keeps.of_below (Hb1.out.trans (Hb5.out.mono Hb1.out.size)))) (by have := Ht.out.lt; have := Hb1.out.size; omega) (by omega)).mono ?_
        rintro e w6 ⟨rfl, hfr6, ro6, hh6, hro6⟩
        have hro6' : ∀ q, ro6 = some q → (ro = some q ∨ w5.heap.size ≤ q) := fun q hq => by
          rcases hro6 with h | ⟨k, h, hk⟩
          · exact .inl (h ▸ hq)
          · rw [hq] at h; injection h with h; exact .inr (by omega)
        have hsz6 := hfr6.size
        have hv4 : OB w6 w1.heap.size u4 all0 := Hn5.out.o.kept hfr6 (fun q hq h => by
          rcases h with h | h
          · exact HS.out.ng (h ▸ hq)
          · exact HS.out.nr q h.symm hq)
        have c6 : w6.cell? ⟨wr.heap.size, 1, none⟩ = some (.slice A' p.length c') := by
          refine (hfr6.cell (p := ⟨wr.heap.size, 1, none⟩) (by have := Hs5.out; simp; omega) (fun h => ?_)).trans Hcell5.out
          rcases h with h | h
          · simp at h; omega
          · have := (Hr0.out _ h.symm).2; simp at this
        have hb6 : Below w1.heap.size w1 w6 := Hb5.out.trans (hfr6.below Hb5.out.size (fun q _ h => by
          rcases h with h | h
          · omega
          · exact (Hr0.out q h.symm).1))
        have hkeep8 : ∀ k, k < p.length → ∃ g8 o8, A5 = some ⟨g8, o8, none⟩ ∧ wr.heap.size + 1 ≤ g8 ∧ g8 < w5.heap.size := fun k hk => by
          obtain ⟨g8, o8, e8, _⟩ := Hr5.out.2 (by omega)
          subst e8
          have h := Hv5.out g8 rfl
          exact ⟨g8, o8, rfl, h.1, h.2⟩
        have hrow6 : OB w6 (wr.heap.size + 1) (.slice A5 p.length cap5) p := Hown5.out.kept hfr6 (fun q hq h => by
          have h5 := (Hv5.out q hq).1
          rcases h with h | h
          · omega
          · have := (Hr0.out q h.symm).2; omega)
        have Hh6 := Lib.hid hh6
        have Hro6 := Lib.hid hro6'
        have Hv4 := Lib.hid hv4
        have Hb6 := Lib.hid hb6
        have Hrow6 := Lib.hid hrow6
        have Hsz6 := Lib.hid hsz6
        clear hfr6 hh6 hro6 hro6' hsz6 hv4 hb6 hrow6 hkeep8
        go_wp2_with (first
          | (at_builtin; refine wpList_append_b rfl (.tmp 45) (.tmp 47) 27 rfl Hv4.out rfl (RB.src Tryd.underlying27 (Hrb0.out.keep (Keeps.of_below (Hb1.out.trans (Hb6.out.mono Hb1.out.size))))) rfl (by omega) Hb6.out.size ?_; intro v7 w7 hown7 hgr7 hat7)
          | fail)
        rw [← HA.out] at hown7
        have hhs7 : HSt w7 w1.heap.size g ro6 v7 all1 := by
          rw [HA.out] at hown7 ⊢
          have hu := Hv4.out.lt
          refine ⟨HashAt.kept Hh6.out (Fr.of_grown hgr7) (fun e => HS.out.ng e.symm) (fun q hq e => ?_), hown7, fun e => ?_, fun q hq e => ?_⟩
          · rcases Hro6.out q hq with h | h
            · exact HS.out.nr q h e.symm
            · have := (HS.out.o.lt q e.symm).2; have := Hs5.out; omega
          · rcases hat7 with h | h
            · exact HS.out.ng (h ▸ e)
            · rw [h] at e; injection e with e; have := Hsz6.out; have := Hs5.out; omega
          · rcases hat7 with h | h
            · rw [h] at e
              rcases Hro6.out q hq with h' | h'
              · exact HS.out.nr q h' e
              · have := (HS.out.o.lt q e).2; have := Hs5.out; omega
            · rw [h] at e; injection e with e; have := (HashAt.rlt Hh6.out q hq).2; omega
        have hb7 := below_append Hb6.out hgr7 Hv4.out (Nat.le_refl _) Hb6.out.size
        have hrow7 : OB w7 (wr.heap.size + 1) (.slice A5 p.length cap5) p := Hrow6.out.keepB (fun q hq => hgr7.block q (Hrow6.out.lt q hq).2 (fun e => by have := (HS.out.o.lt q e.symm).2; have := (Hv5.out q hq).1; omega))
        have hne7 : ∀ q, (Value.slice A5 p.length cap5).ownBlock = some q → q ≠ g ∧ ro6 ≠ some q ∧ v7.ownBlock ≠ some q ∧ w1.heap.size ≤ q := fun q hq => by
          have h5 := Hv5.out q hq
          refine ⟨by omega, fun e => ?_, fun e => ?_, by omega⟩
          · rcases Hro6.out q e with h | h
            · have := (Hr0.out q h).2; omega
            · omega
          · rcases hat7 with h | h
            · rw [h] at e; have := (HS.out.o.lt q e).2; omega
            · rw [h] at e; injection e with e; have := Hsz6.out; omega
        have Hhs7 := Lib.hid hhs7
        have Hb7 := Lib.hid hb7
        have Hrow7 := Lib.hid hrow7
        have Hne7 := Lib.hid hne7
        clear hhs7 hb7 hrow7 hne7 hown7 hgr7 hat7 c6
        have hl1 : all1.length ≤ 6200 ∧ all1.length ≤ 200 * (i + 1) := by rw [HA.out, List.length_append]; omega
        clear Hn5 Hown5 Hcell5 Hr5 Hh6 Hv4 Hrow6 Hlit Hbo HS0
        go_wp2_with fail
        go_loopg [51] p.length (fun k s51 wq => ∃ (j : Nat) (l : List UInt8), s51 = .int .i64 (j : Int) ∧ j + k = p.length ∧ l.length = p.length ∧ OB wq (wr.heap.size + 1) (.slice A5 p.length cap5) l ∧ Fr (fun q => (Value.slice A5 p.length cap5).ownBlock = some q) w7 wq)
        case atStart => exact ⟨0, p, rfl, by omega, rfl, Hrow7.out, Fr.refl _ _⟩
        case round =>
          rename World => wq
          obtain ⟨j, l, rfl, hjk, hll, hob, hfr⟩ := hrel
          have Hob := Lib.hid hob
          have Hfr := Lib.hid hfr
          have Hll := Lib.hid hll
          clear hob hfr hll
          by_cases hj : j < p.length
          · obtain ⟨g8, o8, cap8, e8, _, _, hcc⟩ := OwnS.cells Hob.out (by rw [bcells_length, Hll.out]; omega)
            rw [Hll.out] at e8
            injection e8 with e8 e9 e10
            subst e8
            subst e10
            clear e9
            have c8 := hcc j _ (bcells_get (by rw [Hll.out]; exact hj))
            have f8 := (Hob.out.setB (k := j) (l.getD j 0 ^^^ 255) Hll.out hj).1
            have H8 := Lib.hid (Hob.out.setB (k := j) (l.getD j 0 ^^^ 255) Hll.out hj).2
            clear hcc
            generalize l.getD j 0 = x at *
            have j0 : (0 : Int) ≤ (j : Int) := by omega
            have j1 : (j : Int) < (p.length : Int) := by omega
            go_wp2
            rw [show bits .xor .u8 (x.toNat : Int) 255 = ((x ^^^ 255).toNat : Int) by rw [show (255 : Int) = ((255 : UInt8).toNat : Int) by decide, b_xor]]
            go_roundg (p.length - (j + 1))
            case measure => omega
            case rel => exact ⟨j + 1, _, by go_num, by omega, by rw [List.length_set]; exact Hll.out, H8.out, Hfr.out.setCell (p := ⟨g8, o8 + j, none⟩) (fun _ => rfl) _⟩
          · obtain rfl : j = p.length := by omega
            have HSq := Lib.hid (Hhs7.out.kept Hfr.out (fun h => (Hne7.out g h).1 rfl) (fun q hq h => (Hne7.out q h).2.1 hq) (fun q hq h => (Hne7.out q h).2.2.1 hq))
            have Hbq := Lib.hid (Hb7.out.trans (Hfr.out.below (B := w1.heap.size) Hb7.out.size (fun q _ h => (Hne7.out q h).2.2.2)))
            go_wp2_with fail
            obtain ⟨A4, cap4, hv4, _, _, hrb4⟩ := HSq.out.o.form
            have Hrb4 := Lib.hid hrb4
            clear hrb4
            have hkw4 := (Keeps.of_below (Hb1.out.trans (Hbq.out.mono Hb1.out.size)))
            have hlt4 := ShaTabs.lt (Ht.out.keep hkw4)
            refine (HashSum_is g _ ro6 kfun htab all1 wq HSq.out.h (Ht.out.k.keep hkw4) hlt4 (by omega)).mono ?_
            rintro e w9 ⟨rfl, hb9⟩
            have Hs9 := Lib.hid (HSq.out.below hb9)
            have Hb9 := Lib.hid (Hbq.out.trans (hb9.mono Hbq.out.size))
            have Hk9 := Lib.hid (Keeps.of_below hb9)
            clear hb9 hkw4 hlt4
            generalize hm : all1.length = m at *
            have Hm := Lib.hid hm
            have hm6 : m ≤ 6000 := by omega
            clear hm
            subst hv4
            have Hd32 := Lib.hid (shaB_length kfun htab all1)
            generalize hdg : shaB kfun htab all1 = dg at *
            have HDg := Lib.hid hdg
            clear hdg
            go_wp2_with fail
            refine (RefSum_any A4 m cap4 all1 w9 (Hrb4.out.keep Hk9.out) (by omega)).mono ?_
            rintro e w10 ⟨rfl, hb10⟩
            rw [HDg.out]
            have Hs10 := Lib.hid (Hs9.out.below hb10)
            have Hb10 := Lib.hid (Hb9.out.trans (hb10.mono Hb9.out.size))
            clear hb10
            have hneq : ∀ W, (binOp .neq 44 (.agg (bcells dg).toArray) (.agg (bcells dg).toArray)).run Tryd.prog W = .ok (.bool false) W := fun W => neq_bytes W dg Hd32.out
            have hmm : ((m : Int) != (m : Int)) = false := by simp
            go_wp2_with (first
              | (go_at_call 26; refine (Len_any g _ all1.length ro6 _ _ _ Hs10.out.h).mono ?_; rintro e w' ⟨rfl, rfl⟩; rw [Hm.out])
              | fail)
            go_roundg (n - (i + 1))
            case measure => omega
            case rel => exact ⟨g, ro6, _, i + 1, rfl, rfl, by go_num, by omega, by rw [Hall1.out]; exact Hs10.out, Hb10.out, by rw [Hall1.out, Hm.out]; omega⟩
    · obtain rfl : i = n := by omega
      have hall6 : (allK ss i).length ≤ 6000 := by omega
      obtain ⟨A4, cap4, hv4, hc4, hm4, hrb4⟩ := HS.out.o.form
      have Hrb4 := Lib.hid hrb4
      clear hrb4
      generalize allK ss i = all0 at *
      have hkw := Keeps.of_below Hbw.out
      have hlt4 := ShaTabs.lt (Ht.out.keep hkw)
      generalize hm : all0.length = m at *
      have Hm := Lib.hid hm
      clear hm
      subst hv4
      have Hd32 := Lib.hid (shaB_length kfun htab all0)
      go_wp2_with fail
      refine (HashSum_is g _ ro kfun htab all0 wr HS.out.h (Ht.out.k.keep hkw) hlt4 (by have := Hm.out; omega)).mono ?_
      rintro e w9 ⟨rfl, hb9⟩
      have Hb9 := Lib.hid (Hbw.out.trans (hb9.mono Hbw.out.size))
      have Hk9 := Lib.hid (Keeps.of_below hb9)
      clear hb9 hkw hlt4
      generalize hdg : shaB kfun htab all0 = dg at *
      have HDg := Lib.hid hdg
      clear hdg
      go_wp2_with fail
      have hka : Keeps w9 (w9.alloc (.cells #[.slice A4 m cap4] 27)) := Keeps.of_below ((Below.refl _ w9).alloc (Nat.le_refl _) _)
      have hrbl1 : RBL (w9.alloc (.cells #[.slice A4 m cap4] 27)) (some ⟨w9.heap.size, 0, none⟩) 1 [all0] := RBL.lits (vs := [.slice A4 m cap4]) (heap_alloc_new w9 _) rfl (fun k hk => by
        obtain rfl : k = 0 := by omega
        exact ⟨_, rfl, SB.of_rb (Hrb4.out.keep (Hk9.out.trans hka)) hc4 hm4⟩)
      have hkw := (Keeps.of_below Hb9.out).trans hka
      refine (Sum_any _ 1 1 [all0] kfun htab _ hrbl1 (Ht.out.k.keep hkw) (Ht.out.f.keep hkw) (ShaTabs.lt (Ht.out.keep hkw)) (by unfold maxLen; omega) (by have := Hm.out; simp; omega)).mono ?_
      rintro e w10 ⟨rfl, hb10⟩
      rw [show [all0].flatten = all0 by simp, HDg.out]
      have Hb10 := Lib.hid ((Hb9.out.alloc Hb9.out.size _).trans (hb10.mono (by have := Hb9.out.size; simp; omega)))
      clear hb10 hka hrbl1 hkw
      have heq : ∀ W, (binOp .eql 44 (.agg (bcells dg).toArray) (.agg (bcells dg).toArray)).run Tryd.prog W = .ok (.bool true) W := fun W => by
        have h := run_eql_bytes (P := Tryd.prog) W 44 5 32 Tryd.underlying44 Tryd.underlying5 (fun _ => by kernel_rfl) dg dg Hd32.out Hd32.out
        rw [beq_self_eq_true] at h
        exact h
      go_wp2_with fail
      go_ret
      exact ⟨rfl, Hb10.out⟩

set_option maxRecDepth 100000 in
theorem open_steps {H : Type} {enc : TypeId × Value → H} {W : World} {held : Bool} {fuel : Nat} {v : Value} {x : DataW H × List MemPlace} (h : DataW.trod enc Tryd.prog W 0 (fun _ => true) held fuel 38 [v] = some x) :
    ∃ A n c ss, v = .slice A n c ∧ RSt W A n ss ∧ n ≤ c ∧ c ≤ maxLen := by
  rcases Go.Deep.open_slice_pairs Tryd.underlying38 Tryd.underlying42 (by kernel_rfl) rfl rfl (by kernel_rfl) (by kernel_rfl) h with ⟨e, _⟩ | ⟨a, len, cap, m, n, V0, V1, D0, D1, P0, P1, e, _, hl, hm, hmm, _, hx⟩
  · injection e with e _; subst e
    exact ⟨none, 0, 0, [], rfl, ⟨rfl, fun h => absurd h (by omega)⟩, by omega, by unfold maxLen; omega⟩
  · injection e with e _; subst e
    have hx' : ∀ i, i < len → ∃ z : Bool × List UInt8, W.cell? (a.add (i * 2)) = some (.bool z.1) ∧ ∃ u, W.cell? (a.add (i * 2 + 1)) = some u ∧ SB W u z.2 := by
      intro i hi
      obtain ⟨h1, h2, h3, h4⟩ := hx i (by rw [hmm]; simp; omega)
      obtain ⟨z, hz⟩ := open_sb h4
      obtain ⟨b, e1, _⟩ := DataW.trod_bool Tryd.underlying4 h3
      injection e1 with e1 _
      exact ⟨(b, z), by rw [h1, e1], _, h2, hz⟩
    obtain ⟨f, hf⟩ := choose_lt hx'
    refine ⟨some a, len, cap, (List.range len).map f, rfl, ⟨by simp, fun hn => ?_⟩, hl, hm⟩
    obtain ⟨h0, _⟩ := hf 0 hn
    obtain ⟨b, o, rfl⟩ := addr_form (by simpa using h0)
    refine ⟨b, o, rfl, fun k hk => ?_⟩
    obtain ⟨h1, u, h2, h3⟩ := hf k hk
    rw [addr_add] at h1 h2
    exact ⟨by simpa [hk] using h1, u, h2, by simpa [hk] using h3⟩

set_option maxRecDepth 100000 in
theorem shaHash_contract {H : Type} {enc : TypeId × Value → H} {W : World} {base : Nat} {args : Array Value} {ds : List (DataW H)} {p : List MemPlace}
    (hval : ∀ (j : Nat) t v, Tryd.f6.params[j]? = some t → args[j]? = some v → Value.okWide Tryd.prog W .any base t v)
    (hA : DataW.TrodAll enc Tryd.prog W 0 (fun _ => true) true Tryd.f6.params.toList args.toList ds p) (hL : laidMetH Tryd.prog Rows.shaHashRow.laid W) :
    Calls Tryd.prog 6 args W fun e w' => e = .returned (.bool true) ∧ Below W.heap.size W w' := by
  rw [Tryd.params6] at hA hval
  obtain ⟨v0, d0, rfl, rfl, f0, h0⟩ := Go.ChangeShapes.trodAll_one hA
  obtain ⟨a0, n0, c0, rfl⟩ := Go.WideShapes.okWide_slice Tryd.underlying38 (hval 0 _ v0 rfl rfl)
  obtain ⟨A, n, c, ss, e, hl, hc, hm⟩ := open_steps h0
  rw [e]
  exact ShaHash_any A n c ss W hl (Nat.le_trans hc hm) (ShaTabs.of_laid hL (by kernel_rfl) (by simp [Rows.shaHashRow]) (by simp [Rows.shaHashRow]))
end Go.Proofs.YtbpmigcbfbdnjaaDoor
