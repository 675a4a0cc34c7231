/- WalPower: its frame, its records, a round. -/
import Derived.Test.YtjodehdmafagoaaDoorAlive18
import Derived.Test.YtjodehdmafagoaaDoorWalN
import Derived.Test.YtjodehdmafagoaaDoorActs18
import Derived.Test.YtjodehdmafagoaaDoorSameLists
import Derived.Test.YtjodehdmafagoaaDoorNum
import Derived.Test.YtjodehdmafagoaaDoorPowP
namespace Go.Proofs.YtjodehdmafagoaaDoor
open Go.RowKit

set_option maxRecDepth 100000 in
def PF (f : Nat → Value) : Act := ⟨#[f 0, f 1, f 2, f 3, f 4, f 5, f 6, f 7, f 8, f 9, f 10, f 11, f 12, f 13, f 14, f 15, f 16, f 17, f 18, f 19, f 20, f 21, f 22, f 23, f 24, f 25, f 26, f 27, f 28, f 29, f 30, f 31, f 32, f 33, f 34, f 35, f 36, f 37, f 38, f 39, f 40, f 41, f 42, f 43, f 44, f 45, f 46, f 47, f 48, f 49, f 50, f 51, f 52, f 53, f 54, f 55, f 56, f 57, f 58, f 59, f 60, f 61, f 62, f 63, f 64, f 65, f 66, f 67, f 68, f 69, f 70, f 71, f 72, f 73, f 74, f 75, f 76, f 77, f 78, f 79, f 80, f 81, f 82, f 83, f 84, f 85, f 86, f 87, f 88, f 89, f 90, f 91, f 92, f 93, f 94, f 95, f 96, f 97, f 98, f 99, f 100, f 101, f 102, f 103, f 104, f 105, f 106, f 107, f 108, f 109, f 110, f 111, f 112, f 113, f 114, f 115, f 116, f 117, f 118, f 119, f 120, f 121, f 122, f 123, f 124, f 125, f 126], []⟩
def slotP (a : Act) (i : Nat) : Value := a.tmps.toList.getD i undef
def IsP (a : Act) : Prop := a = PF (slotP a)

theorem errOf_dErr (ea : Nat → Addr) (n : Nat) : errOf ea n = dErr ea n := by
  cases n with
  | zero => rfl
  | succ n => rfl
theorem EW.of_errs {w : World} {ea : Nat → Addr} (he : Errs w ea) (hs : ShaTabs w) : EW w ea :=
  ⟨hs, ⟨he.cell 1 (by decide) (by decide), he.cell 25 (by decide) (by decide), he.cell 26 (by decide) (by decide)⟩, he.cell 3 (by decide) (by decide), Nat.le_trans (by decide) hs.lt⟩
theorem EW.below {w w' : World} {ea : Nat → Addr} (h : EW w ea) (hb : Below w.heap.size w w') : EW w' ea := ⟨h.sha.keep (Keeps.of_below hb), h.d.keep (Keeps.of_below hb), Keeps.of_below hb _ _ h.long, Nat.le_trans h.size hb.size⟩
theorem DM.Is.arm {m : DM} {A : Nat → List UInt8} (h : m.Is A) {n : Int} (h0 : 0 ≤ n) (h1 : n ≤ 9223372036854775807) : (m.arm n).Is A := ⟨h.ok.arm h0 h1, h.gone, h.waits, h.sure, h.seen⟩

/-- A list of texts of the caller's, in a row that is neither the disk's nor the log's. -/
structure RRV (w0 w : World) (S : Nat → Prop) (A : Option Addr) (n c : Nat) (vs : List Value) (ls : List (List UInt8)) : Prop where
  nc : n ≤ c
  cm : c ≤ maxLen
  lv : vs.length = n
  ll : ls.length = n
  each : ∀ k, k < n → SB w0 (vs.getD k undef) (ls.getD k [])
  cell : 0 < n → ∃ b o, A = some ⟨b, o, none⟩ ∧ ¬ S b ∧ b < w.heap.size ∧ ∀ k, k < n → w.cell? ⟨b, o + k, none⟩ = some (vs.getD k undef)
def RR (w0 w : World) (S : Nat → Prop) (v : Value) (ls : List (List UInt8)) : Prop := ∃ A n c vs, v = .slice A n c ∧ RRV w0 w S A n c vs ls
section
variable {w0 w w' : World} {S : Nat → Prop} {v : Value} {ls : List (List UInt8)} {A : Option Addr} {n c : Nat} {vs : List Value}
theorem RR.nil (w0 w : World) (S : Nat → Prop) (A : Option Addr) : RR w0 w S (.slice A 0 0) [] := ⟨A, 0, 0, [], rfl, Nat.le_refl _, by unfold maxLen; omega, rfl, rfl, fun k hk => absurd hk (by omega), fun h => absurd h (by omega)⟩
theorem RR.fr (h : RR w0 w S v ls) (hf : Fr S w w') : RR w0 w' (ext S w w') v ls := by
  obtain ⟨A, n, c, vs, e, h1, h2, h3, h4, h5, h6⟩ := h
  refine ⟨A, n, c, vs, e, h1, h2, h3, h4, h5, fun h0 => ?_⟩
  obtain ⟨b, o, e, hs, hb, hc⟩ := h6 h0
  exact ⟨b, o, e, fun h => h.elim hs fun h => by omega, Nat.lt_of_lt_of_le hb hf.size, fun k hk => (hf.cell (p := ⟨b, o + k, none⟩) hb hs).trans (hc k hk)⟩
theorem RRV.below (h : RRV w0 w S A n c vs ls) (hb : Below w.heap.size w w') : RRV w0 w' S A n c vs ls :=
  ⟨h.nc, h.cm, h.lv, h.ll, h.each, fun h0 => let ⟨b, o, e, hs, hb', hc⟩ := h.cell h0; ⟨b, o, e, hs, Nat.lt_of_lt_of_le hb' hb.size, fun k hk => Keeps.of_below hb _ _ (hc k hk)⟩⟩
theorem RR.below (h : RR w0 w S v ls) (hb : Below w.heap.size w w') : RR w0 w' S v ls := let ⟨A, n, c, vs, e, h⟩ := h; ⟨A, n, c, vs, e, h.below hb⟩
theorem RR.rbl (h : RR w0 w S v ls) (hb : Below w0.heap.size w0 w) : ∃ A c, v = .slice A ls.length c ∧ ls.length ≤ c ∧ c ≤ maxLen ∧ RBL w A ls.length ls := by
  obtain ⟨A, n, c, vs, e, h1, h2, h3, h4, h5, h6⟩ := h
  subst h4
  refine ⟨A, c, e, h1, h2, rfl, fun h0 => ?_⟩
  obtain ⟨b, o, e, _, _, hc⟩ := h6 h0
  exact ⟨b, o, e, fun k hk => ⟨_, hc k hk, (h5 k hk).keep (Keeps.of_below hb)⟩⟩
/-- As an append's source. -/
theorem RRV.src (h : RRV w0 w S A n c vs ls) : Src Tryd.prog 1 22 (.slice A n c) n vs w := by
  obtain ⟨h1, h2, h3, h4, h5, h6⟩ := h
  rcases Nat.eq_zero_or_pos n with h0 | h0
  · have hv : vs = [] := List.eq_nil_of_length_eq_zero (h3.trans h0)
    subst hv
    rw [h0]
    cases A with
    | none => exact Src.ofNil w Tryd.underlying22 c
    | some a => exact Src.ofSlice w Tryd.underlying22 a 0 c [] (by simp) (by simp) (by simp)
  · obtain ⟨b, o, rfl, _, _, hc⟩ := h6 h0
    refine Src.ofSlice w Tryd.underlying22 _ _ c vs (by rw [h3, Nat.mul_one]) (fun j u hu => ?_) (fun u hu => ?_)
    · have hj : j < vs.length := (List.getElem?_eq_some_iff.1 hu).1
      rw [addr_add, hc j (by omega), List.getD_eq_getElem?_getD, hu]
      rfl
    · obtain ⟨j, hj, rfl⟩ := List.getElem_of_mem hu
      have := h5 j (by omega)
      rw [List.getD_eq_getElem?_getD, List.getElem?_eq_getElem hj] at this
      obtain ⟨A', c', e', _⟩ := this
      simp only [Option.getD_some] at e'
      rw [e']
      rfl
/-- A new list out of an elder one and a text. -/
theorem RRV.snoc {w1 wr : World} {A1 : Option Addr} {c1 : Nat} {x : Value} {t : List UInt8} (h : RRV w0 wr S A n c vs ls) (hs : ∀ k, S k → k < w.heap.size) (ho : OwnS w1 w.heap.size 31 1 (.slice A1 (n + 1) c1) (n + 1) (vs ++ [x])) (hx : SB w0 x t) : RR w0 w1 S (.slice A1 (n + 1) c1) (ls ++ [t]) := by
  obtain ⟨A', c', e, h1, h2⟩ := ho.form
  injection e with e1 _ e3
  subst e1; subst e3
  have hl := h.lv
  have hll := h.ll
  refine ⟨A1, _, c1, vs ++ [x], rfl, h1, h2, by rw [List.length_append, hl]; rfl, by rw [List.length_append, hll]; rfl, fun k hk => ?_, fun _ => ?_⟩
  · rcases Nat.lt_or_ge k n with h' | h'
    · rw [List.getD_eq_getElem?_getD, List.getD_eq_getElem?_getD, List.getElem?_append_left (by omega), List.getElem?_append_left (by omega), ← List.getD_eq_getElem?_getD, ← List.getD_eq_getElem?_getD]
      exact h.each k h'
    · obtain rfl : k = n := by omega
      rw [List.getD_eq_getElem?_getD, List.getD_eq_getElem?_getD, List.getElem?_append_right (by omega), List.getElem?_append_right (by omega), hl, hll, Nat.sub_self]
      exact hx
  · obtain ⟨g, o, cap, e, hg, hlt, hc⟩ := ho.cells (by rw [List.length_append]; simp)
    injection e with e1 _ _
    refine ⟨g, o, e1, fun h => by have := hs g h; omega, hlt, fun k hk => hc k _ ?_⟩
    have hk' : k < (vs ++ [x]).length := by rw [List.length_append, hl]; simpa using hk
    rw [List.getD_eq_getElem?_getD, List.getElem?_eq_getElem hk']
    rfl
end
/-- A literal of no elements. -/
theorem own_empty {w : World} {q base : Nat} (h : w.heap[q]? = some (.cells #[] 31 (0, 0))) (hb : base ≤ q) : OwnS w base 31 1 (.slice (some ⟨q, 0, none⟩) 0 0) 0 [] :=
  ⟨rfl, .inr ⟨q, 0, 0, #[], rfl, hb, h, Nat.le_refl _, by unfold maxLen; omega, by simp, rfl⟩⟩
theorem step_append_rr {ops : Array Oper} {o : Oper} {a : Act} {w : World} {K : Act → World → Prop} {Q : Exit → Act → World → Prop} {E : Prop} (hgd : o.guard = none) (s x : Operand)
    (ho : o.op = .call { callee := .builtin .append, args := #[s, x], argTypes := #[22, 22] })
    {base : Nat} {v : Value} {n : Nat} {ws : List Value} (hown : OwnS w base 31 1 v n ws) (hs : a.eval s = v)
    {xv : Value} {m : Nat} {news : List Value} (hsrc : Src Tryd.prog 1 22 xv m news w) (hx : a.eval x = xv) (hbytes : n + m ≤ 1000000) (hbase : base ≤ w.heap.size)
    (h : ∀ v' w', OwnS w' base 31 1 v' (n + m) (ws ++ news) → w.grownBy w' v.ownBlock → (v'.ownBlock = v.ownBlock ∨ v'.ownBlock = some w.heap.size) → K (a.put o.dst v') w') :
    if Region.wanted o (yielded ops a.tmps) = true then Oper.wp Tryd.prog o a w K Q else E := by
  obtain ⟨i0, hi, hz0, hz1, hz2⟩ := info_parts4 info_byt
  exact step_append_ownS hgd s x 22 22 ho i0 _ 24 Tryd.underlying22 hi hz0 hz1 hz2 rfl (by omega) hs hown xv m news hx hsrc (by unfold maxLen; omega) (by omega) hbase fun v' w' h1 h2 h3 => h v' w' h1 h2 h3

/-- At the head of a round. -/
def PJ (w0 : World) (g gl : Nat) (v5 lst : Value) (n i : Nat) (a : Act) (w : World) : Prop :=
  IsP a ∧ slotP a 5 = v5 ∧ slotP a 7 = .pointer (some ⟨g, 0, none⟩) ∧ slotP a 9 = .pointer (some ⟨gl, 0, none⟩) ∧ slotP a 48 = lst ∧ slotP a 49 = .int .i64 (n : Int) ∧ slotP a 50 = .int .i64 (i : Int) ∧
    ∃ (m : DM) (L : LM) (S : Nat → Prop) (A : Nat → List UInt8) (T' : List UInt8) (R' : List (List UInt8)), DW w0 w S g m gl L ∧ m.Is A ∧ L.On A ∧ L.dead = false ∧ L.recs.length ≤ i ∧ slotP a 10 = .string ⟨L.text.toArray⟩ ∧ RR w0 w S (slotP a 11) L.recs ∧ slotP a 12 = .string ⟨T'.toArray⟩ ∧ RR w0 w S (slotP a 13) R'
/-- Behind the loop. -/
def PE (w0 : World) (g : Nat) (v5 : Value) (a : Act) (w : World) : Prop :=
  IsP a ∧ slotP a 5 = v5 ∧ slotP a 7 = .pointer (some ⟨g, 0, none⟩) ∧
    ∃ (m : DM) (gl : Nat) (X L L' : LM) (S : Nat → Prop), DW w0 w S g m gl X ∧ m.Ok ∧ m.waits.length ≤ 1000 ∧ slotP a 10 = .string ⟨L.text.toArray⟩ ∧ RR w0 w S (slotP a 11) L.recs ∧ slotP a 12 = .string ⟨L'.text.toArray⟩ ∧ RR w0 w S (slotP a 13) L'.recs ∧ Either m L L'
end Go.Proofs.YtjodehdmafagoaaDoor
