/- WalPlays: both disks, both logs and the player's block in memory. -/
import Derived.Test.YtifjddkgnfanaaaDoorPlyA
import Derived.Test.YtifjddkgnfanaaaDoorPlyP
import Derived.Test.YtifjddkgnfanaaaDoorRlO
import Derived.Test.YtifjddkgnfanaaaDoorRlN
namespace Go.Proofs.YtifjddkgnfanaaaDoor
open Go.RowKit

section
variable {w w1 w' w0 : World} {S P O T : Nat → Prop} {gl g gr x : Nat} {m m' mr : DM} {L L' : LM} {ea : Nat → Addr} {tv rv lv : Value} {lo lr : Option (Nat × LM)} {bo : Option (Nat × Obj)}

/-- What a reader finds is there always. -/
theorem recs_ex (gen : Nat) : ∀ (n : Nat) (b : List UInt8) (k : Nat), b.length ≤ n → ∃ rs r, b = recsB gen k rs ++ r ∧ nextB r gen (k + rs.length) = none ∧ Shorts rs := by
  intro n
  induction n with
  | zero =>
    intro b k hb
    have : b = [] := List.eq_nil_of_length_eq_zero (by omega)
    subst this
    exact ⟨[], [], rfl, nextB_nil _ _, fun x hx => (by cases hx)⟩
  | succ n ih =>
    intro b k hb
    cases h : nextB b gen k with
    | none => exact ⟨[], b, rfl, h, fun x hx => (by cases hx)⟩
    | some t =>
      obtain ⟨ht, _, _, r, hr⟩ := nextB_some h
      have hl : r.length ≤ n := by
        have := congrArg List.length hr
        rw [List.length_append, recB_length] at this
        omega
      obtain ⟨rs, r', e, hn, hs⟩ := ih r (k + 1) hl
      refine ⟨t :: rs, r', ?_, ?_, fun x hx => ?_⟩
      · rw [hr, e, recsB, List.append_assoc]
      · rw [show k + (t :: rs).length = k + 1 + rs.length by simp; omega]; exact hn
      · rcases List.mem_cons.1 hx with rfl | hx
        · exact ht
        · exact hs x hx
theorem reads_ex (A : Nat → List UInt8) : ∃ L, Reads A L ∧ L.dead = false := by
  obtain ⟨rs, r, e, hn, hs⟩ := recs_ex (pickB (A 0) (A 1)).1 (A 2).length (A 2) 0 (Nat.le_refl _)
  exact ⟨⟨(pickB (A 0) (A 1)).1, (pickB (A 0) (A 1)).2.1, (pickB (A 0) (A 1)).2.2, rs, false⟩, ⟨rfl, ⟨r, e, by rw [Nat.zero_add] at hn; exact hn⟩, hs⟩, rfl⟩
theorem Reads.eq {A : Nat → List UInt8} (h : Reads A L) (h' : Reads A L') (hd : L.dead = false) (hd' : L'.dead = false) (h2 : (A 2).length ≤ 1048576) : L' = L := by
  obtain ⟨e1, e2, e3, e4⟩ := h.same h' h2
  exact LM.ext' e1.symm e2.symm e3.symm e4.symm (by rw [hd, hd'])
theorem opE_le (m : DM) (e : Nat) : opE m e ≤ 25 := by
  unfold opE
  split
  · omega
  · split
    · split <;> omega
    · unfold DM.cutE
      split
      · omega
      · split <;> omega

theorem DW.frT (h : DW w0 w S g m gl L) (hf : Fr T w w') (hn : ∀ k, S k → ¬ T k) (ht : ∀ k, T k → w0.heap.size ≤ k) : DW w0 w' S g m gl L := by
  obtain ⟨⟨O, P, ⟨bv, wv, xs, h1⟩, ⟨tv, rv, ws, h2⟩, h3, h4, h5⟩, hu, hh, hb⟩ := h
  exact ⟨⟨O, P, ⟨bv, wv, xs, h1.frW hf fun q hq => hn q (h3 q hq)⟩, ⟨tv, rv, ws, h2.fr hf fun q hq => hn q (h4 q hq)⟩, h3, h4, h5⟩, hu, fun q hq => Nat.lt_of_lt_of_le (hh q hq) hf.size, hb.trans (hf.below hb.size fun q _ hq => ht q hq)⟩
theorem DD.frT (h : DD w0 w S g m) (hf : Fr T w w') (hn : ∀ k, S k → ¬ T k) (ht : ∀ k, T k → w0.heap.size ≤ k) : DD w0 w' S g m := by
  obtain ⟨⟨O, ⟨bv, wv, xs, h1⟩, ho⟩, hu, hh, hb⟩ := h
  exact ⟨⟨O, ⟨bv, wv, xs, h1.frW hf fun q hq => hn q (ho q hq)⟩, ho⟩, hu, fun q hq => Nat.lt_of_lt_of_le (hh q hq) hf.size, hb.trans (hf.below hb.size fun q _ hq => ht q hq)⟩

/-- The program's disk, and a log of it, if there is one. -/
def DX (w0 w : World) (S : Nat → Prop) (g : Nat) (m : DM) : Option (Nat × LM) → Prop
  | none => DD w0 w S g m
  | some x => DW w0 w S g m x.1 x.2
def RX (w0 w : World) (S : Nat → Prop) (g : Nat) (m : DM) : Option (Nat × LM) → Prop
  | none => RD w0 w S g m
  | some x => RW w0 w S g m x.1 x.2
theorem DX.dd (h : DX w0 w S g m lo) : DD w0 w S g m := by
  cases lo with
  | none => exact h
  | some x => exact DW.dd h
theorem RX.rd (h : RX w0 w S g m lo) : RD w0 w S g m := by
  cases lo with
  | none => exact h
  | some x => exact RW.rd h
theorem DX.below (h : DX w0 w S g m lo) (hb : Below w.heap.size w w') : DX w0 w' S g m lo := by
  cases lo with
  | none => exact DD.below h hb
  | some x => exact DW.below h hb
theorem RX.below (h : RX w0 w S g m lo) (hb : Below w.heap.size w w') : RX w0 w' S g m lo := by
  cases lo with
  | none => exact RD.below h hb
  | some x => exact RW.below h hb
theorem DX.frT (h : DX w0 w S g m lo) (hf : Fr T w w') (hn : ∀ k, S k → ¬ T k) (ht : ∀ k, T k → w0.heap.size ≤ k) : DX w0 w' S g m lo := by
  cases lo with
  | none => exact DD.frT h hf hn ht
  | some x => exact DW.frT h hf hn ht
theorem RX.frT (h : RX w0 w S g m lo) (hf : Fr T w w') (hn : ∀ k, S k → ¬ T k) (ht : ∀ k, T k → w0.heap.size ≤ k) : RX w0 w' S g m lo := by
  cases lo with
  | none => exact RD.fr h hf hn ht
  | some x => exact RW.fr h hf hn ht
theorem DX.useD (h : DX w0 w S g m lo) : ∃ O, DiskAt w O g m ∧ (∀ k, O k → S k) ∧ ∀ w' m', DiskAt w' (ext O w w') g m' → Fr O w w' → DX w0 w' (ext S w w') g m' lo ∧ Fr S w w' := by
  cases lo with
  | none =>
    obtain ⟨⟨O, h1, ho⟩, hu, hh, hb⟩ := h
    refine ⟨O, h1, ho, fun w' m' k1 k2 => ?_⟩
    have hF : Fr S w w' := k2.mono fun k _ hk => ho k hk
    exact ⟨⟨⟨ext O w w', k1, fun k hk => hk.imp (ho k) id⟩, ext_up0 hu hb.size, ext_hi hh hF.size, hb.trans (hF.below hb.size fun k _ hk => hu k hk)⟩, hF⟩
  | some x => exact DW.useD h
theorem RX.useD (h : RX w0 w S g m lo) : ∃ O, RefAt w O g m ∧ (∀ k, O k → S k) ∧ ∀ w' m', RefAt w' (ext O w w') g m' → Fr O w w' → RX w0 w' (ext S w w') g m' lo ∧ Fr S w w' := by
  cases lo with
  | none =>
    obtain ⟨⟨O, h1, ho⟩, hu, hh, hb⟩ := h
    refine ⟨O, h1, ho, fun w' m' k1 k2 => ?_⟩
    have hF : Fr S w w' := k2.mono fun k _ hk => ho k hk
    exact ⟨⟨⟨ext O w w', k1, fun k hk => hk.imp (ho k) id⟩, ext_up0 hu hb.size, ext_hi hh hF.size, hb.trans (hF.below hb.size fun k _ hk => hu k hk)⟩, hF⟩
  | some x => exact RW.useD h

/-- All of it: g, gr: the disks; lo, lr: the logs; x: the player's block; bo: a block beside all that. -/
structure PL (w0 w : World) (x : Nat) (bo : Option (Nat × Obj)) (g gr : Nat) (m mr : DM) (lo lr : Option (Nat × LM)) (lv rv : Value) : Prop where
  st : ∃ S T, DX w0 w S g m lo ∧ RX w0 w T gr mr lr ∧ (∀ k, S k → ¬ T k) ∧ ¬ S x ∧ ¬ T x ∧ ∀ q o, bo = some (q, o) → ¬ S q ∧ ¬ T q
  row : w.heap[x]? = some (.cells #[.pointer (some ⟨g, 0, none⟩), .pointer (some ⟨gr, 0, none⟩), lv, rv] 37 (0, 0))
  up : w0.heap.size ≤ x
  box : ∀ q o, bo = some (q, o) → w.heap[q]? = some o ∧ q ≠ x ∧ w0.heap.size ≤ q
theorem PL.lt (h : PL w0 w x bo g gr m mr lo lr lv rv) : x < w.heap.size := (Array.getElem?_eq_some_iff.1 h.row).1
theorem PL.at (h : PL w0 w x bo g gr m mr lo lr lv rv) : w.cell? ⟨x, 0, none⟩ = some (.pointer (some ⟨g, 0, none⟩)) ∧ w.cell? ⟨x, 1, none⟩ = some (.pointer (some ⟨gr, 0, none⟩)) ∧ w.cell? ⟨x, 2, none⟩ = some lv ∧ w.cell? ⟨x, 3, none⟩ = some rv :=
  ⟨cell_of_row _ _ 0 _ _ _ h.row, cell_of_row _ _ 1 _ _ _ h.row, cell_of_row _ _ 2 _ _ _ h.row, cell_of_row _ _ 3 _ _ _ h.row⟩
theorem PL.fz (h : PL w0 w x bo g gr m mr lo lr lv rv) (k : Nat) : w.frozen? ⟨x, k, none⟩ = false := frozen_of_row _ _ _ _ _ h.row
theorem PL.bel (h : PL w0 w x bo g gr m mr lo lr lv rv) : Below w0.heap.size w0 w := by
  obtain ⟨S, T, h1, _⟩ := h.st
  exact h1.dd.bel
/-- What is beside all that. -/
theorem PL.boxed {q : Nat} {c : Array Value} {t : TypeId} (h : PL w0 w x (some (q, .cells c t (0, 0))) g gr m mr lo lr lv rv) (k : Nat) : w.cell? ⟨q, k, none⟩ = c[k]? := cell_of_row _ _ _ _ _ _ (h.box q _ rfl).1
theorem box_kept (hb : ∀ q o, bo = some (q, o) → w.heap[q]? = some o ∧ q ≠ x ∧ w0.heap.size ≤ q) (hf : Fr S w w') (hn : ∀ q o, bo = some (q, o) → ¬ S q) : ∀ q o, bo = some (q, o) → w'.heap[q]? = some o ∧ q ≠ x ∧ w0.heap.size ≤ q := fun q o e =>
  have h1 := hb q o e
  ⟨(hf.block q (Array.getElem?_eq_some_iff.1 h1.1).1 (hn q o e)).trans h1.1, h1.2⟩
theorem PL.prog (h : PL w0 w x bo g gr m mr lo lr lv rv) : ∃ S, DX w0 w S g m lo ∧ ∀ w' m' lo', DX w0 w' (ext S w w') g m' lo' → Fr S w w' → PL w0 w' x bo g gr m' mr lo' lr lv rv := by
  have hx := h.lt
  obtain ⟨⟨S, T, h1, h2, h3, h4, h5, h6⟩, hr, hu, hbx⟩ := h
  refine ⟨S, h1, fun w' m' lo' k1 k2 => ⟨⟨ext S w w', T, k1, h2.frT k2 (fun k hk hs => h3 k hs hk) h1.dd.up, fun k hk hT => ?_, fun hk => ?_, h5, fun q o e => ⟨fun hk => ?_, (h6 q o e).2⟩⟩, (k2.block x hx h4).trans hr, hu, box_kept hbx k2 fun q o e => (h6 q o e).1⟩⟩
  · rcases hk with hk | hk
    · exact h3 k hk hT
    · have := h2.rd.hi k hT; omega
  · rcases hk with hk | hk
    · exact h4 hk
    · omega
  · rcases hk with hk | hk
    · exact (h6 q o e).1 hk
    · have := (Array.getElem?_eq_some_iff.1 (hbx q o e).1).1
      omega
theorem PL.ref (h : PL w0 w x bo g gr m mr lo lr lv rv) : ∃ T, RX w0 w T gr mr lr ∧ ∀ w' m' lr', RX w0 w' (ext T w w') gr m' lr' → Fr T w w' → PL w0 w' x bo g gr m m' lo lr' lv rv := by
  have hx := h.lt
  obtain ⟨⟨S, T, h1, h2, h3, h4, h5, h6⟩, hr, hu, hbx⟩ := h
  refine ⟨T, h2, fun w' m' lr' k1 k2 => ⟨⟨S, ext T w w', h1.frT k2 h3 h2.rd.up, k1, fun k hk hT => ?_, h4, fun hk => ?_, fun q o e => ⟨(h6 q o e).1, fun hk => ?_⟩⟩, (k2.block x hx h5).trans hr, hu, box_kept hbx k2 fun q o e => (h6 q o e).2⟩⟩
  · rcases hT with hT | hT
    · exact h3 k hk hT
    · have := h1.dd.hi k hk; omega
  · rcases hk with hk | hk
    · exact h5 hk
    · omega
  · rcases hk with hk | hk
    · exact (h6 q o e).2 hk
    · have := (Array.getElem?_eq_some_iff.1 (hbx q o e).1).1
      omega
theorem PL.below (h : PL w0 w x bo g gr m mr lo lr lv rv) (hb : Below w.heap.size w w') : PL w0 w' x bo g gr m mr lo lr lv rv := by
  have hx := h.lt
  obtain ⟨⟨S, T, h1, h2, h3, h4, h5, h6⟩, hr, hu, hbx⟩ := h
  exact ⟨⟨S, T, h1.below hb, h2.below hb, h3, h4, h5, h6⟩, (hb.block x hx).trans hr, hu, box_kept (S := fun _ => False) hbx (Fr.of_below hb) fun _ _ _ h => h⟩
theorem PL.store (h : PL w0 w x bo g gr m mr lo lr lv rv) (a b : Value) : PL w0 ((w.setCell ⟨x, 2, none⟩ a).setCell ⟨x, 3, none⟩ b) x bo g gr m mr lo lr a b := by
  have hF := ((Fr.refl (fun q => q = x) w).setCell (p := ⟨x, 2, none⟩) (fun _ => rfl) a).setCell (p := ⟨x, 3, none⟩) (fun _ => rfl) b
  have hc := heap_setCell_same _ x 3 _ _ b (heap_setCell_same _ x 2 _ _ a h.row)
  obtain ⟨⟨S, T, h1, h2, h3, h4, h5, h6⟩, hr, hu, hbx⟩ := h
  exact ⟨⟨S, T, h1.frT hF (fun k hk e => h4 (by rw [← e]; exact hk)) (fun k e => by rw [e]; exact hu), h2.frT hF (fun k hk e => h5 (by rw [← e]; exact hk)) (fun k e => by rw [e]; exact hu), h3, h4, h5, h6⟩, hc, hu, box_kept hbx hF fun q o e => (hbx q o e).2.1⟩
theorem PL.drop (h : PL w0 w x bo g gr m mr lo lr lv rv) : PL w0 w x bo g gr m mr none none lv rv := by
  obtain ⟨⟨S, T, h1, h2, h3, h4, h5, h6⟩, hr, hu, hbx⟩ := h
  exact ⟨⟨S, T, h1.dd, h2.rd, h3, h4, h5, h6⟩, hr, hu, hbx⟩
theorem PL.unbox (h : PL w0 w x bo g gr m mr lo lr lv rv) : PL w0 w x none g gr m mr lo lr lv rv := by
  obtain ⟨⟨S, T, h1, h2, h3, h4, h5, h6⟩, hr, hu, hbx⟩ := h
  exact ⟨⟨S, T, h1, h2, h3, h4, h5, fun _ _ e => nomatch e⟩, hr, hu, fun _ _ e => nomatch e⟩
theorem PL.alloc (h : PL w0 w x bo g gr m mr lo lr lv rv) (c : Array Value) (t : TypeId) : PL w0 (w.alloc (.cells c t)) x (some (w.heap.size, .cells c t (0, 0))) g gr m mr lo lr lv rv := by
  have hb := (Below.refl w.heap.size w).alloc (Nat.le_refl _) (.cells c t)
  have hx := h.lt
  obtain ⟨⟨S, T, h1, h2, h3, h4, h5, h6⟩, hr, hu, hbx⟩ := h
  refine ⟨⟨S, T, h1.below hb, h2.below hb, h3, h4, h5, fun q o e => ?_⟩, (hb.block x hx).trans hr, hu, fun q o e => ?_⟩
  · injection e with e
    injection e with e1 e2
    subst e1
    exact ⟨fun hk => by have := h1.dd.hi _ hk; omega, fun hk => by have := h2.rd.hi _ hk; omega⟩
  · injection e with e
    injection e with e1 e2
    subst e1
    subst e2
    exact ⟨heap_alloc_new w _, by omega, h1.dd.bel.size⟩
theorem PL.ne (h : PL w0 w x bo g gr m mr lo lr lv rv) : gr ≠ x ∧ ∀ q o, bo = some (q, o) → gr ≠ q := by
  obtain ⟨⟨S, T, h1, h2, h3, h4, h5, h6⟩, hr, hu, hbx⟩ := h
  obtain ⟨O, ⟨A, k, wv, xs, hd⟩, ho⟩ := h2.rd.d
  have hg := ho _ hd.ownG
  exact ⟨fun e => h5 (by rw [← e]; exact hg), fun q o e hq => (h6 q o e).2 (by rw [← hq]; exact hg)⟩

/-! ### what the program does -/
theorem Arm_P (units : Int) (h : PL w0 w x bo g gr m mr lo lr lv rv) (h0 : 0 ≤ units) : Calls Tryd.prog 33 #[.pointer (some ⟨g, 0, none⟩), .int .i64 units] w fun e w' => e = .returned .nilIface ∧ PL w0 w' x bo g gr (m.arm units) mr lo lr lv rv := by
  obtain ⟨S, h1, hu⟩ := h.prog
  obtain ⟨O, ⟨bv, wv, ws, hd⟩, _, hu1⟩ := h1.useD
  refine (Arm_at units hd h0).mono ?_
  rintro e w' ⟨rfl, hv, hf⟩
  obtain ⟨k1, k2⟩ := hu1 _ _ ⟨bv, wv, ws, hv.mono fun k _ hk => .inl hk⟩ (hf.mono fun k _ e => by subst e; exact hd.ownG)
  exact ⟨rfl, hu _ _ _ k1 k2⟩
theorem Crash_P (h : PL w0 w x bo g gr m mr lo lr lv rv) (hok : m.Ok) (hw : m.waits.length ≤ 1000) (kept s torn : Int) (hs0 : 0 ≤ s) (hs1 : s ≤ 18446744073709551615) :
    Calls Tryd.prog 18 #[.pointer (some ⟨g, 0, none⟩), .int .i64 kept, .int .u64 s, .int .i64 torn] w fun e w' => e = .returned (.tuple #[]) ∧ PL w0 w' x bo g gr (m.crash kept s torn) mr lo lr lv rv := by
  obtain ⟨S, h1, hu⟩ := h.prog
  obtain ⟨O, hd, _, hu1⟩ := h1.useD
  refine (Crash_any hd hok hw kept s torn hs0 hs1).mono ?_
  rintro e w' ⟨rfl, hd', hf⟩
  obtain ⟨k1, k2⟩ := hu1 _ _ hd' hf
  exact ⟨rfl, hu _ _ _ k1 k2⟩
theorem Append_P (A : Option Addr) (n c : Nat) (text : List UInt8) (h : PL w0 w x bo g gr m mr (some (gl, L)) lr lv rv) (hE : EW w0 ea) (hok : m.Ok) (hL : L.Ok) (hb : RB w0 A n text) (hnc : n ≤ c) (hc : c ≤ maxLen) (hw : m.waits.length ≤ 1000) :
    Calls Tryd.prog 17 #[.pointer (some ⟨gl, 0, none⟩), .slice A n c] w fun e w' => e = .returned (dErr ea (L.appE m text)) ∧ PL w0 w' x bo g gr (L.appM m text) mr (some (gl, L.app m text)) lr lv rv := by
  obtain ⟨S, h1, hu⟩ := h.prog
  have h1 : DW w0 w S g m gl L := h1
  refine (Append_any A n c text h1 hE hok hL (hb.keep (Keeps.of_below h1.bel)) (off_arg h1 hb) hnc hc hw).mono ?_
  rintro e w' ⟨rfl, k1, k2⟩
  exact ⟨rfl, hu _ _ (some (gl, L.app m text)) k1 k2⟩
theorem Compact_P (A : Option Addr) (n c : Nat) (text : List UInt8) (h : PL w0 w x bo g gr m mr (some (gl, L)) lr lv rv) (hE : EW w0 ea) (hok : m.Ok) (hL : L.Ok) (hb : RB w0 A n text) (hn : n ≤ 1000000) (hw : m.waits.length ≤ 1000) :
    Calls Tryd.prog 36 #[.pointer (some ⟨gl, 0, none⟩), .slice A n c] w fun e w' => e = .returned (dErr ea (L.cpE m text)) ∧ PL w0 w' x bo g gr (L.cpM m text) mr (some (gl, L.cp m text)) lr lv rv := by
  obtain ⟨S, h1, hu⟩ := h.prog
  have h1 : DW w0 w S g m gl L := h1
  refine (Compact_any A n c text h1 hE hok hL (hb.keep (Keeps.of_below h1.bel)) hn hw).mono ?_
  rintro e w' ⟨rfl, k1, k2⟩
  exact ⟨rfl, hu _ _ (some (gl, L.cp m text)) k1 k2⟩
theorem OpenP_gone (h : PL w0 w x bo g gr m mr none lr lv rv) (hE : EW w0 ea) (hg : m.gone = true) : Calls Tryd.prog 16 #[.pointer (some ⟨g, 0, none⟩)] w fun e w' => e = .returned (.tuple #[.pointer none, .iface 141 (.pointer (some (ea 25)))]) ∧ PL w0 w' x bo g gr m mr none lr lv rv := by
  obtain ⟨S, h1, hu⟩ := h.prog
  refine (Open_gone h1.dd hE hg).mono ?_
  rintro e w' ⟨rfl, hb⟩
  exact ⟨rfl, h.below hb⟩
theorem OpenP_ok (h : PL w0 w x bo g gr m mr none lr lv rv) (hE : EW w0 ea) (hG : m.Gd) (hg : m.gone = false) (hR : Reads (fun i => m.b (3 + i)) L) (hd : L.dead = false) (h0 : opE m (endOf L.recs) = 0) :
    Calls Tryd.prog 16 #[.pointer (some ⟨g, 0, none⟩)] w fun e w' => ∃ gl, e = .returned (.tuple #[.pointer (some ⟨gl, 0, none⟩), .nilIface]) ∧ PL w0 w' x bo g gr (opM m (endOf L.recs)) mr (some (gl, L)) lr lv rv := by
  obtain ⟨S, h1, hu⟩ := h.prog
  refine (Open_any h1.dd hE hG.ok (by have := hG.one; omega) hg).mono ?_
  rintro e w' ⟨L', hR', hd', hf, ho⟩
  obtain rfl := hR.eq hR' hd hd' (hG.ok.len 5 (by decide))
  rcases ho with ⟨_, gl, rfl, k1⟩ | ⟨hne, _⟩
  · exact ⟨gl, rfl, hu _ _ (some (gl, L')) k1 hf⟩
  · exact absurd h0 hne
theorem OpenP_err (h : PL w0 w x bo g gr m mr none lr lv rv) (hE : EW w0 ea) (hG : m.Gd) (hg : m.gone = false) (hR : Reads (fun i => m.b (3 + i)) L) (hd : L.dead = false) (h0 : opE m (endOf L.recs) ≠ 0) :
    Calls Tryd.prog 16 #[.pointer (some ⟨g, 0, none⟩)] w fun e w' => e = .returned (.tuple #[.pointer none, dErr ea (opE m (endOf L.recs))]) ∧ PL w0 w' x bo g gr (opM m (endOf L.recs)) mr none lr lv rv := by
  obtain ⟨S, h1, hu⟩ := h.prog
  refine (Open_any h1.dd hE hG.ok (by have := hG.one; omega) hg).mono ?_
  rintro e w' ⟨L', hR', hd', hf, ho⟩
  obtain rfl := hR.eq hR' hd hd' (hG.ok.len 5 (by decide))
  rcases ho with ⟨he, _⟩ | ⟨_, rfl, k1⟩
  · exact absurd he h0
  · exact ⟨rfl, hu _ _ none k1 hf⟩

/-! ### what the document does -/
theorem RCrash_P (h : PL w0 w x bo g gr m mr lo lr lv rv) (hok : mr.Ok) (hw : mr.waits.length ≤ 1000) (kept s torn : Int) (hs0 : 0 ≤ s) :
    Calls Tryd.prog 34 #[.pointer (some ⟨gr, 0, none⟩), .int .i64 kept, .int .u64 s, .int .i64 torn] w fun e w' => e = .returned (.tuple #[]) ∧ PL w0 w' x bo g gr m (mr.crash kept s torn) lo lr lv rv := by
  obtain ⟨T, h1, hu⟩ := h.ref
  obtain ⟨O, ⟨A, k, wv, ws, hd⟩, _, hu1⟩ := h1.useD
  refine (RCrash_any hd hok hw kept s torn hs0).mono ?_
  rintro e w' ⟨rfl, hd', hf⟩
  obtain ⟨k1, k2⟩ := hu1 _ _ hd' (hf.mono fun q _ e => by subst e; exact hd.ownG)
  exact ⟨rfl, hu _ _ _ k1 k2⟩
/-- The document's disk is armed by hand. -/
theorem PL.arm (n : Int) (h : PL w0 w x bo g gr m mr lo lr lv rv) : PL w0 ((w.setCell ⟨gr, 5, none⟩ (.bool true)).setCell ⟨gr, 6, none⟩ (.int .i64 n)) x bo g gr m (mr.arm n) lo lr lv rv := by
  obtain ⟨T, h1, hu⟩ := h.ref
  obtain ⟨O, ⟨A, k, wv, ws, hd⟩, _, hu1⟩ := h1.useD
  have hF := ((Fr.refl (fun q => q = gr) w).setCell (p := ⟨gr, 5, none⟩) (fun _ => rfl) (.bool true)).setCell (p := ⟨gr, 6, none⟩) (fun _ => rfl) (.int .i64 n)
  have hc := heap_setCell_same _ gr 6 _ _ (.int .i64 n) (heap_setCell_same _ gr 5 _ _ (.bool true) hd.cells)
  obtain ⟨k1, k2⟩ := hu1 _ (mr.arm n) ⟨A, k, wv, ws, (hd.turn (m' := mr.arm n) hF hc rfl rfl).mono fun q _ hq => .inl hq⟩ (hF.mono fun q _ e => by subst e; exact hd.ownG)
  exact hu _ _ _ k1 k2
theorem PL.rcell (h : PL w0 w x bo g gr m mr lo lr lv rv) : (∃ wv c, w.cell? ⟨gr, 4, none⟩ = some (.slice wv mr.waits.length c)) ∧ w.cell? ⟨gr, 5, none⟩ = some (.bool mr.armed) ∧ w.cell? ⟨gr, 6, none⟩ = some (.int .i64 mr.left) ∧ w.cell? ⟨gr, 7, none⟩ = some (.bool mr.gone) ∧ ∀ k, w.frozen? ⟨gr, k, none⟩ = false := by
  obtain ⟨T, h1, hu⟩ := h.ref
  obtain ⟨O, ⟨A, k, wv, ws, hd⟩, _, _⟩ := h1.useD
  obtain ⟨AW, c, e, _, _⟩ := hd.wts.form
  have hl : ws.length = mr.waits.length := by rw [← hd.eq, List.length_map]
  refine ⟨⟨AW, c, ?_⟩, hd.cell 5, hd.cell 6, hd.cell 7, hd.free⟩
  rw [← hl, ← e]
  exact hd.cell 4
theorem RAppend_P (A : Option Addr) (n c : Nat) (text : List UInt8) (h : PL w0 w x bo g gr m mr lo (some (gl, L)) lv rv) (hG : mr.Gd) (hL : L.Ok) (hb : RB w0 A n text) :
    Calls Tryd.prog 35 #[.pointer (some ⟨gl, 0, none⟩), .slice A n c] w fun e w' => e = .returned (.int .i64 (L.appE mr text : Int)) ∧ PL w0 w' x bo g gr m (L.appM mr text) lo (some (gl, L.app mr text)) lv rv := by
  obtain ⟨T, h1, hu⟩ := h.ref
  have h1 : RW w0 w T gr mr gl L := h1
  refine (Append_R A n c text h1 hG.ok hL (by have := hG.one; omega) hG.fold hG.free0 (hb.keep (Keeps.of_below h1.bel)) (fun hn p e hs => ?_)).mono ?_
  · obtain ⟨b, o, e', hc⟩ := hb.2 hn
    rw [e] at e'
    injection e' with e'
    have := h1.up _ hs
    have hlt := World.block_lt_of_cell? w0 _ (hc 0 hn)
    rw [e'] at this
    dsimp only at this hlt
    omega
  · rintro e w' ⟨rfl, k1, k2⟩
    exact ⟨rfl, hu _ _ (some (gl, L.app mr text)) k1 k2⟩
theorem RCompact_P (A : Option Addr) (n c : Nat) (text : List UInt8) (h : PL w0 w x bo g gr m mr lo (some (gl, L)) lv rv) (hG : mr.Gd) (hL : L.Ok) (hb : RB w0 A n text) (hn : n ≤ 1000000) :
    Calls Tryd.prog 37 #[.pointer (some ⟨gl, 0, none⟩), .slice A n c] w fun e w' => e = .returned (.int .i64 (L.cpE mr text : Int)) ∧ PL w0 w' x bo g gr m (L.cpM mr text) lo (some (gl, L.cp mr text)) lv rv := by
  obtain ⟨T, h1, hu⟩ := h.ref
  have h1 : RW w0 w T gr mr gl L := h1
  refine (Compact_R A n c text h1 hG.ok hL (by have := hG.one; omega) hG.fold hG.free0 (hb.keep (Keeps.of_below h1.bel)) (fun hn p e hs => ?_) hn).mono ?_
  · obtain ⟨b, o, e', hc⟩ := hb.2 hn
    rw [e] at e'
    injection e' with e'
    have := h1.up _ hs
    have hlt := World.block_lt_of_cell? w0 _ (hc 0 hn)
    rw [e'] at this
    dsimp only at this hlt
    omega
  · rintro e w' ⟨rfl, k1, k2⟩
    exact ⟨rfl, hu _ _ (some (gl, L.cp mr text)) k1 k2⟩
end
end Go.Proofs.YtifjddkgnfanaaaDoor
