/- The document's log (layer 18): Open, the plain part. -/
import Derived.Test.YtifjddkgnfanaaaDoorRlE
import Derived.Test.YtifjddkgnfanaaaDoorRlJ
namespace Go.Proofs.YtifjddkgnfanaaaDoor
open Go.RowKit

theorem nextB_begins {b t : List UInt8} {G k n : Nat} (hn : numAt b 8 = n) (h1 : n ≤ 16384) (h2 : n ≤ b.length - 20) (ht : t = (b.drop 20).take n) (hG : G < 4294967296) (hk : k < 4294967296) :
    (b.take (20 + n) = recB G k t → nextB b G k = some t) ∧ (b.take (20 + n) ≠ recB G k t → nextB b G k = none) := by
  have htl : t.length = n := by rw [ht, List.length_take, List.length_drop]; omega
  refine ⟨fun e => ?_, fun e => ?_⟩
  · have : b = recB G k t ++ b.drop (20 + n) := by rw [← e, List.take_append_drop]
    rw [this]
    exact nextB_rec G k t _ hG hk (by omega)
  · cases h : nextB b G k with
    | none => rfl
    | some t' =>
      obtain ⟨ht', _, _, r, hr⟩ := nextB_some h
      have e8 : numAt b 8 = t'.length := by
        have e : recB G k t' ++ r = (num4 G ++ num4 k) ++ (num4 t'.length ++ (sumB G k t' ++ (t' ++ r))) := by simp [recB]
        rw [hr, e, numAt_skip _ _ 8 rfl, num4_at _ _ (by omega)]
      have hl' : t'.length = n := by omega
      have d20 : (b.drop 20).take n = t' := by
        have e : recB G k t' ++ r = (((num4 G ++ num4 k) ++ num4 t'.length) ++ sumB G k t') ++ (t' ++ r) := by simp [recB]
        rw [hr, e, List.drop_left' (by rw [List.length_append, sumB_length]; rfl), ← hl', List.take_left]
      rw [← ht] at d20
      subst d20
      refine absurd ?_ e
      rw [hr]
      exact List.take_left' (by rw [recB_length, htl])
theorem nextB_short {b : List UInt8} {G k : Nat} (h : b.length < 20) : nextB b G k = none := by unfold nextB; rw [if_pos (.inl h)]
theorem nextB_long {b : List UInt8} {G k : Nat} (h : 16384 < numAt b 8 ∨ b.length - 20 < numAt b 8) : nextB b G k = none := by
  cases hx : nextB b G k with
  | none => rfl
  | some t =>
    obtain ⟨ht, _, _, r, hr⟩ := nextB_some hx
    have e8 : numAt b 8 = t.length := by
      have e : recB G k t ++ r = (num4 G ++ num4 k) ++ (num4 t.length ++ (sumB G k t ++ (t ++ r))) := by simp [recB]
      rw [hr, e, numAt_skip _ _ 8 rfl, num4_at _ _ (by omega)]
    have hl := congrArg List.length hr
    rw [List.length_append, recB_length] at hl
    omega

/-- The document's disk alone; S: blocks that are its own, or forgotten. -/
structure RD (w0 w : World) (S : Nat → Prop) (g : Nat) (m : DM) : Prop where
  d : ∃ O, RefAt w O g m ∧ ∀ k, O k → S k
  up : ∀ k, S k → w0.heap.size ≤ k
  hi : ∀ k, S k → k < w.heap.size
  bel : Below w0.heap.size w0 w
section
variable {w w1 w' w0 : World} {S P : Nat → Prop} {gl g : Nat} {m m' : DM} {L L' : LM} {tv rv : Value} {ws : List (List UInt8 × Value)}
theorem RW.rd (h : RW w0 w S g m gl L) : RD w0 w S g m := ⟨h.disk, h.up, h.hi, h.bel⟩
theorem RD.below (h : RD w0 w S g m) (hb : Below w.heap.size w w') : RD w0 w' S g m := by
  obtain ⟨⟨O, ⟨A, k, wv, xs, h1⟩, ho⟩, hu, hh, hb0⟩ := h
  exact ⟨⟨O, ⟨A, k, wv, xs, h1.below hb⟩, ho⟩, hu, fun k hk => Nat.lt_of_lt_of_le (hh k hk) hb.size, hb0.trans (hb.mono hb0.size)⟩
theorem RD.fr (h : RD w0 w S g m) {T : Nat → Prop} (hf : Fr T w w') (hn : ∀ k, S k → ¬ T k) (ht : ∀ k, T k → w0.heap.size ≤ k) : RD w0 w' S g m := by
  obtain ⟨⟨O, ⟨A, k, wv, xs, h1⟩, ho⟩, hu, hh, hb⟩ := h
  exact ⟨⟨O, ⟨A, k, wv, xs, h1.fr hf fun q hq => hn q (ho q hq)⟩, ho⟩, hu, fun q hq => Nat.lt_of_lt_of_le (hh q hq) hf.size, hb.trans (hf.below hb.size fun q _ hq => ht q hq)⟩
/-- A new log of it, laid behind other memory. -/
theorem RD.log (h : RD w0 w S g m) (hb : Below w.heap.size w w1) (hr : w1.heap[gl]? = some (.cells (rlcells g ⟨0, 1, [], [], false⟩ (.slice none 0 0) (.slice none 0 0)) 79 (0, 0))) (hgl : w.heap.size ≤ gl) : RW w0 w1 (ext S w w1) g m gl ⟨0, 1, [], [], false⟩ ∧ Fr S w w1 := by
  obtain ⟨⟨O, ⟨A, k, wv, xs, h1⟩, ho⟩, hu, hh, hb0⟩ := h
  have hlt : gl < w1.heap.size := (Array.getElem?_eq_some_iff.1 hr).1
  refine ⟨⟨⟨O, fun k => k = gl, ⟨A, k, wv, xs, h1.below hb⟩, ⟨.slice none 0 0, .slice none 0 0, [], hr, OB.nil _ _, OwnS.nil _ _ _ _, rfl, fun x hx => (by cases hx), rfl, fun k hk => (by cases hk), fun k hk => (by cases hk), fun x hx => (by cases hx)⟩, fun k hk => .inl (ho k hk), fun k hk => .inr ⟨by omega, by omega⟩, fun k hk e => ?_⟩, ext_up0 hu hb0.size, ext_hi hh hb.size, hb0.trans (hb.mono hb0.size)⟩, Fr.of_below hb⟩
  have := hh k (ho k hk)
  omega
theorem RD.gone (h : RD w0 w S g m) : w.cell? ⟨g, 7, none⟩ = some (.bool m.gone) := by
  obtain ⟨O, ⟨A, k, wv, xs, h1⟩, _⟩ := h.d
  exact h1.cell 7
/-- The log with another snapshot. -/
theorem RLogV.snap {v : Value} {text : List UInt8} {w3 : World} (h : RLogV w P gl g L tv rv ws) (hb : Below w.heap.size w w3) (G s : Nat) (ho : OB w3 w.heap.size v text) {W : World} (hW : W = ((w3.setCell ⟨gl, 1, none⟩ (.int .i64 (G : Int))).setCell ⟨gl, 2, none⟩ (.int .i64 (s : Int))).setCell ⟨gl, 3, none⟩ v) :
    RLogAt W (ext P w W) gl g ⟨G, s, text, L.recs, L.dead⟩ ∧ Fr P w W := by
  subst hW
  have hrow := (hb.block _ h.lt).trans h.cells
  have hF := ((Fr.refl (fun q => q = gl) w3).setCell (p := ⟨gl, 1, none⟩) (fun _ => rfl) (.int .i64 (G : Int))).setCell (p := ⟨gl, 2, none⟩) (fun _ => rfl) (.int .i64 (s : Int))
  have hF := hF.setCell (p := ⟨gl, 3, none⟩) (fun _ => rfl) v
  have hc := heap_setCell_same _ gl 3 _ _ v (heap_setCell_same _ gl 2 _ _ (.int .i64 (s : Int)) (heap_setCell_same _ gl 1 _ _ (.int .i64 (G : Int)) hrow))
  have hc' : ((((rlcells g L tv rv).setIfInBounds 1 (.int .i64 (G : Int))).setIfInBounds 2 (.int .i64 (s : Int))).setIfInBounds 3 v) = rlcells g ⟨G, s, text, L.recs, L.dead⟩ v rv := by simp [rlcells]
  rw [hc'] at hc
  have hx2 := OwnS.kept ho hF fun k hk e => by
    subst e
    obtain ⟨cur, hcur⟩ := own_type ho hk
    exact absurd (types_ne hcur hrow) (by decide)
  have hsz := hF.size
  have h3 := h.below hb
  refine ⟨⟨v, rv, ws, hc, OB.mono hx2 (Nat.zero_le _), OwnS.kept h3.recs hF fun k hk e => h3.rne (by rw [← e]; exact hk), h.eq, fun x hx => OwnS.kept (h3.each x hx) hF fun k hk e => h3.xne hx (by rw [← e]; exact hk), .inl h.ownG, fun k hk => ?_, fun k hk => .inl (h.ownR k hk), fun x hx k hk => .inl (h.ownX x hx k hk)⟩, (Fr.of_below (S := P) hb).trans (hF.mono fun q _ e => by subst e; exact h.ownG) fun _ _ h => h⟩
  have := OB.lt ho k hk
  exact .inr ⟨this.1, by omega⟩
/-- What stands behind an append to the records: w: before; wa: memory made; w3: appended. -/
theorem Rpush_facts {wa w3 : World} {v3 : Value} (h : RLogV w P gl g L tv rv ws) (hb : Below w.heap.size w wa) (hgr : wa.grownBy w3 rv.ownBlock) (hat : v3.ownBlock = rv.ownBlock ∨ v3.ownBlock = some wa.heap.size) :
    w3.heap[gl]? = some (.cells (rlcells g L tv rv) 79 (0, 0)) ∧ Fr (fun q => q = gl ∨ rv.ownBlock = some q) w w3 ∧ (v3.ownBlock = rv.ownBlock ∨ ∃ q, v3.ownBlock = some q ∧ w.heap.size ≤ q) := by
  have hg3 := ((Fr.of_grown hgr).block gl (Nat.lt_of_lt_of_le h.lt hb.size) (fun e => h.rne e.symm)).trans ((hb.block gl h.lt).trans h.cells)
  exact ⟨hg3, (Fr.of_below hb).trans (Fr.of_grown hgr) (fun q _ hq => .inr hq.symm), hat.imp id fun e => ⟨_, e, hb.size⟩⟩
/-- .. and behind the store. -/
theorem Rpush_done {wa w3 : World} {v3 : Value} {x : List UInt8} {xv : Value} (h : RLogV w P gl g L tv rv ws) (hb : Below w.heap.size w wa) (hgr : wa.grownBy w3 rv.ownBlock) (hat : v3.ownBlock = rv.ownBlock ∨ v3.ownBlock = some wa.heap.size)
    (hv : OwnS w3 0 28 1 v3 (ws.length + 1) (ws.map (fun x => x.2) ++ [xv])) (hx : OB wa w.heap.size xv x) :
    RLogAt (w3.setCell ⟨gl, 4, none⟩ v3) (ext P w (w3.setCell ⟨gl, 4, none⟩ v3)) gl g (L.with x) ∧ Fr P w (w3.setCell ⟨gl, 4, none⟩ v3) := by
  obtain ⟨h1, h2, h3⟩ := Rpush_facts h hb hgr hat
  have hF1 := (Fr.refl (fun k => k = gl) w3).setCell (p := ⟨gl, 4, none⟩) (fun _ => rfl) v3
  have hF := h2.setCell (p := ⟨gl, 4, none⟩) (fun _ => .inl rfl) v3
  have hc := heap_setCell_same _ gl 4 _ _ v3 h1
  have keep : ∀ (v : Value) (b n : Nat) (e : TypeId) (l : List Value), OwnS w3 b e 1 v n l → e ≠ 79 → OwnS (w3.setCell ⟨gl, 4, none⟩ v3) b e 1 v n l := fun v b n e l ho hne =>
    OwnS.kept ho hF1 fun k hk e => by
      subst e
      obtain ⟨cur, hcur⟩ := own_type ho hk
      exact hne (types_ne hcur h1)
  have hx3 : OB w3 w.heap.size xv x := OwnS.kept hx (Fr.of_grown hgr) fun k hk e => by
    obtain ⟨cur, hcur⟩ := own_type h.recs e.symm
    have := (OB.lt hx k hk).1
    have := (OwnS.lt h.recs k e.symm).2
    omega
  have hxn : ∀ (x : Value) (l : List UInt8), OB w 0 x l → ∀ k, x.ownBlock = some k → ¬ (k = gl ∨ rv.ownBlock = some k) := fun x l hx k hk e => by
    obtain ⟨cur, hcur⟩ := own_type hx hk
    rcases e with rfl | e
    · exact absurd (types_ne hcur h.cells) (by decide)
    · obtain ⟨cur', hc'⟩ := own_type h.recs e
      exact absurd (types_ne hcur hc') (by decide)
  have hx4 := keep _ _ _ _ _ hx3 (by decide)
  refine ⟨⟨tv, v3, ws ++ [(x, xv)], hc, OwnS.kept h.text hF (hxn _ _ h.text), ?_, ?_, fun x hx' => ?_, .inl h.ownG, fun k hk => .inl (h.ownT k hk), fun k hk => ?_, fun x hx' k hk => ?_⟩, hF.mono fun q _ hq => ?_⟩
  · rw [List.length_append, List.map_append]; exact keep _ _ _ _ _ hv (by decide)
  · rw [List.map_append, h.eq]; rfl
  · rcases List.mem_append.1 hx' with hx' | hx'
    · exact OwnS.kept (h.each x hx') hF (hxn _ _ (h.each x hx'))
    · rw [List.mem_singleton.1 hx']
      exact OB.mono hx4 (Nat.zero_le _)
  · rcases h3 with e | ⟨q, e, hq⟩
    · exact .inl (h.ownR k (e.symm.trans hk))
    · refine .inr ⟨?_, (OwnS.lt (keep _ _ _ _ _ hv (by decide)) k hk).2⟩
      rw [e] at hk
      injection hk with hk
      omega
  · rcases List.mem_append.1 hx' with hx' | hx'
    · exact .inl (h.ownX x hx' k hk)
    · rw [List.mem_singleton.1 hx'] at hk
      exact .inr (OB.lt hx4 k hk)
  · rcases hq with rfl | hq
    · exact h.ownG
    · exact h.ownR q hq
/-- The areas that are seen. -/
theorem Seen_D (h : RD w0 w S g m) (hok : m.Ok) (hn : m.waits.length ≤ 1000) (hf : m.Fold) : Calls Tryd.prog 25 #[.pointer (some ⟨g, 0, none⟩)] w fun e w' => ∃ (B : Nat → Option Addr) (d : Nat → Nat), e = .returned (.agg #[.slice (B 0) (m.b 3).length (d 0), .slice (B 1) (m.b 4).length (d 1), .slice (B 2) (m.b 5).length (d 2)]) ∧
    (∀ i, i < 3 → RB w' (B i) (m.b (3 + i)).length (m.b (3 + i)) ∧ (m.b (3 + i)).length ≤ d i ∧ d i ≤ maxLen) ∧ Below w.heap.size w w' := by
  obtain ⟨O, ⟨A, k, wv, xs, h1⟩, _⟩ := h.d
  refine (Seen_X h1 hok hn hf).mono ?_
  rintro e w1 ⟨B0, B1, B2, d0, d1, d2, rfl, o0, o1, o2, -, -, -, hb1⟩
  refine ⟨fun i => if i = 0 then B0 else if i = 1 then B1 else B2, fun i => if i = 0 then d0 else if i = 1 then d1 else d2, rfl, fun i hi => ?_, hb1⟩
  have f : ∀ (A : Option Addr) (l : List UInt8) (c : Nat), OB w1 0 (.slice A l.length c) l → RB w1 A l.length l ∧ l.length ≤ c ∧ c ≤ maxLen := fun A l c ho => by
    obtain ⟨A', c', e, h1, h2, hr⟩ := ho.form
    injection e with e1 _ e3
    subst e1
    subst e3
    exact ⟨hr, h1, h2⟩
  have : i = 0 ∨ i = 1 ∨ i = 2 := by omega
  rcases this with rfl | rfl | rfl
  · exact f _ _ _ o0
  · exact f _ _ _ o1
  · exact f _ _ _ o2
/-- The disk, and a log whose blocks are all new. -/
theorem RD.logs {w2 w3 : World} (h : RD w0 w S g m) (hb : Below w.heap.size w w2) (hb3 : Below w2.heap.size w2 w3) (hl : RLogAt w3 (fun k => w2.heap.size ≤ k) gl g L) : RW w0 w3 (ext S w w3) g m gl L ∧ Fr S w w3 := by
  obtain ⟨⟨O, ⟨A, k, wv, xs, h1⟩, ho⟩, hu, hh, hb0⟩ := h
  obtain ⟨tv, rv, ws, hv⟩ := hl
  have hbb := hb.trans (hb3.mono hb.size)
  refine ⟨⟨⟨O, fun k => w2.heap.size ≤ k ∧ k < w3.heap.size, ⟨A, k, wv, xs, h1.below hbb⟩, ⟨tv, rv, ws, hv.mono fun k hk h => ⟨h, hk⟩⟩, fun k hk => .inl (ho k hk), fun k hk => .inr ⟨Nat.le_trans hb.size hk.1, hk.2⟩, fun k hk hp => ?_⟩, ext_up0 hu hb0.size, ext_hi hh hbb.size, hb0.trans (hbb.mono hb0.size)⟩, Fr.of_below hbb⟩
  have := hh k (ho k hk)
  have := hb.size
  omega
end
end Go.Proofs.YtifjddkgnfanaaaDoor
