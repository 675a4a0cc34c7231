/- The document's log (layer 18): a log in memory, beside its disk. -/
import Derived.Test.YtifjddkgnfanaaaDoorRlE
import Derived.Test.YtifjddkgnfanaaaDoorRdJ
import Derived.Test.YtifjddkgnfanaaaDoorWalG
import Derived.Test.YtifjddkgnfanaaaDoorWalT
import Derived.Test.YtifjddkgnfanaaaDoorPowU
namespace Go.Proofs.YtifjddkgnfanaaaDoor
open Go.RowKit

def rlcells (g : Nat) (L : LM) (tv rv : Value) : Array Value := #[.pointer (some ⟨g, 0, none⟩), .int .i64 (L.gen : Int), .int .i64 (L.slot : Int), tv, rv, .bool L.dead]

/-- Block gl is a log of the disk g; P: the blocks that are its own. -/
structure RLogV (w : World) (P : Nat → Prop) (gl g : Nat) (L : LM) (tv rv : Value) (ws : List (List UInt8 × Value)) : Prop where
  cells : w.heap[gl]? = some (.cells (rlcells g L tv rv) 79 (0, 0))
  text : OB w 0 tv L.text
  recs : OwnS w 0 28 1 rv ws.length (ws.map fun x => x.2)
  eq : ws.map (fun x => x.1) = L.recs
  each : ∀ x ∈ ws, OB w 0 x.2 x.1
  ownG : P gl
  ownT : ∀ k, tv.ownBlock = some k → P k
  ownR : ∀ k, rv.ownBlock = some k → P k
  ownX : ∀ x ∈ ws, ∀ k, x.2.ownBlock = some k → P k
def RLogAt (w : World) (P : Nat → Prop) (gl g : Nat) (L : LM) : Prop := ∃ tv rv ws, RLogV w P gl g L tv rv ws

section
variable {w w' w0 : World} {O P S S' : Nat → Prop} {gl g : Nat} {m m' : DM} {L L' : LM} {tv rv : Value} {ws : List (List UInt8 × Value)} {ea : Nat → Addr}

theorem RLogV.lt (h : RLogV w P gl g L tv rv ws) : gl < w.heap.size := (Array.getElem?_eq_some_iff.1 h.cells).1
theorem RLogV.cell (h : RLogV w P gl g L tv rv ws) (k : Nat) : w.cell? ⟨gl, k, none⟩ = (rlcells g L tv rv)[k]? := cell_of_row _ _ _ _ _ _ h.cells
theorem RLogV.free (h : RLogV w P gl g L tv rv ws) (k : Nat) : w.frozen? ⟨gl, k, none⟩ = false := frozen_of_row _ _ _ _ _ h.cells
theorem RLogV.num (h : RLogV w P gl g L tv rv ws) : ws.length = L.recs.length := by have := congrArg List.length h.eq; simpa using this
theorem RLogV.tne (h : RLogV w P gl g L tv rv ws) : tv.ownBlock ≠ some gl := fun e => by
  obtain ⟨cur, hc⟩ := own_type h.text e
  exact absurd (types_ne hc h.cells) (by decide)
theorem RLogV.rne (h : RLogV w P gl g L tv rv ws) : rv.ownBlock ≠ some gl := fun e => by
  obtain ⟨cur, hc⟩ := own_type h.recs e
  exact absurd (types_ne hc h.cells) (by decide)
theorem RLogV.xne (h : RLogV w P gl g L tv rv ws) {x : List UInt8 × Value} (hx : x ∈ ws) : x.2.ownBlock ≠ some gl := fun e => by
  obtain ⟨cur, hc⟩ := own_type (h.each x hx) e
  exact absurd (types_ne hc h.cells) (by decide)
theorem RLogV.tr (h : RLogV w P gl g L tv rv ws) {k : Nat} (hk : rv.ownBlock = some k) : tv.ownBlock ≠ some k := fun e => by
  obtain ⟨cur, hc⟩ := own_type h.text e
  obtain ⟨cur', hc'⟩ := own_type h.recs hk
  exact absurd (types_ne hc hc') (by decide)
theorem RLogV.xr (h : RLogV w P gl g L tv rv ws) {x : List UInt8 × Value} (hx : x ∈ ws) {k : Nat} (hk : rv.ownBlock = some k) : x.2.ownBlock ≠ some k := fun e => by
  obtain ⟨cur, hc⟩ := own_type (h.each x hx) e
  obtain ⟨cur', hc'⟩ := own_type h.recs hk
  exact absurd (types_ne hc hc') (by decide)
theorem RLogV.mono (h : RLogV w P gl g L tv rv ws) {P' : Nat → Prop} (hp : ∀ k, k < w.heap.size → P k → P' k) : RLogV w P' gl g L tv rv ws :=
  ⟨h.cells, h.text, h.recs, h.eq, h.each, hp _ h.lt h.ownG, fun k hk => hp _ (OB.lt h.text k hk).2 (h.ownT k hk), fun k hk => hp _ (OwnS.lt h.recs k hk).2 (h.ownR k hk), fun x hx k hk => hp _ (OB.lt (h.each x hx) k hk).2 (h.ownX x hx k hk)⟩
/-- Nothing of the log's own has turned. -/
theorem RLogV.fr (h : RLogV w P gl g L tv rv ws) (hf : Fr S w w') (hn : ∀ k, P k → ¬ S k) : RLogV w' P gl g L tv rv ws :=
  ⟨(hf.block _ h.lt (hn _ h.ownG)).trans h.cells, OwnS.kept h.text hf fun k hk => hn k (h.ownT k hk), OwnS.kept h.recs hf fun k hk => hn k (h.ownR k hk), h.eq, fun x hx => OwnS.kept (h.each x hx) hf fun k hk => hn k (h.ownX x hx k hk), h.ownG, h.ownT, h.ownR, h.ownX⟩
theorem RLogV.below (h : RLogV w P gl g L tv rv ws) (hb : Below w.heap.size w w') : RLogV w' P gl g L tv rv ws := h.fr (S := fun _ => False) (Fr.of_below hb) fun _ _ x => x
/-- Only the log's block has turned, and in it neither text nor records. -/
theorem RLogV.turn (h : RLogV w P gl g L tv rv ws) (hf : Fr (fun k => k = gl) w w') (hc : w'.heap[gl]? = some (.cells (rlcells g L' tv rv) 79 (0, 0))) (ht : L'.text = L.text) (hr : L'.recs = L.recs) : RLogV w' P gl g L' tv rv ws :=
  ⟨hc, by rw [ht]; exact OwnS.kept h.text hf fun k hk e => h.tne (by rw [← e]; exact hk), OwnS.kept h.recs hf fun k hk e => h.rne (by rw [← e]; exact hk), by rw [hr]; exact h.eq, fun x hx => OwnS.kept (h.each x hx) hf fun k hk e => h.xne hx (by rw [← e]; exact hk), h.ownG, h.ownT, h.ownR, h.ownX⟩
/-- A disk and a log of it; S: the blocks that are theirs. -/
def RL (w : World) (S : Nat → Prop) (g : Nat) (m : DM) (gl : Nat) (L : LM) : Prop :=
  ∃ O P, RefAt w O g m ∧ RLogAt w P gl g L ∧ (∀ k, O k → S k) ∧ (∀ k, P k → S k) ∧ (∀ k, O k → ¬ P k)
theorem RL.mono (h : RL w S g m gl L) (hs : ∀ k, S k → S' k) : RL w S' g m gl L :=
  let ⟨O, P, h1, h2, h3, h4, h5⟩ := h; ⟨O, P, h1, h2, fun k hk => hs k (h3 k hk), fun k hk => hs k (h4 k hk), h5⟩

/-- .. above a world that stands. -/
structure RW (w0 w : World) (S : Nat → Prop) (g : Nat) (m : DM) (gl : Nat) (L : LM) : Prop where
  dl : RL w S g m gl L
  up : ∀ k, S k → w0.heap.size ≤ k
  hi : ∀ k, S k → k < w.heap.size
  bel : Below w0.heap.size w0 w
/-- What the disk does. -/
theorem RW.useD (h : RW w0 w S g m gl L) : ∃ O, RefAt w O g m ∧ (∀ k, O k → S k) ∧ ∀ w' m', RefAt w' (ext O w w') g m' → Fr O w w' → RW w0 w' (ext S w w') g m' gl L ∧ Fr S w w' := by
  obtain ⟨⟨O, P, h1, ⟨tv, rv, ws, h2⟩, h3, h4, h5⟩, hu, hh, hb⟩ := h
  refine ⟨O, h1, h3, fun w' m' k1 k2 => ?_⟩
  have hsz := k2.size
  have hF : Fr S w w' := k2.mono fun k _ hk => h3 k hk
  refine ⟨⟨⟨ext O w w', P, k1, ⟨tv, rv, ws, h2.fr k2 fun k hp ho => h5 k ho hp⟩, fun k hk => hk.imp (h3 k) id, fun k hk => .inl (h4 k hk), fun k hk hp => ?_⟩, ext_up0 hu hb.size, ext_hi hh hsz, hb.trans (hF.below hb.size fun k _ hk => hu k hk)⟩, hF⟩
  rcases hk with hk | hk
  · exact h5 k hk hp
  · have := hh k (h4 k hp); omega
/-- What the log does. -/
theorem RW.useL (h : RW w0 w S g m gl L) : ∃ P tv rv ws, RLogV w P gl g L tv rv ws ∧ (∀ k, P k → S k) ∧ ∀ w' L', RLogAt w' (ext P w w') gl g L' → Fr P w w' → RW w0 w' (ext S w w') g m gl L' ∧ Fr S w w' := by
  obtain ⟨⟨O, P, ⟨A, k, wv, xs, h1⟩, ⟨tv, rv, ws, h2⟩, h3, h4, h5⟩, hu, hh, hb⟩ := h
  refine ⟨P, tv, rv, ws, h2, h4, fun w' L' k1 k2 => ?_⟩
  have hsz := k2.size
  have hF : Fr S w w' := k2.mono fun k _ hk => h4 k hk
  refine ⟨⟨⟨O, ext P w w', ⟨A, k, wv, xs, h1.fr k2 h5⟩, k1, fun k hk => .inl (h3 k hk), fun k hk => hk.imp (h4 k) id, fun k hk hp => ?_⟩, ext_up0 hu hb.size, ext_hi hh hsz, hb.trans (hF.below hb.size fun k _ hk => hu k hk)⟩, hF⟩
  rcases hp with hp | hp
  · exact h5 k hk hp
  · have := hh k (h3 k hk); omega
theorem RW.then {w'' : World} {m'' : DM} {L'' : LM} {gl' : Nat} (h1 : Fr S w w') (h2 : RW w0 w'' (ext (ext S w w') w' w'') g m'' gl' L'' ∧ Fr (ext S w w') w' w'') : RW w0 w'' (ext S w w'') g m'' gl' L'' ∧ Fr S w w'' :=
  have hx : ∀ k, ext S w w'' k → ext (ext S w w') w' w'' k := fun k hk => hk.elim (fun h => .inl (.inl h)) fun hk => (Nat.lt_or_ge k w'.heap.size).elim (fun h => .inl (.inr ⟨hk.1, h⟩)) fun h => .inr ⟨h, hk.2⟩
  ⟨⟨h2.1.dl.mono fun _ hk => ext_trans h1.size h2.2.size hk, fun k hk => h2.1.up k (hx k hk), fun k hk => h2.1.hi k (hx k hk), h2.1.bel⟩, h1.ext h2.2⟩
theorem RW.same (h : RW w0 w S g m gl L) : RW w0 w (ext S w w) g m gl L ∧ Fr S w w := ⟨⟨h.dl.mono fun _ hk => .inl hk, fun k hk => hk.elim (h.up k) fun hk => absurd hk.1 (by omega), fun k hk => hk.elim (h.hi k) fun hk => hk.2, h.bel⟩, Fr.refl _ _⟩
theorem RW.below (h : RW w0 w S g m gl L) (hb : Below w.heap.size w w') : RW w0 w' S g m gl L := by
  obtain ⟨⟨O, P, ⟨A, k, wv, xs, h1⟩, ⟨tv, rv, ws, h2⟩, h3, h4, h5⟩, hu, hh, hb0⟩ := h
  exact ⟨⟨O, P, ⟨A, k, wv, xs, h1.below hb⟩, ⟨tv, rv, ws, h2.below hb⟩, h3, h4, h5⟩, hu, fun k hk => Nat.lt_of_lt_of_le (hh k hk) hb.size, hb0.trans (hb.mono hb0.size)⟩
/-- Memory made first, then a call. -/
theorem RW.behind {w1 w2 : World} {m' : DM} (hs : w0.heap.size ≤ w.heap.size) (hb : Below w.heap.size w w1) (h : RW w0 w2 (ext S w1 w2) g m' gl L' ∧ Fr S w1 w2) : RW w0 w2 (ext S w w2) g m' gl L' ∧ Fr S w w2 := by
  have hF : Fr S w w2 := (Fr.of_below (S := S) hb).trans h.2 fun _ _ hk => hk
  refine ⟨⟨h.1.dl.mono fun k hk => hk.imp id fun hk => ⟨Nat.le_trans hb.size hk.1, hk.2⟩, fun k hk => hk.elim (fun hk => h.1.up k (.inl hk)) fun hk => Nat.le_trans hs hk.1, fun k hk => hk.elim (fun hk => h.1.hi k (.inl hk)) fun hk => hk.2, h.1.bel⟩, hF⟩
/-- The cells of the log's block, in every world that keeps it. -/
theorem RW.row (h : RW w0 w S g m gl L) : ∃ P tv rv ws, RLogV w P gl g L tv rv ws ∧ ∀ k, P k → S k := by
  obtain ⟨⟨_, P, _, ⟨tv, rv, ws, h2⟩, _, h4, _⟩, _, _, _⟩ := h
  exact ⟨P, tv, rv, ws, h2, h4⟩
theorem RW.disk (h : RW w0 w S g m gl L) : ∃ O, RefAt w O g m ∧ ∀ k, O k → S k := by
  obtain ⟨⟨O, _, h1, _, h3, _⟩, _, _, _⟩ := h
  exact ⟨O, h1, h3⟩
theorem RW.at (h : RW w0 w S g m gl L) : w.cell? ⟨gl, 0, none⟩ = some (.pointer (some ⟨g, 0, none⟩)) ∧ w.cell? ⟨gl, 1, none⟩ = some (.int .i64 (L.gen : Int)) ∧ w.cell? ⟨gl, 2, none⟩ = some (.int .i64 (L.slot : Int)) ∧ w.cell? ⟨gl, 5, none⟩ = some (.bool L.dead) := by
  obtain ⟨P, tv, rv, ws, h2, _⟩ := h.row
  exact ⟨h2.cell 0, h2.cell 1, h2.cell 2, h2.cell 5⟩
theorem RW.fz (h : RW w0 w S g m gl L) (k : Nat) : w.frozen? ⟨gl, k, none⟩ = false := by
  obtain ⟨P, tv, rv, ws, h2, _⟩ := h.row
  exact h2.free k
/-- What turns nothing of theirs. -/
theorem RW.fr (h : RW w0 w S g m gl L) {T : Nat → Prop} (hf : Fr T w w') (hn : ∀ k, S k → ¬ T k) (ht : ∀ k, T k → w0.heap.size ≤ k) : RW w0 w' S g m gl L := by
  obtain ⟨⟨O, P, ⟨A, k, wv, xs, h1⟩, ⟨tv, rv, ws, h2⟩, h3, h4, h5⟩, hu, hh, hb⟩ := h
  exact ⟨⟨O, P, ⟨A, k, wv, xs, h1.fr hf fun q hq => hn q (h3 q hq)⟩, ⟨tv, rv, ws, h2.fr hf fun q hq => hn q (h4 q hq)⟩, h3, h4, h5⟩, hu, fun q hq => Nat.lt_of_lt_of_le (hh q hq) hf.size, hb.trans (hf.below hb.size fun q _ hq => ht q hq)⟩
theorem Free_R (h : RW w0 w S g m gl L) (hok : m.Ok) (hn : m.waits.length ≤ 1000) (hf : m.Fold) : Calls Tryd.prog 26 #[.pointer (some ⟨g, 0, none⟩)] w fun e w' => e = .returned (.int .i64 m.free) ∧ Below w.heap.size w w' := by
  obtain ⟨O, ⟨A, k, wv, xs, h1⟩, _⟩ := h.disk
  exact RFree_any h1 hok hn hf
theorem RW.gne (h : RW w0 w S g m gl L) : gl ≠ g := fun e => by
  obtain ⟨⟨O, P, ⟨A, k, wv, xs, h1⟩, ⟨tv, rv, ws, h2⟩, h3, h4, h5⟩, hu, hh, hb⟩ := h
  subst e
  exact h5 _ h1.ownG h2.ownG
theorem RW.lt (h : RW w0 w S g m gl L) : gl < w.heap.size := by
  obtain ⟨P, tv, rv, ws, h2, _⟩ := h.row
  exact h2.lt
/-- What the disk's calls leave of the log's block. -/
theorem RW.kept (h : RW w0 w S g m gl L) (hf : Fr (fun q => q = g) w w') (k : Nat) : w'.cell? ⟨gl, k, none⟩ = w.cell? ⟨gl, k, none⟩ := by
  obtain ⟨P, tv, rv, ws, h2, _⟩ := h.row
  exact (cell_of_row _ _ _ _ _ _ ((hf.block _ h.lt h.gne).trans h2.cells)).trans (h2.cell k).symm
/-- The log is dead. -/
theorem RW.die (h : RW w0 w S g m gl L) : RW w0 (w.setCell ⟨gl, 5, none⟩ (.bool true)) (ext S w (w.setCell ⟨gl, 5, none⟩ (.bool true))) g m gl { L with dead := true } ∧ Fr S w (w.setCell ⟨gl, 5, none⟩ (.bool true)) := by
  obtain ⟨P, tv, rv, ws, hV, hPS, hU⟩ := h.useL
  have hF := (Fr.refl (fun q => q = gl) w).setCell (p := ⟨gl, 5, none⟩) (fun _ => rfl) (.bool true)
  refine hU _ _ ⟨tv, rv, ws, (hV.turn (L' := { L with dead := true }) hF ?_ rfl rfl).mono (P' := ext P w _) fun k _ hk => Or.inl hk⟩ (hF.mono fun q _ e => by subst e; exact hV.ownG)
  have := heap_setCell_same _ gl 5 _ _ (.bool true) hV.cells
  exact this
theorem Write_R (a : Nat) (ha : a < 3) (at_ : Int) (B : Option Addr) (n kb : Nat) (bs : List UInt8) (h : RW w0 w S g m gl L) (hok : m.Ok) (hn : m.waits.length ≤ 1000) (hf : m.Fold) (h0 : 0 ≤ m.free) (hb : RB w B n bs) (hnb : n ≤ 1048576) :
    Calls Tryd.prog 8 #[.pointer (some ⟨g, 0, none⟩), .int .i64 (a : Int), .int .i64 at_, .slice B n kb] w fun e w' => e = .returned (.int .i64 (m.writeE (a : Int) at_ bs.length : Int)) ∧ RW w0 w' (ext S w w') g (m.write (a : Int) at_ bs) gl L ∧ Fr S w w' ∧ Fr (fun q => q = g) w w' := by
  obtain ⟨O, ⟨A, k, wv, xs, h1⟩, _, hu⟩ := h.useD
  refine (RWrite_in a ha at_ B n kb bs h1 hok hn hf h0 hb hnb).mono ?_
  rintro e w' ⟨rfl, hd', hf⟩
  obtain ⟨k1, k2⟩ := hu _ _ hd' (hf.mono fun q _ e => by subst e; exact h1.ownG)
  exact ⟨rfl, k1, k2, hf⟩
theorem Cut_R (a : Nat) (ha : a < 3) (p : Nat) (h : RW w0 w S g m gl L) (hok : m.Ok) (hn : m.waits.length ≤ 1000) (hf : m.Fold) (hp : p ≤ (m.b (3 + a)).length) :
    Calls Tryd.prog 56 #[.pointer (some ⟨g, 0, none⟩), .int .i64 (a : Int), .int .i64 (p : Int)] w fun e w' => e = .returned (.int .i64 (syE m : Int)) ∧ RW w0 w' (ext S w w') g (m.cut (a : Int) (p : Int)) gl L ∧ Fr S w w' ∧ Fr (fun q => q = g) w w' := by
  obtain ⟨O, ⟨A, k, wv, xs, h1⟩, _, hu⟩ := h.useD
  refine (RCut_in a ha p h1 hok hn hf hp).mono ?_
  rintro e w' ⟨rfl, hd', hf⟩
  obtain ⟨k1, k2⟩ := hu _ _ hd' (hf.mono fun q _ e => by subst e; exact h1.ownG)
  exact ⟨by unfold syE; split <;> rfl, k1, k2, hf⟩
theorem Sync_R (h : RW w0 w S g m gl L) (hok : m.Ok) (hn : m.waits.length ≤ 1000) (hf : m.Fold) :
    Calls Tryd.prog 10 #[.pointer (some ⟨g, 0, none⟩)] w fun e w' => e = .returned (.int .i64 (syE m : Int)) ∧ RW w0 w' (ext S w w') g m.sync gl L ∧ Fr S w w' ∧ Fr (fun q => q = g) w w' := by
  obtain ⟨O, ⟨A, k, wv, xs, h1⟩, _, hu⟩ := h.useD
  refine (RSync_any h1 hok hn hf).mono ?_
  rintro e w' ⟨rfl, hd', hf⟩
  obtain ⟨k1, k2⟩ := hu _ _ hd' (hf.mono fun q _ e => by subst e; exact h1.ownG)
  exact ⟨by unfold syE; split <;> rfl, k1, k2, hf⟩
end
end Go.Proofs.YtifjddkgnfanaaaDoor

/- The document's log (layer 18): end, Room. -/
namespace Go.Proofs.YtifjddkgnfanaaaDoor
open Go.RowKit

section
variable {w w' w0 : World} {S P : Nat → Prop} {gl g : Nat} {m : DM} {L : LM} {tv rv : Value} {ws : List (List UInt8 × Value)}
/-- Where the first j records end. -/
def endJ (ls : List (List UInt8)) (j : Nat) : Nat := endOf (ls.take j)
theorem endJ_succ (ls : List (List UInt8)) (j : Nat) (h : j < ls.length) : endJ ls (j + 1) = endJ ls j + (20 + (ls.getD j []).length) := by
  unfold endJ
  rw [List.take_succ_eq_append_getElem h, endOf_snoc]
  simp [List.getD_eq_getElem?_getD, h]
theorem endJ_le (ls : List (List UInt8)) (j : Nat) : endJ ls j ≤ endOf ls := by
  have h := congrArg endOf (List.take_append_drop j ls)
  unfold endJ
  have e : ∀ a b : List (List UInt8), endOf (a ++ b) = endOf a + endOf b := fun a b => by simp [endOf]
  rw [e] at h
  omega

set_option maxHeartbeats 1000000 in
set_option maxRecDepth 100000 in
theorem REnd_L (h : RLogV w P gl g L tv rv ws) (hL : endOf L.recs ≤ 1048576) : Calls Tryd.prog 52 #[.pointer (some ⟨gl, 0, none⟩)] w fun e w' => e = .returned (.int .i64 (endOf L.recs : Int)) ∧ w = w' := by
  obtain ⟨AR, cR, e4, h1, h2⟩ := h.recs.form
  have c4 : w.cell? ⟨gl, 4, none⟩ = some (.slice AR L.recs.length cR) := by rw [← h.num, ← e4]; exact h.cell 4
  have hmax : L.recs.length ≤ 1000000 := by have := endOf_ge L.recs; omega
  have hrr := h.recs
  rw [e4] at hrr
  have hrb : RBL w AR ws.length (ws.map fun x => x.1) := rbl_of hrr fun x hx => (h.each x hx).sb
  rw [h.eq, h.num] at hrb
  have HR := Lib.hid hrb
  have HE := Lib.hid (endJ_succ L.recs)
  have HLe := Lib.hid (endJ_le L.recs)
  have HF : Hid (endOf L.recs = endJ L.recs L.recs.length) := Lib.hid (by unfold endJ; rw [List.take_length])
  have H0 : Hid (endJ L.recs 0 = 0) := Lib.hid rfl
  have HM := Lib.hid hL
  clear h e4 hrr hrb hL
  generalize endJ L.recs = ej at *
  generalize endOf L.recs = E at *
  generalize L.recs = ls at *
  generalize hn : ls.length = n at *
  clear hn
  go_enter Tryd.func52, Tryd.ntmps52
  go_wp2
  go_loopg [3, 11] n (fun gk s3 s11 wr => ∃ j : Nat, j + gk = n ∧ s11 = .int .i64 (j : Int) ∧ s3 = .int .i64 (ej j : Int) ∧ wr = w)
  case atStart => exact ⟨0, by omega, rfl, by rw [H0.out]; rfl, rfl⟩
  case round =>
    obtain ⟨j, hj, rfl, rfl, rfl⟩ := hrel
    have HJ := Lib.hid hj
    by_cases hlt : j < n
    · obtain ⟨b, o, rfl, hb⟩ := HR.out.2 (by omega)
      obtain ⟨v, c1, A', c', rfl, hc1, hc2, hx⟩ := hb j hlt
      have hE := HE.out j (by have := HR.out.1; omega)
      have hle := HLe.out (j + 1)
      have hm := HM.out
      generalize (ls.getD j []).length = t at *
      have k0 : (0 : Int) ≤ (j : Int) := by omega
      have k1 : (j : Int) < (n : Int) := by omega
      have k2 : (0 : Int) ≤ (ej j : Int) := by omega
      have k3 : (ej j : Int) + (20 + (t : Int)) ≤ 1048576 := by omega
      have HE2 := Lib.hid hE
      have HLT := Lib.hid hlt
      clear hb hx hE hle hm hj hlt hc1 hc2
      go_wp2
      go_roundg (gk - 1)
      case measure => have := HJ.out; have := HLT.out; omega
      case rel =>
        refine ⟨j + 1, by have := HJ.out; have := HLT.out; omega, by go_num, ?_, rfl⟩
        rw [HE2.out]; go_num
    · obtain rfl : j = n := by omega
      have k1 : decide ((j : Int) < (j : Int)) = false := decide_eq_false (by omega)
      clear hj hlt
      go_wp2
      go_ret
      refine ⟨?_, rfl⟩
      show Ending.returned (.int .i64 (ej j : Int)) = _
      rw [HF.out]
theorem End_R (h : RW w0 w S g m gl L) (hL : endOf L.recs ≤ 1048576) : Calls Tryd.prog 52 #[.pointer (some ⟨gl, 0, none⟩)] w fun e w' => e = .returned (.int .i64 (endOf L.recs : Int)) ∧ w = w' := by
  obtain ⟨P, tv, rv, ws, h1, _⟩ := h.row
  exact REnd_L h1 hL

/-- How many bytes the longest record may have. -/
def roomV (F : Int) : Int := if F - 20 < 0 then 0 else if 16384 < F - 20 then 16384 else F - 20
set_option maxHeartbeats 1000000 in
set_option maxRecDepth 100000 in
theorem Room_R (h : RW w0 w S g m gl L) (hok : m.Ok) (hn : m.waits.length ≤ 1000) (hf : m.Fold) (h0 : 0 ≤ m.free) (h1 : m.free ≤ 1048576) : Calls Tryd.prog 43 #[.pointer (some ⟨gl, 0, none⟩)] w fun e w' => e = .returned (.int .i64 (roomV m.free)) ∧ Below w.heap.size w w' := by
  have c0 := h.at.1
  have HF := Lib.hid (Free_R h hok hn hf)
  clear h hok hn hf
  generalize m.free = F at *
  unfold roomV
  by_cases a1 : F - 20 < 0
  · have q1 : decide (F - 20 < 0) = true := decide_eq_true a1
    have q2 : decide (F < 20) = true := decide_eq_true (by omega)
    rw [if_pos a1]
    clear a1
    go_enter Tryd.func43, Tryd.ntmps43
    go_wp2_with (first
      | (go_at_call 26; (with_reducible refine HF.out.mono ?_); rintro e w1 ⟨rfl, hb⟩; have B := Lib.hid hb; clear hb)
      | fail)
    go_ret
    exact ⟨rfl, B.out⟩
  · have q1 : decide (F - 20 < 0) = false := decide_eq_false a1
    have q2 : decide (F < 20) = false := decide_eq_false (by omega)
    rw [if_neg a1]
    by_cases a2 : 16384 < F - 20
    · have q3 : decide (16384 < F - 20) = true := decide_eq_true a2
      rw [if_pos a2]
      clear a1 a2
      go_enter Tryd.func43, Tryd.ntmps43
      go_wp2_with (first
        | (go_at_call 26; (with_reducible refine HF.out.mono ?_); rintro e w1 ⟨rfl, hb⟩; have B := Lib.hid hb; clear hb)
        | fail)
      go_ret
      exact ⟨rfl, B.out⟩
    · have q3 : decide (16384 < F - 20) = false := decide_eq_false a2
      rw [if_neg a2]
      clear a1 a2
      go_enter Tryd.func43, Tryd.ntmps43
      go_wp2_with (first
        | (go_at_call 26; (with_reducible refine HF.out.mono ?_); rintro e w1 ⟨rfl, hb⟩; have B := Lib.hid hb; clear hb)
        | fail)
      go_ret
      exact ⟨rfl, B.out⟩
end
end Go.Proofs.YtifjddkgnfanaaaDoor

/- The document's log (layer 18): Append. -/
namespace Go.Proofs.YtifjddkgnfanaaaDoor
open Go.RowKit

section
variable {w w' w0 : World} {S P : Nat → Prop} {gl g : Nat} {m : DM} {L : LM} {tv rv : Value} {ws : List (List UInt8 × Value)}
theorem RW.made (h : RW w0 w S g m gl L) (hb : Below w.heap.size w w') : RW w0 w' (ext S w w') g m gl L ∧ Fr S w w' := RW.behind h.bel.size hb (h.below hb).same

set_option maxHeartbeats 1000000 in
set_option maxRecDepth 100000 in
theorem appendR_bad (A : Option Addr) (n c : Nat) (text : List UInt8) (h : RW w0 w S g m gl L) (hok : m.Ok) (hw : m.waits.length ≤ 1000) (hf : m.Fold) (hb : RB w A n text) (hr : L.room m text ≠ 0) :
    Calls Tryd.prog 35 #[.pointer (some ⟨gl, 0, none⟩), .slice A n c] w fun e w' => e = .returned (.int .i64 (L.room m text : Int)) ∧ Below w.heap.size w w' := by
  have c5 := h.at.2.2.2
  have c0 := h.at.1
  have HF := Lib.hid (Free_R h hok hw hf)
  have hl := hb.1
  clear h hb hok hw hf
  unfold LM.room at hr ⊢
  cases hd : L.dead with
  | true =>
    rw [if_pos rfl]
    rw [hd] at c5
    go_enter Tryd.func35, Tryd.ntmps35
    go_wp2
    go_ret
    exact ⟨rfl, Below.refl _ _⟩
  | false =>
    rw [hd] at c5 hr
    rw [if_neg (by decide)] at hr ⊢
    by_cases h1 : 16384 < text.length
    · rw [if_pos h1]
      have q1' : decide (16384 < (n : Int)) = true := decide_eq_true (by omega)
      have q1n : decide (16384 < n) = true := decide_eq_true (by omega)
      clear hr h1 hl
      go_enter Tryd.func35, Tryd.ntmps35
      go_wp2
      go_ret
      exact ⟨rfl, Below.refl _ _⟩
    · rw [if_neg h1] at hr ⊢
      by_cases h2 : m.free < 20 + (text.length : Int)
      · rw [if_pos h2]
        have q1' : decide (16384 < (n : Int)) = false := decide_eq_false (by omega)
        have q1n : decide (16384 < n) = false := decide_eq_false (by omega)
        have q2' : decide (m.free < 20 + (n : Int)) = true := decide_eq_true (by omega)
        have n0 : (n : Int) ≤ 16384 := by omega
        clear h1 h2 hr hl
        generalize m.free = F at *
        go_enter Tryd.func35, Tryd.ntmps35
        go_wp2_with (first
          | (go_at_call 26; (with_reducible refine HF.out.mono ?_); rintro e w1 ⟨rfl, hb⟩; have B := Lib.hid hb; clear hb)
          | fail)
        go_ret
        exact ⟨rfl, B.out⟩
      · rw [if_neg h2] at hr
        exact absurd rfl hr

theorem wpList_append_rn {ops : Array Oper} {rest : List Oper} {o : Oper} {a : Act} {w : World} {Q : Exit → Act → World → Prop} (hgd : o.guard = none) (s x : Operand)
    (ho : o.op = .call { callee := .builtin .append, args := #[s, x], argTypes := #[22, 22] })
    {base : Nat} {v : Value} {n : Nat} {ws : List Value} (hown : OwnS w base 28 1 v n ws) (hs : a.eval s = v)
    {xv : Value} {m : Nat} {news : List Value} (hsrc : Src Tryd.prog 1 22 xv m news w) (hx : a.eval x = xv) (hbytes : n + m ≤ 1000000) (hbase : base ≤ w.heap.size)
    (h : ∀ v' w', OwnS w' base 28 1 v' (n + m) (ws ++ news) → w.grownBy w' v.ownBlock → (v'.ownBlock = v.ownBlock ∨ v'.ownBlock = some w.heap.size) → wpList Tryd.prog ops Q rest (a.put o.dst v') w') : wpList Tryd.prog ops Q (o :: rest) a w := by
  obtain ⟨i0, hi, hz0, hz1, hz2⟩ := info_parts4 info_byt
  exact wpList_append_ownS hgd s x 22 22 ho i0 _ 24 Tryd.underlying22 hi hz0 hz1 hz2 rfl (by omega) hs hown xv m news hx hsrc (by unfold maxLen; omega) (by omega) hbase fun v' w' h1 h2 h3 => h v' w' h1 h2 h3
/-- Records as an append's source. -/
theorem src_recs {w : World} {b : Nat} {A : Option Addr} {n c : Nat} {ws : List (List UInt8 × Value)} (h : OwnS w b 28 1 (.slice A n c) n (ws.map fun x => x.2)) (hn : n = ws.length) (hb : ∀ x ∈ ws, ∃ A' n' c', x.2 = .slice A' n' c') : Src Tryd.prog 1 22 (.slice A n c) n (ws.map fun x => x.2) w := by
  have h1 : ∀ u ∈ ws.map (fun x => x.2), u.oneCell' = true := fun u hu => by
    obtain ⟨x, hx, rfl⟩ := List.mem_map.1 hu
    obtain ⟨A', n', c', e⟩ := hb x hx
    rw [e]; rfl
  rcases Nat.eq_zero_or_pos n with h0 | h0
  · have hw : ws = [] := List.eq_nil_of_length_eq_zero (by omega)
    subst hw
    rw [h0]
    cases A with
    | none => exact Src.ofNil w Tryd.underlying22 c
    | some a => exact Src.ofSlice w Tryd.underlying22 a 0 c [] (by simp) (by simp) (by simp)
  · obtain ⟨g, o, cap, e, _, _, hc⟩ := h.cells (by rw [List.length_map]; omega)
    injection e with e1 _ e3
    subst e1; subst e3
    exact Src.ofSlice w Tryd.underlying22 _ _ c _ (by rw [List.length_map, hn]; omega) (fun j u hu => by rw [addr_add]; exact hc j u hu) h1

/-- One record more. -/
theorem RLogV.push {w7 : World} {x : List UInt8} {xv rv' : Value} (h : RLogV w P gl g L tv rv ws) (hb : Below w.heap.size w w7) (hv : OwnS w7 w.heap.size 28 1 rv' (ws.length + 1) (ws.map (fun x => x.2) ++ [xv])) (hx : OB w7 w.heap.size xv x) :
    RLogAt (w7.setCell ⟨gl, 4, none⟩ rv') (ext P w (w7.setCell ⟨gl, 4, none⟩ rv')) gl g (L.with x) ∧ Fr P w (w7.setCell ⟨gl, 4, none⟩ rv') := by
  have hrow := (hb.block _ h.lt).trans h.cells
  have hF := (Fr.refl (fun q => q = gl) w7).setCell (p := ⟨gl, 4, none⟩) (fun _ => rfl) rv'
  have hc := heap_setCell_same _ gl 4 _ _ rv' hrow
  have hlt := h.lt
  have keep : ∀ (v : Value) (b n : Nat) (l : List Value) (e : TypeId), OwnS w7 b e 1 v n l → e ≠ 79 → OwnS (w7.setCell ⟨gl, 4, none⟩ rv') b e 1 v n l := fun v b n l e ho hne =>
    OwnS.kept ho hF fun k hk e => by
      subst e
      obtain ⟨cur, hcur⟩ := own_type ho hk
      exact hne (types_ne hcur hrow)
  have hsz := hF.size
  refine ⟨⟨tv, rv', ws ++ [(x, xv)], hc, keep _ _ _ _ _ (h.text.below hb) (by decide), ?_, ?_, fun y hy => ?_, .inl h.ownG, fun k hk => .inl (h.ownT k hk), fun k hk => ?_, fun y hy k hk => ?_⟩, (Fr.of_below (S := P) hb).trans (hF.mono fun q _ e => by subst e; exact h.ownG) fun _ _ h => h⟩
  · rw [List.length_append, List.map_append]
    exact (keep _ _ _ _ _ hv (by decide)).mono fun _ _ => Nat.zero_le _
  · rw [List.map_append, h.eq]; rfl
  · rcases List.mem_append.1 hy with hy | hy
    · exact keep _ _ _ _ _ ((h.each y hy).below hb) (by decide)
    · rw [List.mem_singleton.1 hy]
      exact OB.mono (keep _ _ _ _ _ hx (by decide)) (Nat.zero_le _)
  · have := OwnS.lt hv k hk
    exact .inr ⟨this.1, by omega⟩
  · rcases List.mem_append.1 hy with hy | hy
    · exact .inl (h.ownX y hy k hk)
    · rw [List.mem_singleton.1 hy] at hk
      have := OB.lt hx k hk
      exact .inr ⟨this.1, by omega⟩

set_option maxHeartbeats 4000000 in
set_option maxRecDepth 100000 in
theorem appendR_good (A : Option Addr) (n c : Nat) (text : List UInt8) (h : RW w0 w S g m gl L) (hok : m.Ok) (hL : L.Ok) (hw : m.waits.length ≤ 900) (hf : m.Fold) (hfr : 0 ≤ m.free) (hb : RB w A n text) (hA : 0 < n → Off S A) (hr : L.room m text = 0) :
    Calls Tryd.prog 35 #[.pointer (some ⟨gl, 0, none⟩), .slice A n c] w fun e w' => e = .returned (.int .i64 (dnE (wrE m 2 (endOf L.recs : Int) (recB L.gen L.recs.length text)) : Int)) ∧ RW w0 w' (ext S w w') g (wrM m 2 (endOf L.recs : Int) (recB L.gen L.recs.length text)) gl (if wrE m 2 (endOf L.recs : Int) (recB L.gen L.recs.length text) = 0 then L.with text else { L with dead := true }) ∧ Fr S w w' := by
  obtain ⟨hd, h1, h2⟩ := room_zero hr
  have hl := hb.1
  have c0 := h.at.1
  have c1 := h.at.2.1
  have c5 := h.at.2.2.2
  rw [hd] at c5
  have HF := Lib.hid (Free_R h hok (by omega) hf)
  have q1' : decide (16384 < (n : Int)) = false := decide_eq_false (by omega)
  have q1n : decide (16384 < n) = false := decide_eq_false (by omega)
  have q2' : decide (m.free < 20 + (n : Int)) = false := decide_eq_false (by omega)
  have n0 : (n : Int) ≤ 16384 := by omega
  have hge := endOf_ge L.recs
  have hL3 := hL.recs
  have hL1 := hL.gen
  obtain ⟨P0, tv0, rv0, ws0, hV0, hP0⟩ := h.row
  have hnum := hV0.num
  obtain ⟨AR, cR, e4, _, _⟩ := hV0.recs.form
  have c4 : w.cell? ⟨gl, 4, none⟩ = some (.slice AR L.recs.length cR) := by rw [← hnum, ← e4]; exact hV0.cell 4
  have HK : Hid (∀ W, Below w.heap.size w W → W.cell? ⟨gl, 1, none⟩ = some (.int .i64 (L.gen : Int)) ∧ W.cell? ⟨gl, 4, none⟩ = some (.slice AR L.recs.length cR) ∧ W.cell? ⟨gl, 0, none⟩ = some (.pointer (some ⟨g, 0, none⟩))) := Lib.hid fun W hW =>
    ⟨Keeps.of_below hW _ _ c1, Keeps.of_below hW _ _ c4, Keeps.of_below hW _ _ c0⟩
  have HR : Hid (∀ W, Below w.heap.size w W → Calls Tryd.prog 55 #[.int .i64 (L.gen : Int), .int .i64 (L.recs.length : Int), .slice A n c] W fun e w' => ∃ A' c', e = .returned (.slice A' (20 + n) c') ∧ OB w' W.heap.size (.slice A' (20 + n) c') (recB L.gen L.recs.length text) ∧ Below W.heap.size W w') := Lib.hid fun W hW =>
    RRecord_any L.gen L.recs.length A n c text W (hb.keep (Keeps.of_below hW)) (by omega) (by omega) (by omega)
  have HEn : Hid (∀ W, Below w.heap.size w W → Calls Tryd.prog 52 #[.pointer (some ⟨gl, 0, none⟩)] W fun e w' => e = .returned (.int .i64 (endOf L.recs : Int)) ∧ W = w') := Lib.hid fun W hW => End_R (h.below hW) hL3
  have HD := Lib.hid h
  have HWr : Hid (∀ W, Below w.heap.size w W → ∀ A' cap, RB W A' (20 + n) (recB L.gen L.recs.length text) → Calls Tryd.prog 8 #[.pointer (some ⟨g, 0, none⟩), .int .i64 2, .int .i64 (endOf L.recs : Int), .slice A' (20 + n) cap] W fun e w' => e = .returned (.int .i64 (m.writeE 2 (endOf L.recs : Int) (recB L.gen L.recs.length text).length : Int)) ∧ RW w0 w' (ext S W w') g (m.write 2 (endOf L.recs : Int) (recB L.gen L.recs.length text)) gl L ∧ Fr S W w' ∧ Fr (fun q => q = g) W w') := Lib.hid fun W hW A' cap hr =>
    Write_R 2 (by decide) _ A' (20 + n) cap _ (h.below hW) hok (by omega) hf hfr hr (by omega)
  have HSy : Hid (∀ W S', RW w0 W S' g (m.write 2 (endOf L.recs : Int) (recB L.gen L.recs.length text)) gl L → Calls Tryd.prog 10 #[.pointer (some ⟨g, 0, none⟩)] W fun e w' => e = .returned (.int .i64 (syE (m.write 2 (endOf L.recs : Int) (recB L.gen L.recs.length text)) : Int)) ∧ RW w0 w' (ext S' W w') g (m.write 2 (endOf L.recs : Int) (recB L.gen L.recs.length text)).sync gl L ∧ Fr S' W w' ∧ Fr (fun q => q = g) W w') := Lib.hid fun W S' hW =>
    Sync_R hW (hok.write _ _ _) (by have := write_waits1 m 2 (endOf L.recs : Int) (recB L.gen L.recs.length text); omega) (hf.write hok _ _ _)
  have HB := Lib.hid hb
  have HA := Lib.hid hA
  have HN : Hid (n ≤ 16384) := Lib.hid (by omega)
  have HLN : Hid (L.recs.length ≤ 1000000) := Lib.hid (by omega)
  have HTL := Lib.hid hl
  have hWE : wrE m 2 (endOf L.recs : Int) (recB L.gen L.recs.length text) = if m.writeE 2 (endOf L.recs : Int) (recB L.gen L.recs.length text).length = 0 then syE (m.write 2 (endOf L.recs : Int) (recB L.gen L.recs.length text)) else m.writeE 2 (endOf L.recs : Int) (recB L.gen L.recs.length text).length := rfl
  have hWM : wrM m 2 (endOf L.recs : Int) (recB L.gen L.recs.length text) = if m.writeE 2 (endOf L.recs : Int) (recB L.gen L.recs.length text).length = 0 then (m.write 2 (endOf L.recs : Int) (recB L.gen L.recs.length text)).sync else m.write 2 (endOf L.recs : Int) (recB L.gen L.recs.length text) := rfl
  rw [hWE, hWM]
  clear h hok hL hb hA hw hr hd h1 h2 hV0 hP0 e4 hnum hge hL3 hL1 hl hf hfr hWE hWM
  generalize m.writeE 2 (endOf L.recs : Int) (recB L.gen L.recs.length text).length = e1 at *
  generalize m.write 2 (endOf L.recs : Int) (recB L.gen L.recs.length text) = m1 at *
  generalize m.free = F at *
  have Bd : Hid (Below w.heap.size w w.drew) := Lib.hid (Below.drew (Below.refl _ _))
  by_cases he : e1 = 0
  · subst he
    rw [if_pos rfl, if_pos rfl]
    have HWr0 : Hid (∀ W, Below w.heap.size w W → ∀ A' cap, RB W A' (20 + n) (recB L.gen L.recs.length text) → Calls Tryd.prog 8 #[.pointer (some ⟨g, 0, none⟩), .int .i64 2, .int .i64 (endOf L.recs : Int), .slice A' (20 + n) cap] W fun e w' => e = .returned (.int .i64 0) ∧ RW w0 w' (ext S W w') g m1 gl L ∧ Fr S W w' ∧ Fr (fun q => q = g) W w') := HWr
    clear HWr
    have HWr := HWr0
    clear HWr0
    generalize m1.sync = m2 at *
    unfold syE at *
    by_cases hdd : m1.dead = true
    · rw [if_pos hdd] at HSy ⊢
      rw [show dnE 25 = 25 from rfl, if_neg (by decide)]
      have HSy0 : Hid (∀ W S', RW w0 W S' g m1 gl L → Calls Tryd.prog 10 #[.pointer (some ⟨g, 0, none⟩)] W fun e w' => e = .returned (.int .i64 25) ∧ RW w0 w' (ext S' W w') g m2 gl L ∧ Fr S' W w' ∧ Fr (fun q => q = g) W w') := HSy
      clear HSy hdd
      go_enter Tryd.func35, Tryd.ntmps35
      go_wp2_with (first
        | (go_at_call 26; (with_reducible refine HF.out.mono ?_); rintro e w1 ⟨rfl, hb⟩; have BF := Lib.hid hb; obtain ⟨g1, g4, g0⟩ := HK.out w1 BF.out; have BD : Hid (Below w.heap.size w w1.drew) := Lib.hid (Below.drew BF.out); clear hb)
        | fail)
      go_region_held3 (fun w' => w'.cell? ⟨gl, 1, none⟩ = some (.int .i64 (L.gen : Int)) ∧ w'.cell? ⟨gl, 4, none⟩ = some (.slice AR L.recs.length cR) ∧ w'.cell? ⟨gl, 0, none⟩ = some (.pointer (some ⟨g, 0, none⟩))) (first | exact ⟨by assumption, by assumption, by assumption⟩ | go_keep)
        (first
          | (go_at_call 52; go_loud ((with_reducible refine (HEn.out w1.drew BD.out).mono ?_); rintro e w2 ⟨rfl, rfl⟩))
          | (go_at_call 55; go_loud ((with_reducible refine (HR.out w1.drew BD.out).mono ?_); rintro e w2 ⟨A2, k2, rfl, ho2, hb2⟩; have B2 : Hid (Below w.heap.size w w2) := Lib.hid (BD.out.trans (hb2.mono BD.out.size)); obtain ⟨x1, x4, x0⟩ := HK.out w2 B2.out; have R2 := Lib.hid (OB.rbB ho2); clear ho2 hb2))
          | (go_at_call 8; go_loud ((with_reducible refine (HWr.out w2 B2.out A2 k2 R2.out).mono ?_); rintro e w3 ⟨rfl, hd3, hf3, hg3⟩; have D3 := Lib.hid hd3; have F3 := Lib.hid hf3; have HB2 := HD.out.below B2.out; have y1 := (HB2.kept hg3 1).trans x1; have y4 := (HB2.kept hg3 4).trans x4; have y0 := (HB2.kept hg3 0).trans x0; have y5 := hd3.at.2.2.2; have z5 := hd3.fz 5; clear hd3 hf3 hg3 HB2))
          | fail)
      all_goals
        go_wp2_with (first
          | (go_at_call 10; go_loud ((with_reducible refine (HSy0.out w3 _ D3.out).mono ?_); rintro e w4 ⟨rfl, hd4, hf4, -⟩; have D4 := Lib.hid hd4; have F4 := Lib.hid hf4; have u5 := hd4.at.2.2.2; have v5 := hd4.fz 5; clear hd4 hf4))
          | fail)
        go_ret
        obtain ⟨D5, F5⟩ := D4.out.die
        exact ⟨rfl, RW.behind HD.out.bel.size B2.out (RW.then F3.out (RW.then F4.out ⟨D5, F5⟩))⟩
    · rw [if_neg hdd] at HSy ⊢
      rw [show dnE 0 = 0 from rfl, if_pos rfl]
      have HSy0 : Hid (∀ W S', RW w0 W S' g m1 gl L → Calls Tryd.prog 10 #[.pointer (some ⟨g, 0, none⟩)] W fun e w' => e = .returned (.int .i64 0) ∧ RW w0 w' (ext S' W w') g m2 gl L ∧ Fr S' W w' ∧ Fr (fun q => q = g) W w') := HSy
      clear HSy hdd
      go_enter Tryd.func35, Tryd.ntmps35
      go_wp2_with (first
        | (go_at_call 26; (with_reducible refine HF.out.mono ?_); rintro e w1 ⟨rfl, hb⟩; have BF := Lib.hid hb; obtain ⟨g1, g4, g0⟩ := HK.out w1 BF.out; have BD : Hid (Below w.heap.size w w1.drew) := Lib.hid (Below.drew BF.out); clear hb)
        | fail)
      go_region_held3 (fun w' => w'.cell? ⟨gl, 1, none⟩ = some (.int .i64 (L.gen : Int)) ∧ w'.cell? ⟨gl, 4, none⟩ = some (.slice AR L.recs.length cR) ∧ w'.cell? ⟨gl, 0, none⟩ = some (.pointer (some ⟨g, 0, none⟩))) (first | exact ⟨by assumption, by assumption, by assumption⟩ | go_keep)
        (first
          | (go_at_call 52; go_loud ((with_reducible refine (HEn.out w1.drew BD.out).mono ?_); rintro e w2 ⟨rfl, rfl⟩))
          | (go_at_call 55; go_loud ((with_reducible refine (HR.out w1.drew BD.out).mono ?_); rintro e w2 ⟨A2, k2, rfl, ho2, hb2⟩; have B2 : Hid (Below w.heap.size w w2) := Lib.hid (BD.out.trans (hb2.mono BD.out.size)); obtain ⟨x1, x4, x0⟩ := HK.out w2 B2.out; have R2 := Lib.hid (OB.rbB ho2); clear ho2 hb2))
          | (go_at_call 8; go_loud ((with_reducible refine (HWr.out w2 B2.out A2 k2 R2.out).mono ?_); rintro e w3 ⟨rfl, hd3, hf3, hg3⟩; have D3 := Lib.hid hd3; have F3 := Lib.hid hf3; have HB2 := HD.out.below B2.out; have y1 := (HB2.kept hg3 1).trans x1; have y4 := (HB2.kept hg3 4).trans x4; have y0 := (HB2.kept hg3 0).trans x0; have y5 := hd3.at.2.2.2; have z5 := hd3.fz 5; clear hd3 hf3 hg3 HB2))
          | fail)
      all_goals
        go_wp2_with (first
          | (go_at_call 10; go_loud ((with_reducible refine (HSy0.out w3 _ D3.out).mono ?_); rintro e w4 ⟨rfl, hd4, hf4, -⟩; have FS4 := RW.behind HD.out.bel.size B2.out (RW.then F3.out ⟨hd4, hf4⟩); have HFS := Lib.hid FS4; have R4 := Lib.hid ((HB.out.keep (Keeps.drewN w 0)).fr0 FS4.2 HA.out); obtain ⟨P, tv, rv, ws, hV, hPS, hU⟩ := FS4.1.useL; have HV := Lib.hid hV; have HU := Lib.hid hU; obtain ⟨AV, cV, eV, -, -⟩ := hV.recs.form; subst eV; have hwn : ws.length ≤ 1000000 := (by rw [hV.num]; exact HLN.out); have cA : w4.cell? ⟨gl, 4, none⟩ = some (.slice AV ws.length cV) := hV.cell 4; have cAo : ∀ o, (w4.alloc o).cell? ⟨gl, 4, none⟩ = some (.slice AV ws.length cV) := (fun o => Keeps.of_below ((Below.refl w4.heap.size w4).alloc (Nat.le_refl _) o) _ _ cA); have HSrc := Lib.hid (fun o => src_recs (hV.recs.below ((Below.refl w4.heap.size w4).alloc (Nat.le_refl _) o)) rfl fun x hx => by obtain ⟨A', c', e, _⟩ := (hV.each x hx).form; exact ⟨_, _, _, e⟩); clear hV hPS hU FS4 hd4 hf4))
          | (at_builtin; go_loud (refine wpList_append_rn rfl (.tmp 53) (.tmp 57) (by rfl) (own_empty (w := w4.alloc (.cells #[] 28)) (q := w4.heap.size) (base := w4.heap.size) (heap_alloc_new w4 _) (Nat.le_refl _)) (by rfl) (HSrc.out _) (by rfl) (by omega) (by simp) ?_; intro v5 w5 hown5 hgr5 hat5; rw [Nat.zero_add, List.nil_append] at hown5; obtain ⟨A5, c5, e5, -, -⟩ := OwnS.form hown5; subst e5; have O5 := Lib.hid hown5; have B5 : Hid (Below w4.heap.size w4 w5) := Lib.hid (grown_new ((Below.refl _ w4).alloc (Nat.le_refl _) _) hgr5 (Nat.le_refl _)); clear hown5 hgr5 hat5))
          | (at_builtin; go_loud (refine wpList_append_b rfl (.tmp 59) (.tmp 60) 28 (by rfl) (own_emptyB (w := w5.alloc (.cells #[] 5)) (q := w5.heap.size) (base := w5.heap.size) (heap_alloc_new w5 _) (Nat.le_refl _)) (by rfl) (RB.src Tryd.underlying28 (c := c) ((R4.out.keep (Keeps.of_below B5.out)).keep (Keeps.of_below ((Below.refl _ w5).alloc (Nat.le_refl _) _)))) (by rfl) (by have := HTL.out; have := HN.out; simp; omega) (by simp) ?_; intro v6 w6 hown6 hgr6 hat6; rw [List.nil_append] at hown6; obtain ⟨A6, c6, e6, -, -, -⟩ := hown6.form; subst e6; have O6 := Lib.hid (OB.mono hown6 B5.out.size); have G6 := grown_new ((Below.refl _ w5).alloc (Nat.le_refl _) _) hgr6 (Nat.le_refl _); have O56 := Lib.hid (O5.out.below G6); have B6 := Lib.hid (B5.out.trans (G6.mono B5.out.size)); clear hown6 hgr6 hat6 G6))
          | (at_builtin; go_loud (refine wpList_append_r rfl (.tmp 58) (.tmp 62) (by rfl) (O56.out.alloc _) (by rfl) (Src.one w6 (w6.alloc (.cells #[.slice A6 text.length c6] 28)) A6 text.length c6 1 (fun _ _ h => h)) (by rfl) (by omega) (by have := B6.out.size; simp; omega) ?_; intro v7 w7 hown7 hgr7 hat7; obtain ⟨A7, c7, e7, -, -⟩ := OwnS.form hown7; subst e7; have O7 := Lib.hid hown7; have B7 : Hid (Below w4.heap.size w4 w7) := Lib.hid ((B6.out.alloc B6.out.size _).grown hgr7 (by have := B6.out.size; simp; omega) fun k hk => (OwnS.lt O56.out k hk).1); have O67 : Hid (OB w7 w4.heap.size (.slice A6 text.length c6) text) := Lib.hid (OwnS.kept (O6.out.alloc _) (Fr.of_grown hgr7) fun q hq e => by obtain ⟨cur, hcur⟩ := own_type O6.out hq; obtain ⟨cur', hcur'⟩ := own_type O56.out e.symm; exact absurd (types_ne hcur hcur') (by decide)); have k7 := Keeps.of_below B7.out _ _ cA; have f7 : w7.frozen? ⟨gl, 4, none⟩ = false := frozen_of_row _ _ _ _ _ ((B7.out.block _ HV.out.lt).trans HV.out.cells); clear hown7 hgr7 hat7))
          | fail)
        go_ret
        obtain ⟨D9, F9⟩ := HV.out.push B7.out O7.out O67.out
        obtain ⟨D8, F8⟩ := HU.out _ _ D9 F9
        exact ⟨rfl, RW.then HFS.out.2 ⟨D8, F8⟩⟩
  · rw [if_neg he, if_neg he, if_neg he, show dnE e1 = 25 from if_neg he]
    have p1 : ((e1 : Int) == 0) = false := beq_eq_false_iff_ne.2 (by omega)
    have p2 : ((e1 : Int) != 0) = true := by rw [bne_iff_ne]; omega
    generalize (e1 : Int) = v1 at *
    clear he
    go_enter Tryd.func35, Tryd.ntmps35
    go_wp2_with (first
      | (go_at_call 26; (with_reducible refine HF.out.mono ?_); rintro e w1 ⟨rfl, hb⟩; have BF := Lib.hid hb; obtain ⟨g1, g4, g0⟩ := HK.out w1 BF.out; have BD : Hid (Below w.heap.size w w1.drew) := Lib.hid (Below.drew BF.out); clear hb)
      | fail)
    go_region_held3 (fun w' => w'.cell? ⟨gl, 1, none⟩ = some (.int .i64 (L.gen : Int)) ∧ w'.cell? ⟨gl, 4, none⟩ = some (.slice AR L.recs.length cR) ∧ w'.cell? ⟨gl, 0, none⟩ = some (.pointer (some ⟨g, 0, none⟩))) (first | exact ⟨by assumption, by assumption, by assumption⟩ | go_keep)
      (first
        | (go_at_call 52; go_loud ((with_reducible refine (HEn.out w1.drew BD.out).mono ?_); rintro e w2 ⟨rfl, rfl⟩))
        | (go_at_call 55; go_loud ((with_reducible refine (HR.out w1.drew BD.out).mono ?_); rintro e w2 ⟨A2, k2, rfl, ho2, hb2⟩; have B2 : Hid (Below w.heap.size w w2) := Lib.hid (BD.out.trans (hb2.mono BD.out.size)); obtain ⟨x1, x4, x0⟩ := HK.out w2 B2.out; have R2 := Lib.hid (OB.rbB ho2); clear ho2 hb2))
        | (go_at_call 8; go_loud ((with_reducible refine (HWr.out w2 B2.out A2 k2 R2.out).mono ?_); rintro e w3 ⟨rfl, hd3, hf3, hg3⟩; have D3 := Lib.hid hd3; have F3 := Lib.hid hf3; have HB2 := HD.out.below B2.out; have y1 := (HB2.kept hg3 1).trans x1; have y4 := (HB2.kept hg3 4).trans x4; have y0 := (HB2.kept hg3 0).trans x0; have y5 := hd3.at.2.2.2; have z5 := hd3.fz 5; clear hd3 hf3 hg3 HB2))
        | fail)
    all_goals
      go_wp2
      go_ret
      obtain ⟨D4, F4⟩ := D3.out.die
      exact ⟨rfl, RW.behind HD.out.bel.size B2.out (RW.then F3.out ⟨D4, F4⟩)⟩

theorem Append_R (A : Option Addr) (n c : Nat) (text : List UInt8) (h : RW w0 w S g m gl L) (hok : m.Ok) (hL : L.Ok) (hw : m.waits.length ≤ 900) (hf : m.Fold) (hfr : 0 ≤ m.free) (hb : RB w A n text) (hA : 0 < n → Off S A) :
    Calls Tryd.prog 35 #[.pointer (some ⟨gl, 0, none⟩), .slice A n c] w fun e w' => e = .returned (.int .i64 (L.appE m text : Int)) ∧ RW w0 w' (ext S w w') g (L.appM m text) gl (L.app m text) ∧ Fr S w w' := by
  unfold LM.appE LM.appM LM.app
  by_cases hr : L.room m text = 0
  · rw [if_pos hr, if_pos hr, if_pos hr]
    exact appendR_good A n c text h hok hL hw hf hfr hb hA hr
  · rw [if_neg hr, if_neg hr, if_neg hr]
    refine (appendR_bad A n c text h hok (by omega) hf hb hr).mono ?_
    rintro e w' ⟨rfl, hb'⟩
    exact ⟨rfl, h.made hb'⟩
end
end Go.Proofs.YtifjddkgnfanaaaDoor

/- The document's log (layer 18), in plain words: the room that is free. -/
namespace Go.Proofs.YtifjddkgnfanaaaDoor

section
variable {m : DM}
theorem free_unit (m : DM) : m.unit.free = m.free := by
  unfold DM.free DM.unit
  split
  · rfl
  · split <;> rfl
theorem free_sync (m : DM) : m.sync.free = m.free := by
  unfold DM.sync
  split
  · exact free_unit m
  · rw [show m.unit.flush.free = m.unit.free from rfl, free_unit]
theorem free_wait (m : DM) (c : DChg) (hc : c.area < 3) : (m.wait c).free = m.free + ((m.b (3 + c.area)).length : Int) - ((doB (m.b (3 + c.area)) c).length : Int) := by
  have h : c.area = 0 ∨ c.area = 1 ∨ c.area = 2 := by omega
  unfold DM.free DM.wait
  dsimp only
  rcases h with h | h | h <;> rw [h] <;> simp only [updB] <;> simp <;> omega
theorem write_free0 (h0 : 0 ≤ m.free) (a : Nat) (at_ : Int) (bs : List UInt8) : 0 ≤ (m.write (a : Int) at_ bs).free := by
  unfold DM.write
  split
  · rename_i he
    unfold DM.writeE at he
    split at he
    · cases he
    rename_i h1
    split at he
    · cases he
    rename_i h2
    rw [Int.toNat_natCast] at *
    rw [free_wait _ _ (by show a < 3; omega), free_unit, m.unit_b]
    show 0 ≤ m.free + ((m.b (3 + a)).length : Int) - ((doB (m.b (3 + a)) ⟨a, at_.toNat, bs, false⟩).length : Int)
    have := doB_length (m.b (3 + a)) ⟨a, at_.toNat, bs, false⟩
    dsimp only at this
    omega
  · split
    · rw [free_unit]; exact h0
    · exact h0
theorem cut_free0 (h0 : 0 ≤ m.free) (a : Nat) (at_ : Int) : 0 ≤ (m.cut (a : Int) at_).free := by
  unfold DM.cut
  split
  · rename_i he
    unfold DM.cutE at he
    split at he
    · cases he
    rename_i h1
    rw [Int.toNat_natCast] at *
    rw [free_wait _ _ (by show a < 3; omega), free_unit, m.unit_b]
    show 0 ≤ m.free + ((m.b (3 + a)).length : Int) - ((doB (m.b (3 + a)) ⟨a, at_.toNat, [], true⟩).length : Int)
    have : (doB (m.b (3 + a)) ⟨a, at_.toNat, [], true⟩).length ≤ (m.b (3 + a)).length := by
      unfold doB
      rw [if_pos rfl, List.length_take]
      omega
    omega
  · split
    · rw [free_unit]; exact h0
    · exact h0
theorem wrM_free0 (h0 : 0 ≤ m.free) (a : Nat) (at_ : Int) (bs : List UInt8) : 0 ≤ (wrM m (a : Int) at_ bs).free := by
  unfold wrM
  split
  · rw [free_sync]; exact write_free0 h0 a at_ bs
  · exact write_free0 h0 a at_ bs
theorem clM_free0 (h0 : 0 ≤ m.free) (a : Nat) : 0 ≤ (clM m (a : Int)).free := by
  unfold clM
  split
  · rw [free_sync]; exact cut_free0 h0 a 0
  · exact cut_free0 h0 a 0
end
end Go.Proofs.YtifjddkgnfanaaaDoor

/- The document's log (layer 18): Compact, refusals. -/
namespace Go.Proofs.YtifjddkgnfanaaaDoor
open Go.RowKit

section
variable {w w' w0 : World} {S P : Nat → Prop} {gl g : Nat} {m : DM} {L : LM} {tv rv : Value} {ws : List (List UInt8 × Value)}
theorem Seen_R (h : RW w0 w S g m gl L) (hok : m.Ok) (hn : m.waits.length ≤ 1000) (hf : m.Fold) : Calls Tryd.prog 25 #[.pointer (some ⟨g, 0, none⟩)] w fun e w' => ∃ (B0 B1 B2 : Option Addr) (d0 d1 d2 : Nat), e = .returned (.agg #[.slice B0 (m.b 3).length d0, .slice B1 (m.b 4).length d1, .slice B2 (m.b 5).length d2]) ∧ Below w.heap.size w w' := by
  obtain ⟨O, ⟨A, k, wv, xs, h1⟩, _⟩ := h.disk
  refine (Seen_X h1 hok hn hf).mono ?_
  rintro e w1 ⟨B0, B1, B2, d0, d1, d2, rfl, -, -, -, -, -, -, hb1⟩
  exact ⟨B0, B1, B2, d0, d1, d2, rfl, hb1⟩

set_option maxHeartbeats 2000000 in
set_option maxRecDepth 100000 in
theorem compactR_bad (A : Option Addr) (n c : Nat) (text : List UInt8) (h : RW w0 w S g m gl L) (hok : m.Ok) (hL : L.Ok) (hw : m.waits.length ≤ 1000) (hf : m.Fold) (hfr : 0 ≤ m.free) (hb : RB w A n text) (hn : n ≤ 1000000) (hr : L.space m text ≠ 0) :
    Calls Tryd.prog 37 #[.pointer (some ⟨gl, 0, none⟩), .slice A n c] w fun e w' => e = .returned (.int .i64 (L.space m text : Int)) ∧ Below w.heap.size w w' := by
  have c5 := h.at.2.2.2
  have c2 := h.at.2.2.1
  have c1 := h.at.2.1
  have c0 := h.at.1
  have hs := hL.slot
  have hg := hL.gen
  have HF := Lib.hid (fun W (hW : Below w.heap.size w W) => Free_R (h.below hW) hok hw hf)
  have HS := Lib.hid (fun W (hW : Below w.heap.size w W) => Seen_R (h.below hW) hok hw hf)
  have HK : Hid (∀ W, Below w.heap.size w W → W.cell? ⟨gl, 0, none⟩ = some (.pointer (some ⟨g, 0, none⟩)) ∧ W.cell? ⟨gl, 1, none⟩ = some (.int .i64 (L.gen : Int))) := Lib.hid fun W hW => ⟨Keeps.of_below hW _ _ c0, Keeps.of_below hW _ _ c1⟩
  have hl := hb.1
  have hok5 := hok.len (3 + (1 - L.slot)) (by omega)
  have hroom := hok.room1
  have hfree : m.free ≤ 1048576 := by unfold DM.free; omega
  obtain ⟨to, hto⟩ : ∃ to, to = 1 - L.slot := ⟨_, rfl⟩
  have ht2 : to < 3 := by omega
  have hti : (1 : Int) - (L.slot : Int) = (to : Int) := by omega
  unfold LM.space at hr ⊢
  rw [← hto] at hr hok5 ⊢
  obtain ⟨l, hll⟩ : ∃ l, l = (m.b (3 + to)).length := ⟨_, rfl⟩
  obtain ⟨l3, hl3⟩ : ∃ l, l = (m.b 3).length := ⟨_, rfl⟩
  obtain ⟨l4, hl4⟩ : ∃ l, l = (m.b 4).length := ⟨_, rfl⟩
  obtain ⟨l5, hl5⟩ : ∃ l, l = (m.b 5).length := ⟨_, rfl⟩
  have HL : Hid ((to = 0 → l = l3) ∧ (to = 1 → l = l4) ∧ (to = 2 → l = l5)) := Lib.hid ⟨fun e => by subst e; rw [hll, hl3], fun e => by subst e; rw [hll, hl4], fun e => by subst e; rw [hll, hl5]⟩
  rw [← hl3, ← hl4, ← hl5] at HS
  rw [← hll] at hr hok5 ⊢
  clear h hb hok hw hf hll hl3 hl4 hl5 hto hL
  generalize m.free = F at *
  cases hd : L.dead with
  | true =>
    rw [if_pos rfl]
    rw [hd] at c5
    clear hr
    go_enter Tryd.func37, Tryd.ntmps37
    go_wp2
    go_ret
    exact ⟨rfl, Below.refl _ _⟩
  | false =>
    rw [hd] at c5 hr
    rw [if_neg (by decide)] at hr ⊢
    by_cases h1 : 2147483647 ≤ L.gen
    · rw [if_pos (.inl h1)]
      have q1 : decide (2147483647 ≤ (L.gen : Int)) = true := decide_eq_true (by omega)
      have q1n : decide (2147483647 ≤ L.gen) = true := decide_eq_true h1
      generalize L.gen = G at *
      generalize L.slot = sl at *
      clear hr h1
      go_enter Tryd.func37, Tryd.ntmps37
      go_wp2
      go_quiet (fail)
      go_wp2
      go_ret
      exact ⟨rfl, below_drewN (Below.refl _ _) _⟩
    · have q1 : decide (2147483647 ≤ (L.gen : Int)) = false := decide_eq_false (by omega)
      have q1n : decide (2147483647 ≤ L.gen) = false := decide_eq_false h1
      by_cases h2 : F < 16 + (text.length : Int) - (l : Int)
      · rw [if_pos (.inr h2)]
        have q2 : decide (F < 16 + (n : Int) - (l : Int)) = true := decide_eq_true (by omega)
        have n0 : (n : Int) ≤ 1000000 := by omega
        have l0 : (l : Int) ≤ 1048576 := by omega
        have s0 : IntKind.i64.wrap (16 + (n : Int)) = 16 + (n : Int) := IntWalk.i64_in _ (by omega)
        have s1 : IntKind.i64.wrap (16 + (n : Int) - (l : Int)) = 16 + (n : Int) - (l : Int) := IntWalk.i64_in _ (by omega)
        have HT := Lib.hid ht2
        generalize L.gen = G at *
        generalize L.slot = sl at *
        clear hr h1 h2 hl ht2
        go_enter Tryd.func37, Tryd.ntmps37
        go_wp2
        have Bd : Hid (Below w.heap.size w w.drew) := Lib.hid (Below.drew (Below.refl _ _))
        go_region_held3 (fun w' => w'.cell? ⟨gl, 0, none⟩ = some (.pointer (some ⟨g, 0, none⟩)) ∧ w'.cell? ⟨gl, 1, none⟩ = some (.int .i64 (G : Int))) (first | exact ⟨by assumption, by assumption⟩ | go_keep)
          (first
            | (go_at_call 25; go_loud ((with_reducible refine (HS.out w.drew Bd.out).mono ?_); rintro e w1 ⟨B0, B1, B2, d0, d1, d2, rfl, hb1⟩; have B1' : Hid (Below w.heap.size w w1) := Lib.hid (Bd.out.trans hb1); obtain ⟨x0, x1⟩ := HK.out w1 B1'.out; obtain ⟨Ba, da, hix⟩ := run_index3 B0 B1 B2 d0 d1 d2 l3 l4 l5 l to HT.out HL.out.1 HL.out.2.1 HL.out.2.2; clear hb1))
            | (go_at_call 26; go_loud ((with_reducible refine (HF.out w1 B1'.out).mono ?_); rintro e w2 ⟨rfl, hb2⟩; have B2' : Hid (Below w.heap.size w w2) := Lib.hid (B1'.out.trans (hb2.mono B1'.out.size)); obtain ⟨y0, y1⟩ := HK.out w2 B2'.out; clear hb2))
            | fail)
        all_goals
          go_wp2
          go_ret
          exact ⟨rfl, B2'.out⟩
      · exact absurd (if_neg (by rintro (h | h); exact h1 h; exact h2 h)) hr
end
end Go.Proofs.YtifjddkgnfanaaaDoor
