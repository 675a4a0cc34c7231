/- keys.Ring: Add. -/
import Derived.Test.YtlfeofakggkebaaDoorRing
import Derived.Test.YtlfeofakggkebaaDoorIds
import Derived.Test.YtlfeofakggkebaaDoorErrsL
import Derived.Deep.RegionHeld3
import Derived.Deep.RegionLaw
import Derived.Deep.MidRow
import Derived.Maps.OwnOps
namespace Go.Proofs.YtlfeofakggkebaaDoor
open Go.RowKit Go.Instr

theorem RB.range {w : World} {b o n : Nat} {l : List UInt8} (h : RB w (some ⟨b, o, none⟩) n l) : w.rangeAt b o (bcells l) := by
  intro j v hv
  have hj : j < l.length := by
    rcases Nat.lt_or_ge j l.length with h' | h'
    · exact h'
    · rw [List.getElem?_eq_none (by rw [bcells_length]; exact h')] at hv; cases hv
  have hn := h.1
  obtain ⟨b', o', e, hc⟩ := h.2 (by omega)
  injection e with e
  injection e with e1 e2
  subst e1; subst e2
  rw [hc j (by omega), ← hv, bcells_get hj]

/-- Keys as a map's values. -/
def kv (ks : List (ByteArray × List UInt8)) : List (ByteArray × Value) := ks.map fun x => (x.1, .agg (bcells x.2).toArray)
def findK (id : ByteArray) : List (ByteArray × List UInt8) → Option (List UInt8)
  | [] => none
  | x :: l => if (id == x.1) = true then some x.2 else findK id l
theorem lookI_kv (id : ByteArray) : ∀ (ks : List (ByteArray × List UInt8)) (i : Nat), (lookI id (kv ks) i).map (·.2) = (findK id ks).map fun k => .agg (bcells k).toArray := by
  intro ks
  induction ks with
  | nil => intro i; rfl
  | cons x ks ih =>
    intro i
    by_cases c : (id == x.1) = true
    · have e1 : lookI id (kv (x :: ks)) i = some (i, .agg (bcells x.2).toArray) := if_pos c
      have e2 : findK id (x :: ks) = some x.2 := if_pos c
      rw [e1, e2]
      rfl
    · have e1 : lookI id (kv (x :: ks)) i = lookI id (kv ks) (i + 1) := if_neg c
      have e2 : findK id (x :: ks) = findK id ks := if_neg c
      rw [e1, e2, ih]

/-- A ring that a call made. -/
structure RG (w0 w : World) (g : Nat) (ks : List (ByteArray × List UInt8)) (es : List (ByteArray × ByteArray)) : Prop where
  ring : ∃ a b, Ring w g a b (kv ks) es ∧ w0.heap.size ≤ g ∧ w0.heap.size ≤ a ∧ w0.heap.size ≤ b
  len : ∀ x ∈ ks, x.2.length = 32
  bel : Below w0.heap.size w0 w
section
variable {w0 w w' : World} {g a b : Nat} {ks : List (ByteArray × List UInt8)} {es : List (ByteArray × ByteArray)}
theorem SM.lt {l : List (ByteArray × Value)} (h : SM w a l) : a < w.heap.size := let ⟨_, _, h, _⟩ := h; (Array.getElem?_eq_some_iff.1 h).1
theorem EM.lt {l : List (ByteArray × ByteArray)} (h : EM w b l) : b < w.heap.size := let ⟨_, _, h, _⟩ := h; (Array.getElem?_eq_some_iff.1 h).1
theorem SM.keepB {l : List (ByteArray × Value)} (h : SM w a l) (e : w'.heap[a]? = w.heap[a]?) : SM w' a l := let ⟨x, y, h1, h2⟩ := h; ⟨x, y, e.trans h1, h2⟩
theorem EM.keepB {l : List (ByteArray × ByteArray)} (h : EM w b l) (e : w'.heap[b]? = w.heap[b]?) : EM w' b l := let ⟨x, y, h1, h2⟩ := h; ⟨x, y, e.trans h1, h2⟩
theorem SM.ne {l : List (ByteArray × Value)} {cs : Array Value} {T : TypeId} {fr : Nat × Nat} (h : SM w a l) (k : w.heap[g]? = some (.cells cs T fr)) : g ≠ a := by
  rintro rfl
  obtain ⟨_, _, h, _⟩ := h
  rw [h] at k
  cases k
theorem EM.ne {l : List (ByteArray × ByteArray)} {cs : Array Value} {T : TypeId} {fr : Nat × Nat} (h : EM w b l) (k : w.heap[g]? = some (.cells cs T fr)) : g ≠ b := by
  rintro rfl
  obtain ⟨_, _, h, _⟩ := h
  rw [h] at k
  cases k
theorem Ring.lt {kl : List (ByteArray × Value)} (h : Ring w g a b kl es) : g < w.heap.size := (Array.getElem?_eq_some_iff.1 h.row).1
theorem Ring.below {kl : List (ByteArray × Value)} (h : Ring w g a b kl es) (hb : Below w.heap.size w w') : Ring w' g a b kl es :=
  ⟨(hb.block g h.lt).trans h.row, h.keys.keepB (hb.block a h.keys.lt), h.ents.keepB (hb.block b h.ents.lt), h.ab⟩
theorem RG.below (h : RG w0 w g ks es) (hb : Below w.heap.size w w') : RG w0 w' g ks es := by
  obtain ⟨⟨a, b, hr, h1, h2, h3⟩, h4, h5⟩ := h
  exact ⟨⟨a, b, hr.below hb, h1, h2, h3⟩, h4, h5.trans (hb.mono h5.size)⟩
theorem RG.drewN (h : RG w0 w g ks es) (n : Nat) : RG w0 (w.drewN n) g ks es := h.below (below_drewN (Below.refl _ _) n)

theorem New_G (hb : Below w0.heap.size w0 w) : Calls Tryd.prog 16 #[] w fun e w' => e = .returned (.pointer (some ⟨w.heap.size + 2, 0, none⟩)) ∧ RG w0 w' (w.heap.size + 2) [] [] ∧ Below w.heap.size w w' := by
  refine (KNew_any w).mono ?_
  rintro e w' ⟨rfl, hr, hb'⟩
  have := hb.size
  exact ⟨rfl, ⟨⟨_, _, hr, by omega, by omega, by omega⟩, fun x hx => (by cases hx), hb.trans (hb'.mono hb.size)⟩, hb'⟩
end

/-- A still region's next operation, by what its run is. -/
theorem still_run {P : Program} {ops : Array Oper} {w : World} {Q : Act → Prop} {a : Act} {o : Oper} {rest : List Oper} (hgd : o.guard = none) (v : Value) (hr : (execOp a.eval o).run P w = .ok (.value v) w) (h : wpStill P ops w Q rest (a.put o.dst v)) : wpStill P ops w Q (o :: rest) a := by
  refine wpStill_step fun K hK => ?_
  have hw : Region.wanted o (yielded ops a.tmps) = true := by simp [Region.wanted, hgd]
  rw [if_pos hw]
  unfold Oper.still
  rw [hr]
  exact ⟨rfl, hK _ h⟩
theorem run_load_op {P : Program} {w : World} {a : Act} {o : Oper} (ty : TypeId) (x : Operand) (ho : o.op = .load ty x) {p v : Value} (hx : a.eval x = p) (h : (Instr.loadAt ty p).run P w = .ok v w) : (execOp a.eval o).run P w = .ok (.value v) w := by
  simp [execOp, ho, hx, h, Result.andThen]
theorem cell_map {w : World} {b o : Nat} {es : Array MapEntry} {k : Nat} (h : w.heap[b]? = some (.map es k)) : w.cell? ⟨b, o, none⟩ = none := by
  unfold World.cell?
  simp [h]
/-- All rows that w has stand in w' as they stood. -/
def KB (w w' : World) : Prop := ∀ (k : Nat) (cs : Array Value) (T : TypeId) (fr : Nat × Nat), w.heap[k]? = some (Obj.cells cs T fr) → w'.heap[k]? = some (Obj.cells cs T fr)
theorem KB.trans {a b c : World} (h : KB a b) (k : KB b c) : KB a c := fun i cs T fr x => k i cs T fr (h i cs T fr x)
theorem KB.of_below {w w' : World} (h : Below w.heap.size w w') : KB w w' := fun i _ _ _ x => (h.block i (Array.getElem?_eq_some_iff.1 x).1).trans x
theorem KB.drew (w : World) : KB w w.drew := fun _ _ _ _ h => h
theorem KB.keeps {w w' : World} (h : KB w w') : Keeps w w' := by
  intro p v hv
  unfold World.cell? at hv ⊢
  split at hv
  · rename_i cs T fr hb
    rw [h _ _ _ _ hb]
    exact hv
  · cases hv
theorem KB.of_map {w w' : World} {b : Nat} (hf : Fr (fun i => i = b) w w') {es : Array MapEntry} {k : Nat} (h : w.heap[b]? = some (.map es k)) : KB w w' := by
  intro i cs T fr hi
  by_cases e : i = b
  · rw [e, h] at hi
    cases hi
  · exact (hf.block i (Array.getElem?_eq_some_iff.1 hi).1 e).trans hi
theorem arrayAt_32 (ad : Addr) (c : Nat) (w : World) : (Instr.arrayAt 48 (.slice (some ad) 32 c)).run Tryd.prog w = .ok (.pointer (some ad)) w := by
  simp [Instr.arrayAt, run_underlying Tryd.underlying48]
theorem map_sk : Tryd.prog.underlying 114 = some (.map 9 48) := Tryd.underlying114

set_option maxHeartbeats 4000000 in
set_option maxRecDepth 100000 in
theorem Add_G {w0 w : World} {g : Nat} {ks : List (ByteArray × List UInt8)} {es : List (ByteArray × ByteArray)} (hS : RG w0 w g ks es) (A : Option Addr) (c : Nat) (key : List UInt8) (hb : RB w A 32 key) (hc : 32 ≤ c) (hm : c ≤ maxLen) (ht : ShaTabs w0)
    (hn : findK ⟨(idL key).toArray⟩ ks = none) :
    Calls Tryd.prog 17 #[.pointer (some ⟨g, 0, none⟩), .slice A 32 c] w fun e w' => e = .returned (.tuple #[.string ⟨(idL key).toArray⟩, .nilIface]) ∧ RG w0 w' g (ks ++ [(⟨(idL key).toArray⟩, key)]) es ∧ KB w w' := by
  obtain ⟨⟨a, b, hr, h1, h2, h3⟩, h4, h5⟩ := hS
  have hlook : lookI ⟨(idL key).toArray⟩ (kv ks) 0 = none := by
    have := lookI_kv ⟨(idL key).toArray⟩ ks 0
    rw [hn] at this
    cases hl : lookI ⟨(idL key).toArray⟩ (kv ks) 0 with
    | none => rfl
    | some y => rw [hl] at this; cases this
  obtain ⟨kb, ko, rfl, -⟩ := hb.2 (by omega)
  have HR := Lib.hid hr
  have HB := Lib.hid hb
  have HT := Lib.hid (ht.keep (Keeps.of_below h5))
  have HC := Lib.hid (And.intro hc hm)
  have HL := Lib.hid hlook
  have H5 := Lib.hid h5
  have HG := Lib.hid (And.intro h1 (And.intro h2 h3))
  clear hr hb ht hc hm hn hlook h5 h1 h2 h3
  obtain ⟨id, hid⟩ : ∃ id : ByteArray, id = ⟨(idL key).toArray⟩ := ⟨_, rfl⟩
  rw [← hid] at HL ⊢
  have HID := Lib.hid hid
  clear hid
  go_enter Tryd.func17, Tryd.ntmps17
  go_wp2_with (go_at_call 56; refine (ID_any _ 32 c key w HB.out (by omega) HC.out.1 HC.out.2 HT.out).mono ?_; rw [← HID.out]; rintro e w1 ⟨rfl, hb1⟩)
  have HR1 := Lib.hid (HR.out.below hb1)
  have HB1 := Lib.hid (HB.out.keep (Keeps.of_below hb1))
  have H51 := Lib.hid (H5.out.trans (hb1.mono H5.out.size))
  have K1 := Lib.hid (KB.of_below hb1)
  clear hb1
  have g0 : w1.cell? ⟨g, 0, none⟩ = some (.map (some a)) := cell_of_row _ _ 0 _ _ _ HR1.out.row
  have hi : (Tryd.prog.info? 48).map (·.size) = some (bcells key).length := by rw [bcells_length, HB1.out.1]; exact info_32
  have hld : (Instr.loadAt 48 (.pointer (some ⟨kb, ko, none⟩))).run Tryd.prog { heap := w1.heap, tape := w1.tape, drawn := w1.drawn + 1, os := w1.os, output := w1.output } = .ok (.agg (bcells key).toArray) { heap := w1.heap, tape := w1.tape, drawn := w1.drawn + 1, os := w1.os, output := w1.output } := run_loadAt_mid (P := Tryd.prog) w1.drew kb ko 48 (bcells key) _ (show w1.drew.rangeAt kb ko (bcells key) from HB1.out.range) Tryd.underlying48 rfl hi
  obtain ⟨w2, hput, hsm, hfr⟩ := run_put_s (P := Tryd.prog) (w := w1.drew) map_sk Tryd.underlying9 HR1.out.keys id (.agg (bcells key).toArray) HL.out
  have Hsm := Lib.hid hsm
  have Hfr := Lib.hid hfr
  have ha32 := arrayAt_32 ⟨kb, ko, none⟩ c
  clear hi hsm hfr
  go_still_tail 8, (by kernel_rfl)
  refine still_run rfl _ (run_load_op 48 (.tmp 19) rfl rfl hld) ?_
  refine wpStill_nil ?_
  change wpList _ _ _ _ _ w1.drew
  go_wp2
  go_ret2
  have hab := HR1.out.ab
  have hga := HR1.out.keys.ne HR1.out.row
  have hgb := HR1.out.ents.ne HR1.out.row
  obtain ⟨es0, ck, hmb, _⟩ := HR1.out.keys
  refine ⟨rfl, ⟨⟨a, b, ⟨(Hfr.out.block g HR1.out.lt hga).trans HR1.out.row, ?_, HR1.out.ents.keepB (Hfr.out.block b HR1.out.ents.lt (fun e => hab e.symm)), hab⟩, HG.out.1, HG.out.2.1, HG.out.2.2⟩, ?_, (show Below w0.heap.size w0 w1.drew from below_drewN H51.out 1).trans (Hfr.out.below (w := w1.drew) H51.out.size fun i _ e => by rw [e]; exact HG.out.2.1)⟩, K1.out.trans ((KB.drew w1).trans (KB.of_map Hfr.out hmb))⟩
  · have e : kv (ks ++ [(id, key)]) = kv ks ++ [(id, .agg (bcells key).toArray)] := by simp [kv]
    rw [e]
    exact Hsm.out
  · intro x hx
    rcases List.mem_append.1 hx with hx | hx
    · exact h4 x hx
    · rw [List.mem_singleton.1 hx]
      exact HB.out.1
end Go.Proofs.YtlfeofakggkebaaDoor
