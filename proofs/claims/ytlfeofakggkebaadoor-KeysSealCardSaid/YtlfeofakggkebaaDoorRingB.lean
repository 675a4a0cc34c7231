/- keys.Ring: reckoned. -/
import Derived.Test.YtlfeofakggkebaaDoorRingA
import Derived.StillTailTactics
namespace Go.Proofs.YtlfeofakggkebaaDoor
open Go.RowKit Go.Instr

theorem findK_mem {id : ByteArray} {key : List UInt8} : ∀ {ks : List (ByteArray × List UInt8)}, findK id ks = some key → ∃ x ∈ ks, x.2 = key := by
  intro ks
  induction ks with
  | nil => intro h; cases h
  | cons x ks ih =>
    intro h
    by_cases c : (id == x.1) = true
    · have e : findK id (x :: ks) = some x.2 := if_pos c
      rw [e] at h
      exact ⟨x, by simp, Option.some.inj h⟩
    · have e : findK id (x :: ks) = findK id ks := if_neg c
      rw [e] at h
      obtain ⟨y, hy, he⟩ := ih h
      exact ⟨y, by simp [hy], he⟩

/-- The run of a key's look-up. -/
theorem look_key {w : World} {g a b : Nat} {ks : List (ByteArray × List UInt8)} {es : List (ByteArray × ByteArray)} (hr : Ring w g a b (kv ks) es) {id : ByteArray} {key : List UInt8} (hk : findK id ks = some key) :
    (Instr.lookup 114 (.map (some a)) (.string id) true).run Tryd.prog w = .ok (.tuple #[.agg (bcells key).toArray, .bool true]) w := by
  have h := run_look_s (P := Tryd.prog) (w := w) map_sk Tryd.underlying9 hr.keys (z := .agg zer32) (fun W => by kernel_rfl) id
  have e := lookI_kv id ks 0
  rw [hk] at e
  rw [h, e]
  cases hl : lookI id (kv ks) 0 with
  | none => rw [hl] at e; cases e
  | some y => rfl

theorem run_conv_op {P : Program} {w : World} {a : Act} {o : Oper} (x : Operand) (t u : TypeId) (ho : o.op = .convert t u x) {p v : Value} (hx : a.eval x = p) (h : (convert t u p).run P w = .ok v w) : (execOp a.eval o).run P w = .ok (.value v) w := by
  simp [execOp, ho, hx, h, Result.andThen]
theorem results_tmp_row_tmp {P : Program} {fn : Func} {p q u : Tmp} {ty : TypeId} (h : fn.results = #[.tmp p, .cell q ty, .tmp u]) (tmps : Array Value) (w : World) (g : Nat) (t : TypeId) (cs : Array Value) (fr : Nat × Nat) (d : TypeDesc) (x y : Value)
    (hp : tmps.getD p undef = x) (hq : tmps.getD q undef = .pointer (some ⟨g, 0, none⟩)) (hy : tmps.getD u undef = y) (hg : w.heap[g]? = some (.cells cs t fr))
    (hu : P.underlying ty = some d) (hd : (match d with | .struct _ | .array _ _ => true | _ => false) = true) (hi : (P.info? ty).map (·.size) = some cs.size) :
    (results fn tmps).run P w = .ok (.tuple #[x, .agg cs, y]) w := by
  have hp' : tmps[p]?.getD undef = x := by simpa using hp
  have hq' : tmps[q]?.getD undef = .pointer (some ⟨g, 0, none⟩) := by simpa using hq
  have hy' : tmps[u]?.getD undef = y := by simpa using hy
  simp [results, h, hp', hq', hy', asAddr, run_loadVar_row w g t ty cs fr d hg hu hd hi]
def ev_cells (a b : ByteArray) : Array Value := #[.string a, .string b]
def ent0 : Obj := .cells #[.string ⟨#[]⟩, .string ⟨#[]⟩] 119 (0, 0)
/-- What reckoned answers: the digest, the entry. -/
def ReckPost (w : World) (id : ByteArray) (dg fr : List UInt8) (e : Ending) (w' : World) : Prop :=
  ∃ q, e = .returned (.tuple #[.slice (some ⟨q, 0, none⟩) 32 32, ev id ⟨fr.toArray⟩, .nilIface]) ∧ RB w' (some ⟨q, 0, none⟩) 32 dg ∧ w.heap.size ≤ q ∧ Below w.heap.size w w'

set_option maxHeartbeats 4000000 in
set_option maxRecDepth 100000 in
theorem Reck_good {w0 w : World} {g : Nat} {ks : List (ByteArray × List UInt8)} {es : List (ByteArray × ByteArray)} (hS : RG w0 w g ks es) (id : ByteArray) (key : List UInt8) (hk : findK id ks = some key) (s : ByteArray)
    (A : Option Addr) (n c : Nat) (msg : List UInt8) (hm : RB w A n msg) (hnc : n ≤ c) (hc : c ≤ maxLen) (hf : frameBad s.data.toList [msg] = false) (ht : ShaTabs w0) :
    Calls Tryd.prog 57 #[.pointer (some ⟨g, 0, none⟩), .string id, .string s, .slice A n c] w (ReckPost w id (hmacF key (frameB s.data.toList [msg])) (frameB s.data.toList [msg])) := by
  obtain ⟨⟨a, b, hr, h1, h2, h3⟩, h4, h5⟩ := hS
  have HM := Lib.hid hm
  have HC := Lib.hid (And.intro hnc hc)
  have HT := Lib.hid (ht.keep (Keeps.of_below h5))
  have HF := Lib.hid hf
  have HFL := Lib.hid (frameB_length _ _ hf)
  have HK : Hid (key.length = 32) := Lib.hid (by obtain ⟨x, hx, rfl⟩ := findK_mem hk; exact h4 x hx)
  have B1 := Lib.hid ((Below.refl w.heap.size w).alloc (Nat.le_refl _) (.cells #[.string ⟨#[]⟩, .string ⟨#[]⟩] 119))
  have g0 : (w.alloc (.cells #[.string ⟨#[]⟩, .string ⟨#[]⟩] 119)).cell? ⟨g, 0, none⟩ = some (.map (some a)) := cell_of_row _ _ 0 _ _ _ (hr.below B1.out).row
  have hlk := look_key (hr.below B1.out) hk
  clear hr h1 h2 h3 h4 h5 hm hnc hc ht hf hk
  generalize hfr : frameB s.data.toList [msg] = fr at *
  have HFR := Lib.hid hfr
  clear hfr
  obtain ⟨cur, hcur⟩ : ∃ cur, cur = (bcells key).toArray := ⟨_, rfl⟩
  rw [← hcur] at hlk
  have HCur := Lib.hid hcur
  have HC2 : Hid (cur.size = 32) := Lib.hid (by rw [hcur]; simp [bcells, HK.out])
  have HB2 : Hid (cur.all (·.oneCell') = true) := Lib.hid (by
    rw [hcur, Array.all_eq_true_iff_forall_mem]
    intro y hy
    exact bcells_one _ y (by simpa using hy))
  clear hcur
  have Z1 : Hid (∀ o, ((w.alloc (.cells #[.string ⟨#[]⟩, .string ⟨#[]⟩] 119)).alloc o).heap[w.heap.size + 1]? = some o) := Lib.hid fun o => by
    have := heap_alloc_new (w.alloc (.cells #[.string ⟨#[]⟩, .string ⟨#[]⟩] 119)) o
    rwa [show (w.alloc (.cells #[.string ⟨#[]⟩, .string ⟨#[]⟩] 119)).heap.size = w.heap.size + 1 by simp] at this
  have Z0 : Hid (∀ o, ((w.alloc (.cells #[.string ⟨#[]⟩, .string ⟨#[]⟩] 119)).alloc o).heap[w.heap.size]? = some (.cells #[.string ⟨#[]⟩, .string ⟨#[]⟩] 119)) := Lib.hid fun o =>
    (Below.heap_alloc _ o _ (by simp)).trans (heap_alloc_new w _)
  have B2 : Hid (∀ o, Below w.heap.size w ((w.alloc (.cells #[.string ⟨#[]⟩, .string ⟨#[]⟩] 119)).alloc o)) := Lib.hid fun o => B1.out.alloc B1.out.size o
  go_enter Tryd.func57, Tryd.ntmps57
  go_wp2_with (first
    | (refine wpList_store_row rfl 48 (.tmp 11) (.tmp 23) rfl (w.heap.size + 1) cur rfl rfl 48 _ (Z1.out _) (by rw [HC2.out]; exact info_32) (by rw [HC2.out]; rfl) HB2.out ?_; obtain ⟨w3, hw3⟩ : ∃ W, W = ((w.alloc (.cells #[.string ⟨#[]⟩, .string ⟨#[]⟩] 119)).alloc (.cells zer32 48)).setRow (w.heap.size + 1) cur := ⟨_, rfl⟩; change wpList _ _ _ _ _ (((w.alloc (.cells #[.string ⟨#[]⟩, .string ⟨#[]⟩] 119)).alloc (.cells zer32 48)).setRow (w.heap.size + 1) cur); rw [← hw3]; have R3 : Hid (w3.heap[w.heap.size + 1]? = some (.cells cur 48 (0, 0))) := (by show _ = _; rw [hw3]; exact setRow_heap _ _ _ _ _ _ (Z1.out _)); have E3 : Hid (w3.heap[w.heap.size]? = some (.cells #[.string ⟨#[]⟩, .string ⟨#[]⟩] 119 (0, 0))) := (by show _ = _; rw [hw3]; exact (setRow_other _ _ _ _ (by omega)).trans (Z0.out _)); have B3 : Hid (Below w.heap.size w w3) := (by show Below _ _ _; rw [hw3]; exact below_setRow (B2.out _) (by omega) cur); clear hw3)
    | fail)
  clear g0 hlk
  have hrbl : RBL (w3.alloc (.cells #[.slice A n c] 22)) (some ⟨w3.heap.size, 0, none⟩) 1 [msg] := RBL.lits (vs := [.slice A n c]) (heap_alloc_new w3 _) rfl (fun k hk => by
    obtain rfl : k = 0 := by omega
    exact ⟨_, rfl, SB.of_rb (HM.out.keep (Keeps.of_below (B3.out.alloc B3.out.size _))) HC.out.1 HC.out.2⟩)
  refine (Frame_good s _ 1 1 [msg] _ hrbl HF.out).mono ?_
  rintro e w4 ⟨v4, rfl, hown4, hb4⟩
  rw [HFR.out] at hown4
  obtain ⟨A4, c4, rfl, hc4, hm4, hr4⟩ := hown4.form
  have D4 := Lib.hid ((((Below.refl w3.heap.size w3).alloc (Nat.le_refl _) (.cells #[.slice A n c] 22))).trans (hb4.mono (by simp)))
  have B4 := Lib.hid (B3.out.trans (D4.out.mono B3.out.size))
  have Hr4 := Lib.hid hr4
  have HC4 := Lib.hid (And.intro hc4 hm4)
  have S3 : Hid (w.heap.size + 1 < w3.heap.size) := Lib.hid (Array.getElem?_eq_some_iff.1 R3.out).1
  have R4 := Lib.hid ((D4.out.block _ S3.out).trans R3.out)
  have E4 := Lib.hid ((D4.out.block _ (Nat.lt_of_succ_lt S3.out)).trans E3.out)
  clear hrbl hown4 hb4 hr4 hc4 hm4 D4
  go_wp2_with fail
  have K5 := Lib.hid ((Below.refl w4.heap.size w4).alloc (Nat.le_refl _) (.cells #[.slice A4 fr.length c4] 22))
  have hrbl : RBL (w4.alloc (.cells #[.slice A4 fr.length c4] 22)) (some ⟨w4.heap.size, 0, none⟩) 1 [fr] := RBL.lits (vs := [.slice A4 fr.length c4]) (heap_alloc_new w4 _) rfl (fun k hk => by
    obtain rfl : k = 0 := by omega
    exact ⟨_, rfl, SB.of_rb (Hr4.out.keep (Keeps.of_below K5.out)) HC4.out.1 HC4.out.2⟩)
  have S4 : Hid (w.heap.size + 1 < w4.heap.size) := Lib.hid (Array.getElem?_eq_some_iff.1 R4.out).1
  have hkey : RB w4 (some ⟨w.heap.size + 1, 0, none⟩) 32 key := RB.row (by rw [R4.out, HCur.out]) HK.out
  refine (MacSum_any _ 32 32 key _ 1 1 [fr] _ (hkey.keep (Keeps.of_below K5.out)) (by omega) (by omega) (by unfold maxLen; omega) hrbl (by unfold maxLen; omega) (by have := HFL.out; simp; omega) (HT.out.keep (Keeps.of_below (B4.out.trans (K5.out.mono B4.out.size))))).mono ?_
  rintro e w5 ⟨rfl, hb5⟩
  rw [show [fr].flatten = fr by simp]
  have D5 := Lib.hid (K5.out.trans (hb5.mono K5.out.size))
  have B5 := Lib.hid (B4.out.trans (D5.out.mono B4.out.size))
  have E5 := Lib.hid ((D5.out.block _ (Nat.lt_of_succ_lt S4.out)).trans E4.out)
  have Hr5 := Lib.hid (Hr4.out.keep (Keeps.of_below D5.out))
  have S5 : Hid (w.heap.size + 1 < w5.heap.size) := Lib.hid (Nat.lt_of_lt_of_le S4.out D5.out.size)
  have Hm32 : Hid ((hmacF key fr).length = 32) := Lib.hid (shaB_length _ _ _)
  generalize hmac : hmacF key fr = mac at *
  clear hrbl hkey hb5 hmac
  obtain ⟨dur, hdur⟩ : ∃ dur, dur = (bcells mac).toArray := ⟨_, rfl⟩
  rw [← hdur]
  have HDur := Lib.hid hdur
  have HD2 : Hid (dur.size = 32) := Lib.hid (by rw [hdur]; simp [bcells, Hm32.out])
  have HDB : Hid (dur.all (·.oneCell') = true) := Lib.hid (by
    rw [hdur, Array.all_eq_true_iff_forall_mem]
    intro y hy
    exact bcells_one _ y (by simpa using hy))
  clear hdur
  go_wp2_with (first
    | (refine wpList_store_row rfl 48 (.tmp 15) (.tmp 43) rfl w5.heap.size dur rfl rfl 48 _ (heap_alloc_new w5 _) (by rw [HD2.out]; exact info_32) (by rw [HD2.out]; rfl) HDB.out ?_; obtain ⟨w6, hw6⟩ : ∃ W, W = (w5.alloc (.cells zer32 48)).setRow w5.heap.size dur := ⟨_, rfl⟩; change wpList _ _ _ _ _ ((w5.alloc (.cells zer32 48)).setRow w5.heap.size dur); rw [← hw6]; have R6 : Hid (w6.heap[w5.heap.size]? = some (.cells dur 48 (0, 0))) := (by show _ = _; rw [hw6]; exact setRow_heap _ _ _ _ _ _ (heap_alloc_new w5 _)); have D6 : Hid (Below w5.heap.size w5 w6) := (by show Below _ _ _; rw [hw6]; exact below_setRow ((Below.refl _ w5).alloc (Nat.le_refl _) _) (Nat.le_refl _) dur); clear hw6)
    | fail)
  have E6 := Lib.hid ((D6.out.block _ (Nat.lt_of_succ_lt S5.out)).trans E5.out)
  have hcv : (convert 22 9 (.slice A4 fr.length c4)).run Tryd.prog { heap := w6.heap, tape := w6.tape, drawn := w6.drawn + 1, os := w6.os, output := w6.output } = .ok (.string ⟨fr.toArray⟩) { heap := w6.heap, tape := w6.tape, drawn := w6.drawn + 1, os := w6.os, output := w6.output } := run_bytes_string (P := Tryd.prog) (w := w6.drew) Tryd.underlying22 Tryd.underlying5 Tryd.underlying9 (c := c4) ((Hr5.out.keep (Keeps.of_below D6.out)).keep (Keeps.drew w6))
  have c0 : w6.cell? ⟨w.heap.size, 0, none⟩ = some (.string ⟨#[]⟩) := cell_of_row _ _ 0 _ _ _ E6.out
  have c1 : w6.cell? ⟨w.heap.size, 1, none⟩ = some (.string ⟨#[]⟩) := cell_of_row _ _ 1 _ _ _ E6.out
  have f0 : w6.frozen? ⟨w.heap.size, 0, none⟩ = false := frozen_of_row _ _ _ _ _ E6.out
  have f1 : w6.frozen? ⟨w.heap.size, 1, none⟩ = false := frozen_of_row _ _ _ _ _ E6.out
  go_still_tail 6, (by kernel_rfl)
  refine still_run rfl _ (run_conv_op (.tmp 46) _ _ rfl rfl hcv) ?_
  repeat still_step
  refine wpStill_nil ?_
  change wpList _ _ _ _ _ w6.drew
  go_wp2
  have H2 := Lib.hid (heap_setCell_same _ _ 1 _ _ (.string ⟨fr.toArray⟩) (heap_setCell_same w6 _ 0 _ _ (.string id) E6.out))
  have hne : w5.heap.size ≠ w.heap.size := by have := B5.out.size; have := S5.out; omega
  have H5 : Hid (((w6.setCell ⟨w.heap.size, 0, none⟩ (.string id)).setCell ⟨w.heap.size, 1, none⟩ (.string ⟨fr.toArray⟩)).heap[w5.heap.size]? = some (.cells (bcells mac).toArray 48 (0, 0))) := Lib.hid (by
    rw [Below.heap_setCell _ _ _ _ hne, Below.heap_setCell _ _ _ _ hne, R6.out, HDur.out])
  refine bodyPost_ret (results_tmp_row_tmp rfl _ _ w.heap.size 119 (ev_cells id ⟨fr.toArray⟩) (0, 0) _ _ _ rfl rfl rfl H2.out fields_ent rfl (by kernel_rfl)) rfl ⟨w5.heap.size, rfl, RB.row H5.out Hm32.out, B5.out.size, ?_⟩
  exact below_drewN (((B5.out.trans (D6.out.mono B5.out.size)).setCell (p := ⟨w.heap.size, 0, none⟩) (Nat.le_refl _) _).setCell (p := ⟨w.heap.size, 1, none⟩) (Nat.le_refl _) _) 1

set_option maxHeartbeats 4000000 in
set_option maxRecDepth 100000 in
theorem Reck_bad {w0 w : World} {g : Nat} {ks : List (ByteArray × List UInt8)} {es : List (ByteArray × ByteArray)} (hS : RG w0 w g ks es) (id : ByteArray) (key : List UInt8) (hk : findK id ks = some key) (s : ByteArray)
    (A : Option Addr) (n c : Nat) {ea : Nat → Addr} (hE : Errs w0 ea) (hs : s.size ≤ maxLen) (hf : wordBad s.data.toList = true) :
    Calls Tryd.prog 57 #[.pointer (some ⟨g, 0, none⟩), .string id, .string s, .slice A n c] w fun e w' => e = .returned (.tuple #[.slice none 0 0, ev ⟨#[]⟩ ⟨#[]⟩, .iface 213 (.pointer (some (ea 8)))]) ∧ Below w.heap.size w w' := by
  obtain ⟨⟨a, b, hr, h1, h2, h3⟩, h4, h5⟩ := hS
  have HE := Lib.hid (hE.below h5)
  have HF := Lib.hid hf
  have HS := Lib.hid hs
  have HK : Hid (key.length = 32) := Lib.hid (by obtain ⟨x, hx, rfl⟩ := findK_mem hk; exact h4 x hx)
  have B1 := Lib.hid ((Below.refl w.heap.size w).alloc (Nat.le_refl _) (.cells #[.string ⟨#[]⟩, .string ⟨#[]⟩] 119))
  have g0 : (w.alloc (.cells #[.string ⟨#[]⟩, .string ⟨#[]⟩] 119)).cell? ⟨g, 0, none⟩ = some (.map (some a)) := cell_of_row _ _ 0 _ _ _ (hr.below B1.out).row
  have hlk := look_key (hr.below B1.out) hk
  clear hr h1 h2 h3 h4 h5 hE hs hf hk
  obtain ⟨cur, hcur⟩ : ∃ cur, cur = (bcells key).toArray := ⟨_, rfl⟩
  rw [← hcur] at hlk
  have HC2 : Hid (cur.size = 32) := Lib.hid (by rw [hcur]; simp [bcells, HK.out])
  have HB2 : Hid (cur.all (·.oneCell') = true) := Lib.hid (by
    rw [hcur, Array.all_eq_true_iff_forall_mem]
    intro y hy
    exact bcells_one _ y (by simpa using hy))
  clear hcur
  have Z1 : Hid (∀ o, ((w.alloc (.cells #[.string ⟨#[]⟩, .string ⟨#[]⟩] 119)).alloc o).heap[w.heap.size + 1]? = some o) := Lib.hid fun o => by
    have := heap_alloc_new (w.alloc (.cells #[.string ⟨#[]⟩, .string ⟨#[]⟩] 119)) o
    rwa [show (w.alloc (.cells #[.string ⟨#[]⟩, .string ⟨#[]⟩] 119)).heap.size = w.heap.size + 1 by simp] at this
  have Z0 : Hid (∀ o, ((w.alloc (.cells #[.string ⟨#[]⟩, .string ⟨#[]⟩] 119)).alloc o).heap[w.heap.size]? = some (.cells #[.string ⟨#[]⟩, .string ⟨#[]⟩] 119)) := Lib.hid fun o =>
    (Below.heap_alloc _ o _ (by simp)).trans (heap_alloc_new w _)
  have B2 : Hid (∀ o, Below w.heap.size w ((w.alloc (.cells #[.string ⟨#[]⟩, .string ⟨#[]⟩] 119)).alloc o)) := Lib.hid fun o => B1.out.alloc B1.out.size o
  go_enter Tryd.func57, Tryd.ntmps57
  go_wp2_with (first
    | (refine wpList_store_row rfl 48 (.tmp 11) (.tmp 23) rfl (w.heap.size + 1) cur rfl rfl 48 _ (Z1.out _) (by rw [HC2.out]; exact info_32) (by rw [HC2.out]; rfl) HB2.out ?_; obtain ⟨w3, hw3⟩ : ∃ W, W = ((w.alloc (.cells #[.string ⟨#[]⟩, .string ⟨#[]⟩] 119)).alloc (.cells zer32 48)).setRow (w.heap.size + 1) cur := ⟨_, rfl⟩; change wpList _ _ _ _ _ (((w.alloc (.cells #[.string ⟨#[]⟩, .string ⟨#[]⟩] 119)).alloc (.cells zer32 48)).setRow (w.heap.size + 1) cur); rw [← hw3]; have E3 : Hid (w3.heap[w.heap.size]? = some (.cells #[.string ⟨#[]⟩, .string ⟨#[]⟩] 119 (0, 0))) := (by show _ = _; rw [hw3]; exact (setRow_other _ _ _ _ (by omega)).trans (Z0.out _)); have B3 : Hid (Below w.heap.size w w3) := (by show Below _ _ _; rw [hw3]; exact below_setRow (B2.out _) (by omega) cur); clear hw3)
    | fail)
  clear g0 hlk
  have K3 := Lib.hid ((Below.refl w3.heap.size w3).alloc (Nat.le_refl _) (.cells #[.slice A n c] 22))
  refine (Frame_text s _ 1 1 _ HS.out (.iface 213 (.pointer (some (ea 8)))) ((HE.out.below (B3.out.trans (K3.out.mono B3.out.size))).cell 8 (by omega) (by omega)) HF.out).mono ?_
  rintro e w4 ⟨rfl, k4, rfl⟩
  obtain ⟨w5, hw5⟩ : ∃ W, W = (w3.alloc (.cells #[.slice A n c] 22)).drewN k4 := ⟨_, rfl⟩
  rw [← hw5]
  have D5 : Hid (Below w3.heap.size w3 w5) := Lib.hid (by rw [hw5]; exact below_drewN K3.out _)
  clear hw5
  have E5 := Lib.hid ((D5.out.block _ (Array.getElem?_eq_some_iff.1 E3.out).1).trans E3.out)
  have B5 := Lib.hid (B3.out.trans (D5.out.mono B3.out.size))
  have c0 : w5.cell? ⟨w.heap.size, 0, none⟩ = some (.string ⟨#[]⟩) := cell_of_row _ _ 0 _ _ _ E5.out
  have c1 : w5.cell? ⟨w.heap.size, 1, none⟩ = some (.string ⟨#[]⟩) := cell_of_row _ _ 1 _ _ _ E5.out
  have f0 : w5.frozen? ⟨w.heap.size, 0, none⟩ = false := frozen_of_row _ _ _ _ _ E5.out
  have f1 : w5.frozen? ⟨w.heap.size, 1, none⟩ = false := frozen_of_row _ _ _ _ _ E5.out
  go_wp2
  have H2 := Lib.hid (heap_setCell_same _ _ 1 _ _ (.string ⟨#[]⟩) (heap_setCell_same w5 _ 0 _ _ (.string ⟨#[]⟩) E5.out))
  refine bodyPost_ret (results_tmp_row_tmp rfl _ _ w.heap.size 119 (ev_cells ⟨#[]⟩ ⟨#[]⟩) (0, 0) _ _ _ rfl rfl rfl H2.out fields_ent rfl (by kernel_rfl)) rfl ⟨rfl, ?_⟩
  exact (B5.out.setCell (p := ⟨w.heap.size, 0, none⟩) (Nat.le_refl _) _).setCell (p := ⟨w.heap.size, 1, none⟩) (Nat.le_refl _) _
end Go.Proofs.YtlfeofakggkebaaDoor
