/- mac.Tagged, the reference's Tagged; the keys' numbers. -/
import Derived.Test.YtlfeofakggkebaaDoorRefFrm
namespace Go.Proofs.YtlfeofakggkebaaDoor
open Go.RowKit

theorem results_row_tmp {P : Program} {fn : Func} {p u : Tmp} {ty : TypeId} (h : fn.results = #[.cell p ty, .tmp u]) (tmps : Array Value) (w : World) (g : Nat) (t : TypeId) (cs : Array Value) (fr : Nat × Nat) (d : TypeDesc) (x : Value)
    (hp : tmps.getD p undef = .pointer (some ⟨g, 0, none⟩)) (hx : tmps.getD u undef = x) (hg : w.heap[g]? = some (.cells cs t fr))
    (hu : P.underlying ty = some d) (hd : (match d with | .struct _ | .array _ _ => true | _ => false) = true) (hi : (P.info? ty).map (·.size) = some cs.size) :
    (results fn tmps).run P w = .ok (.tuple #[.agg cs, x]) w := by
  have hp' : tmps[p]?.getD undef = .pointer (some ⟨g, 0, none⟩) := by simpa using hp
  have hx' : tmps[u]?.getD undef = x := by simpa using hx
  simp [results, h, hp', hx', asAddr, run_loadVar_row w g t ty cs fr d hg hu hd hi]

theorem frameB_length (word : List UInt8) (parts : List (List UInt8)) (h : frameBad word parts = false) : (frameB word parts).length ≤ 1100000 := by
  simp only [frameBad, wordBad, partsBad, Bool.or_eq_false_iff, decide_eq_false_iff_not] at h
  obtain ⟨⟨⟨_, h1⟩, _⟩, h2, h3⟩ := h
  have h4 : (parts.flatMap frameP).length ≤ 16 * 65540 := flatMap_len _ 16 (by omega) (fun q hq => by
    have := List.any_eq_false.1 h3 q hq
    simp [tooLong] at this
    simp [frameP, be32]; omega)
  unfold frameB
  simp only [List.length_append, List.length_cons, List.length_nil]
  omega

set_option maxHeartbeats 4000000 in
set_option maxRecDepth 100000 in
theorem Tagged_good (A : Option Addr) (n c : Nat) (key : List UInt8) (s : ByteArray) (A2 : Option Addr) (n2 c2 : Nat) (ls : List (List UInt8)) (w : World) (hb : RB w A n key) (hn : n ≤ 1000000) (hnc : n ≤ c) (hc : c ≤ maxLen)
    (hl : RBL w A2 n2 ls) (hf : frameBad s.data.toList ls = false) (ht : ShaTabs w) :
    Calls Tryd.prog 54 #[.slice A n c, .string s, .slice A2 n2 c2] w fun e w' => e = .returned (.tuple #[.agg (bcells (hmacF key (frameB s.data.toList ls))).toArray, .nilIface]) ∧ Below w.heap.size w w' := by
  have Hb := Lib.hid hb
  have Hl := Lib.hid hl
  have Ht := Lib.hid ht
  have Hnc := Lib.hid (And.intro hn (And.intro hnc hc))
  have Hf := Lib.hid hf
  have Hfl := Lib.hid (frameB_length _ _ hf)
  have hb1 : Below w.heap.size w (w.alloc (.cells zer32 48)) := (Below.refl _ w).alloc (Nat.le_refl _) _
  have Hz1 := Lib.hid (heap_alloc_new w (.cells zer32 48))
  have Hb1 := Lib.hid hb1
  clear hb hl ht hn hnc hc hf hb1
  go_enter Tryd.func54, Tryd.ntmps54
  go_wp2_with fail
  refine (Frame_good s A2 n2 c2 ls _ (Hl.out.keep (Keeps.of_below ((Below.refl _ w).alloc (Nat.le_refl _) _))) Hf.out).mono ?_
  rintro e w2 ⟨v2, rfl, hown2, hb2⟩
  have Hb2 := Lib.hid (Hb1.out.trans (hb2.mono (by simp)))
  have Hz2 := Lib.hid ((hb2.block w.heap.size (by simp)).trans Hz1.out)
  obtain ⟨A3, c3, hv3, hc3, hm3, hr3⟩ := hown2.form
  generalize hfr : frameB s.data.toList ls = fr at *
  have Hfr := Lib.hid hfr
  have Hr3 := Lib.hid hr3
  clear hfr hown2 hb2 hr3 Hz1 Hb1
  subst hv3
  go_wp2_with fail
  have hka : Below w.heap.size w (w2.alloc (.cells #[.slice A3 fr.length c3] 22)) := Hb2.out.alloc Hb2.out.size _
  have hkw := Keeps.of_below hka
  have hrbl : RBL (w2.alloc (.cells #[.slice A3 fr.length c3] 22)) (some ⟨w2.heap.size, 0, none⟩) 1 [fr] := RBL.lits (vs := [.slice A3 fr.length c3]) (heap_alloc_new w2 _) rfl (fun k hk => by
    obtain rfl : k = 0 := by omega
    exact ⟨_, rfl, SB.of_rb (Hr3.out.keep (Keeps.of_below ((Below.refl _ w2).alloc (Nat.le_refl _) _))) hc3 hm3⟩)
  refine (MacSum_any A n c key _ 1 1 [fr] _ (Hb.out.keep hkw) Hnc.out.1 Hnc.out.2.1 Hnc.out.2.2 hrbl (by unfold maxLen; omega) (by have := Hfl.out; simp; omega) (Ht.out.keep hkw)).mono ?_
  rintro e w5 ⟨rfl, hb5⟩
  rw [show [fr].flatten = fr by simp]
  have Hb5 := Lib.hid (hka.trans (hb5.mono hka.size))
  have Hz5 := Lib.hid ((hb5.block w.heap.size (by have := (Array.getElem?_eq_some_iff.1 Hz2.out).1; simp; omega)).trans ((Below.heap_alloc w2 _ _ (Array.getElem?_eq_some_iff.1 Hz2.out).1).trans Hz2.out))
  have Hm32 : Hid ((hmacF key fr).length = 32) := by show _ = _; exact shaB_length _ _ _
  generalize hmac : hmacF key fr = mac at *
  have Hmac := Lib.hid hmac
  clear hmac hka hkw hrbl hb5
  obtain ⟨cur, hcur⟩ : ∃ cur, cur = (bcells mac).toArray := ⟨_, rfl⟩
  rw [← hcur]
  have HCur := Lib.hid hcur
  have HC2 : Hid (cur.size = 32) := by show _ = _; rw [hcur]; simp [bcells, Hm32.out]
  have HB2 : Hid (cur.all (·.oneCell') = true) := by
    show _ = true
    rw [hcur, Array.all_eq_true_iff_forall_mem]
    intro y hy
    exact bcells_one _ y (by simpa using hy)
  clear hcur
  go_wp2_with (first
    | (refine wpList_store_row rfl 48 (.tmp 6) (.tmp 23) rfl w.heap.size cur rfl rfl 48 _ Hz5.out (by rw [HC2.out]; exact info_32) (by rw [HC2.out]; rfl) HB2.out ?_)
    | fail)
  refine bodyPost_ret (results_row_tmp (x := .nilIface) rfl _ _ w.heap.size 48 cur (0, 0) _ rfl rfl (setRow_heap _ _ _ _ _ _ Hz5.out) Tryd.underlying48 rfl (by rw [HC2.out]; exact info_32)) rfl ⟨by rw [HCur.out, Hfr.out, Hmac.out], ?_⟩
  exact ⟨Hb5.out.os, Hb5.out.tape, Hb5.out.output, by simpa [World.setRow] using Hb5.out.size, fun i hi => (setRow_other _ _ _ _ (by omega)).trans (Hb5.out.block i hi)⟩

set_option maxHeartbeats 4000000 in
set_option maxRecDepth 100000 in
theorem RefTagged_good (A : Option Addr) (n c : Nat) (key : List UInt8) (s : ByteArray) (A2 : Option Addr) (n2 c2 : Nat) (ls : List (List UInt8)) (w : World) (hb : RB w A n key) (hn : n ≤ 1000000)
    (hl : RBL w A2 n2 ls) (hf : frameBad s.data.toList ls = false) :
    Calls Tryd.prog 21 #[.slice A n c, .string s, .slice A2 n2 c2] w fun e w' => e = .returned (.agg (bcells (hmacF key (frameB s.data.toList ls))).toArray) ∧ Below w.heap.size w w' := by
  have Hb := Lib.hid hb
  have Hl := Lib.hid hl
  have Hn := Lib.hid hn
  have Hf := Lib.hid hf
  have Hfl := Lib.hid (frameB_length _ _ hf)
  have hb1 : Below w.heap.size w (w.alloc (.cells zer32 48)) := (Below.refl _ w).alloc (Nat.le_refl _) _
  have Hz1 := Lib.hid (heap_alloc_new w (.cells zer32 48))
  have Hb1 := Lib.hid hb1
  clear hb hl hn hf hb1
  go_enter Tryd.func21, Tryd.ntmps21
  go_wp2_with fail
  refine (RefFrame_good s A2 n2 c2 ls _ (Hl.out.keep (Keeps.of_below ((Below.refl _ w).alloc (Nat.le_refl _) _))) Hf.out).mono ?_
  rintro e w2 ⟨v2, rfl, hown2, hb2⟩
  have Hb2 := Lib.hid (Hb1.out.trans (hb2.mono (by simp)))
  have Hz2 := Lib.hid ((hb2.block w.heap.size (by simp)).trans Hz1.out)
  obtain ⟨A3, c3, hv3, hc3, hm3, hr3⟩ := hown2.form
  generalize hfr : frameB s.data.toList ls = fr at *
  have Hfr := Lib.hid hfr
  have Hr3 := Lib.hid hr3
  clear hfr hown2 hb2 hr3 Hz1 Hb1
  subst hv3
  go_wp2_with fail
  refine (RefMac_any A n c key A3 fr.length c3 fr w2 (Hb.out.keep (Keeps.of_below Hb2.out)) Hn.out Hr3.out (by have := Hfl.out; omega)).mono ?_
  rintro e w5 ⟨rfl, hb5⟩
  have Hb5 := Lib.hid (Hb2.out.trans (hb5.mono Hb2.out.size))
  have Hz5 := Lib.hid ((hb5.block w.heap.size (Array.getElem?_eq_some_iff.1 Hz2.out).1).trans Hz2.out)
  have Hm32 : Hid ((hmacF key fr).length = 32) := by show _ = _; exact shaB_length _ _ _
  generalize hmac : hmacF key fr = mac at *
  have Hmac := Lib.hid hmac
  clear hmac hb5
  obtain ⟨cur, hcur⟩ : ∃ cur, cur = (bcells mac).toArray := ⟨_, rfl⟩
  rw [← hcur]
  have HCur := Lib.hid hcur
  have HC2 : Hid (cur.size = 32) := by show _ = _; rw [hcur]; simp [bcells, Hm32.out]
  have HB2 : Hid (cur.all (·.oneCell') = true) := by
    show _ = true
    rw [hcur, Array.all_eq_true_iff_forall_mem]
    intro y hy
    exact bcells_one _ y (by simpa using hy)
  clear hcur
  go_wp2_with (first
    | (refine wpList_store_row rfl 48 (.tmp 6) (.tmp 17) rfl w.heap.size cur rfl rfl 48 _ Hz5.out (by rw [HC2.out]; exact info_32) (by rw [HC2.out]; rfl) HB2.out ?_)
    | fail)
  refine bodyPost_ret (results_cell_row rfl _ _ w.heap.size 48 cur (0, 0) _ rfl (setRow_heap _ _ _ _ _ _ Hz5.out) Tryd.underlying48 rfl (by rw [HC2.out]; exact info_32)) rfl ⟨by rw [HCur.out, Hfr.out, Hmac.out], ?_⟩
  exact ⟨Hb5.out.os, Hb5.out.tape, Hb5.out.output, by simpa [World.setRow] using Hb5.out.size, fun i hi => (setRow_other _ _ _ _ (by omega)).trans (Hb5.out.block i hi)⟩

/-- A key's number, as figures. -/
def idL (key : List UInt8) : List UInt8 := (hexs (hmacF key (frameB [105, 100] []))).take 32
theorem id_good : frameBad [105, 100] [] = false := by decide +kernel
end Go.Proofs.YtlfeofakggkebaaDoor
