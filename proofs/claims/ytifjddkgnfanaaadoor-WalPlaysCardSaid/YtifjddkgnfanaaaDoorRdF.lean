/- The document's disk (layer 17): Seen, Free, unit. -/
import Derived.Test.YtifjddkgnfanaaaDoorRdB
import Derived.Test.YtifjddkgnfanaaaDoorPowU
namespace Go.Proofs.YtifjddkgnfanaaaDoor
open Go.RowKit

section
variable {w w' : World} {O S : Nat → Prop} {g : Nat} {m m' : DM} {A : Nat → Option Addr} {k : Nat → Nat} {wv : Value} {ws : List (DChg × Value)}

theorem OB.rbA {w : World} {b n c : Nat} {A : Option Addr} {l : List UInt8} (h : OB w b (.slice A n c) l) : RB w A l.length l := by
  obtain ⟨A', c', e, _, _, hr⟩ := h.form
  injection e with e1 _ _
  subst e1
  exact hr

set_option maxHeartbeats 4000000 in
set_option maxRecDepth 100000 in
theorem Seen_any (h : RDV w O g m A k wv ws) (hok : m.Ok) (hn : m.waits.length ≤ 1000) : Calls Tryd.prog 25 #[.pointer (some ⟨g, 0, none⟩)] w fun e w' => ∃ A' k', e = .returned (.agg #[av A' k' (foldC m.b m.waits) 0, av A' k' (foldC m.b m.waits) 1, av A' k' (foldC m.b m.waits) 2]) ∧
    (∀ i, i < 3 → OB w' 0 (av A' k' (foldC m.b m.waits) i) (foldC m.b m.waits i) ∧ ∀ q, (av A' k' (foldC m.b m.waits) i).ownBlock = some q → O q ∨ (w.heap.size ≤ q ∧ q < w'.heap.size)) ∧ Below w.heap.size w w' := by
  have c1 : w.cell? ⟨g, 1, none⟩ = some (.slice (A 0) (m.b 0).length (k 0)) := h.cell 1
  have c2 : w.cell? ⟨g, 2, none⟩ = some (.slice (A 1) (m.b 1).length (k 1)) := h.cell 2
  have c3 : w.cell? ⟨g, 3, none⟩ = some (.slice (A 2) (m.b 2).length (k 2)) := h.cell 3
  obtain ⟨AW, cW, eW, _, _⟩ := h.wts.form
  have c4 : w.cell? ⟨g, 4, none⟩ = some (.slice AW ws.length cW) := by rw [← eW]; exact h.cell 4
  have kk : ∀ o p v, w.cell? p = some v → (w.alloc o).cell? p = some v := fun o p v hv => Keeps.of_below ((Below.refl w.heap.size w).alloc (Nat.le_refl _) o) _ _ hv
  have q1 : ∀ o, (w.alloc o).cell? ⟨g, 1, none⟩ = some (.slice (A 0) (m.b 0).length (k 0)) := fun o => kk o _ _ c1
  have q2 : ∀ o, (w.alloc o).cell? ⟨g, 2, none⟩ = some (.slice (A 1) (m.b 1).length (k 1)) := fun o => kk o _ _ c2
  have q3 : ∀ o, (w.alloc o).cell? ⟨g, 3, none⟩ = some (.slice (A 2) (m.b 2).length (k 2)) := fun o => kk o _ _ c3
  have q4 : ∀ o o', ((w.alloc o).alloc o').cell? ⟨g, 4, none⟩ = some (.slice AW ws.length cW) := fun o o' => Keeps.of_below ((Below.refl (w.alloc o).heap.size (w.alloc o)).alloc (Nat.le_refl _) o') _ _ (kk o _ _ c4)
  clear kk
  have hwl : ws.length = m.waits.length := by rw [← h.eq, List.length_map]
  have HV := Lib.hid h
  have HOK := Lib.hid hok
  have HW : Hid (∀ j (hj : j < ws.length), ∃ b o, AW = some ⟨b, o, none⟩ ∧ w.cell? ⟨b, o + j * 4, none⟩ = some (.int .i64 ((ws[j]'hj).1.area : Int)) ∧ w.cell? ⟨b, o + j * 4 + 1, none⟩ = some (.int .i64 ((ws[j]'hj).1.pos : Int)) ∧ w.cell? ⟨b, o + j * 4 + 2, none⟩ = some (ws[j]'hj).2 ∧ w.cell? ⟨b, o + j * 4 + 3, none⟩ = some (.bool (ws[j]'hj).1.cuts)) := Lib.hid fun j hj => by
    obtain ⟨b, o, cap, e, _, _, hc⟩ := h.wts.cells (by rw [wcells_length]; omega)
    rw [eW] at e
    injection e with e1 _ _
    obtain ⟨g0, g1, g2, g3⟩ := wcells_get ws j (ws[j]'hj) (List.getElem?_eq_getElem hj)
    exact ⟨b, o, e1, hc _ _ g0, hc _ _ g1, hc _ _ g2, hc _ _ g3⟩
  have HEQ := Lib.hid h.eq
  have z1 := two_allocs w (.cells #[.slice none 0 0, .slice none 0 0, .slice none 0 0] 29) (.cells #[.slice (A 0) (m.b 0).length (k 0), .slice (A 1) (m.b 1).length (k 1), .slice (A 2) (m.b 2).length (k 2)] 29)
  obtain ⟨wz, hwz⟩ : ∃ W, W = (w.alloc (.cells #[.slice none 0 0, .slice none 0 0, .slice none 0 0] 29)).alloc (.cells #[.slice (A 0) (m.b 0).length (k 0), .slice (A 1) (m.b 1).length (k 1), .slice (A 2) (m.b 2).length (k 2)] 29) := ⟨_, rfl⟩
  rw [← hwz] at z1
  have HZ := Lib.hid z1
  have HSZ : Hid (wz.heap.size = w.heap.size + 2) := Lib.hid (by rw [hwz]; simp)
  have hwb : (ws.length : Int) ≤ 1000 := by omega
  clear h hok eW z1 hwl
  go_enter Tryd.func25, Tryd.ntmps25
  go_wp2_with fail
  rw [← hwz]
  clear hwz q1 q2 q3 q4 c1 c2 c3 c4
  go_loopg [15] ws.length (fun gk s15 wr => ∃ (j : Nat) (A' : Nat → Option Addr) (k' : Nat → Nat), j + gk = ws.length ∧ s15 = .int .i64 (j : Int) ∧ wr.heap[w.heap.size]? = some (.cells #[.slice none 0 0, .slice none 0 0, .slice none 0 0] 29 (0, 0)) ∧
    wr.heap[w.heap.size + 1]? = some (.cells #[av A' k' (foldC m.b (m.waits.take j)) 0, av A' k' (foldC m.b (m.waits.take j)) 1, av A' k' (foldC m.b (m.waits.take j)) 2] 29 (0, 0)) ∧
    (∀ i, i < 3 → OB wr 0 (av A' k' (foldC m.b (m.waits.take j)) i) (foldC m.b (m.waits.take j) i) ∧ ∀ q, (av A' k' (foldC m.b (m.waits.take j)) i).ownBlock = some q → O q ∨ w.heap.size + 2 ≤ q) ∧ Below w.heap.size w wr ∧ w.heap.size + 2 ≤ wr.heap.size)
  case atStart => exact ⟨0, A, k, by omega, rfl, HZ.out.1, HZ.out.2.1, fun i hi => ⟨(HV.out.areas i hi).below HZ.out.2.2, fun q hq => .inl (HV.out.ownB i hi q hq)⟩, HZ.out.2.2, Nat.le_of_eq HSZ.out.symm⟩
  case round =>
    obtain ⟨j, A', k', hjg, rfl, hr0, hr1, hob, hbel, hsz⟩ := hrel
    have HR0 := Lib.hid hr0
    have HR1 := Lib.hid hr1
    have HOB := Lib.hid hob
    have HB := Lib.hid hbel
    have HS2 := Lib.hid hsz
    have HJG := Lib.hid hjg
    obtain ⟨F, hF⟩ : ∃ F, F = foldC m.b (m.waits.take j) := ⟨_, rfl⟩
    rw [← hF] at HR1 HOB hr1
    have HFF := Lib.hid hF
    have u0 : wr.cell? ⟨w.heap.size + 1, 0, none⟩ = some (.slice (A' 0) (F 0).length (k' 0)) := cell_of_row _ _ 0 _ _ _ hr1
    have u1 : wr.cell? ⟨w.heap.size + 1, 1, none⟩ = some (.slice (A' 1) (F 1).length (k' 1)) := cell_of_row _ _ 1 _ _ _ hr1
    have u2 : wr.cell? ⟨w.heap.size + 1, 2, none⟩ = some (.slice (A' 2) (F 2).length (k' 2)) := cell_of_row _ _ 2 _ _ _ hr1
    have ka : ∀ o p v, wr.cell? p = some v → (wr.alloc o).cell? p = some v := fun o p v hv => Keeps.of_below ((Below.refl wr.heap.size wr).alloc (Nat.le_refl _) o) _ _ hv
    have v0 := fun o => ka o _ _ u0
    have v1 := fun o => ka o _ _ u1
    have v2 := fun o => ka o _ _ u2
    clear hr0 hr1 hob hbel hsz hjg hF ka
    by_cases hlt : j < ws.length
    · obtain ⟨b, o, rfl, g0, g1, g2, g3⟩ := HW.out j hlt
      have hm : ws[j]'hlt ∈ ws := List.getElem_mem _
      have hx := HV.out.bytes _ hm
      have hj2 : j < m.waits.length := by rw [← HEQ.out, List.length_map]; exact hlt
      have hw2 : m.waits[j]'hj2 = (ws[j]'hlt).1 := by simp [← HEQ.out]
      have htk := List.take_succ_eq_append_getElem (l := m.waits) (i := j) hj2
      rw [hw2] at htk
      have hok2 := HOK.out.wait (ws[j]'hlt).1 (by rw [← hw2]; exact List.getElem_mem _)
      have HT := Lib.hid htk
      clear htk hw2 hj2 hm
      generalize ws[j]'hlt = x at *
      obtain ⟨c, v⟩ := x
      dsimp only at g0 g1 g2 g3 hx hok2 HT
      obtain ⟨AX, cX, ev, _, _, hrx⟩ := hx.form
      subst ev
      have e0 := Keeps.of_below HB.out _ _ g0
      have e1 := Keeps.of_below HB.out _ _ g1
      have e2 := Keeps.of_below HB.out _ _ g2
      have e3 := Keeps.of_below HB.out _ _ g3
      have j0 : (0 : Int) ≤ (j : Int) := by omega
      have j1 : (j : Int) < (ws.length : Int) := by omega
      have D0 := (Below.refl wr.heap.size wr).alloc (Nat.le_refl _) (.cells #[.int .i64 (c.area : Int), .int .i64 (c.pos : Int), .slice AX c.bytes.length cX, .bool c.cuts] 70)
      obtain ⟨wa, hwa⟩ : ∃ W, W = wr.alloc (.cells #[.int .i64 (c.area : Int), .int .i64 (c.pos : Int), .slice AX c.bytes.length cX, .bool c.cuts] 70) := ⟨_, rfl⟩
      rw [← hwa] at D0
      have HWA := Lib.hid hwa
      have HD0 := Lib.hid D0
      have hFl : (F c.area).length ≤ 1048576 := by
        rw [HFF.out]
        exact foldC_len _ _ (fun c' hc' => (HOK.out.wait c' (List.mem_of_mem_take hc')).2) (fun i hi => HOK.out.len i (by omega)) c.area hok2.1
      have HDn : Hid (Calls Tryd.prog 50 #[.agg #[.slice (A' 0) (F 0).length (k' 0), .slice (A' 1) (F 1).length (k' 1), .slice (A' 2) (F 2).length (k' 2)], .agg #[.int .i64 (c.area : Int), .int .i64 (c.pos : Int), .slice AX c.bytes.length cX, .bool c.cuts]] wa fun e w' => ∃ A7 k7, e = .returned (.agg #[.slice (updF A' c.area A7 0) (updB F c.area (doB (F c.area) c) 0).length (updF k' c.area k7 0), .slice (updF A' c.area A7 1) (updB F c.area (doB (F c.area) c) 1).length (updF k' c.area k7 1), .slice (updF A' c.area A7 2) (updB F c.area (doB (F c.area) c) 2).length (updF k' c.area k7 2)]) ∧ OB w' wa.heap.size (.slice A7 (doB (F c.area) c).length k7) (doB (F c.area) c) ∧ Below wa.heap.size wa w') := Lib.hid (Done_any A' k' F c AX cX wa hok2.1 ((show OB wr 0 (.slice (A' c.area) (F c.area).length (k' c.area)) (F c.area) from (HOB.out c.area hok2.1).1).rbA.keep (Keeps.of_below D0)) hFl ((hrx.keep (Keeps.of_below HB.out)).keep (Keeps.of_below D0)) hok2.2)
      have HO2 := Lib.hid hok2
      have HLT := Lib.hid hlt
      clear hlt g0 g1 g2 g3 hx hrx hok2 D0 hFl hwa
      go_wp2_with (first
        | (go_at_call 50; go_loud (rw [← HWA.out]; (with_reducible refine HDn.out.mono ?_); rintro e w7 ⟨A7, k7, rfl, ho7, hb7⟩; have O7 := Lib.hid ho7; have B7 := Lib.hid hb7; have R7 := Lib.hid ((hb7.block _ (Nat.lt_of_lt_of_le (by have := HS2.out; omega) HD0.out.size)).trans ((HD0.out.block _ (by have := HS2.out; omega)).trans HR1.out)); have m0 : w7.cell? ⟨w.heap.size + 1, 0, none⟩ = some (.slice (A' 0) (F 0).length (k' 0)) := cell_of_row _ _ 0 _ _ _ R7.out; have m1 : w7.cell? ⟨w.heap.size + 1, 1, none⟩ = some (.slice (A' 1) (F 1).length (k' 1)) := cell_of_row _ _ 1 _ _ _ R7.out; have m2 : w7.cell? ⟨w.heap.size + 1, 2, none⟩ = some (.slice (A' 2) (F 2).length (k' 2)) := cell_of_row _ _ 2 _ _ _ R7.out; have n0 : w7.frozen? ⟨w.heap.size + 1, 0, none⟩ = false := frozen_of_row _ _ _ _ _ R7.out; have n1 : w7.frozen? ⟨w.heap.size + 1, 1, none⟩ = false := frozen_of_row _ _ _ _ _ R7.out; have n2 : w7.frozen? ⟨w.heap.size + 1, 2, none⟩ = false := frozen_of_row _ _ _ _ _ R7.out; clear ho7 hb7))
        | fail)
      have hF3 : Fr (fun q => q = w.heap.size + 1) w7 (((w7.setCell ⟨w.heap.size + 1, 0, none⟩ (.slice (updF A' c.area A7 0) (updB F c.area (doB (F c.area) c) 0).length (updF k' c.area k7 0))).setCell ⟨w.heap.size + 1, 1, none⟩ (.slice (updF A' c.area A7 1) (updB F c.area (doB (F c.area) c) 1).length (updF k' c.area k7 1))).setCell ⟨w.heap.size + 1, 2, none⟩ (.slice (updF A' c.area A7 2) (updB F c.area (doB (F c.area) c) 2).length (updF k' c.area k7 2))) := (((Fr.refl (fun q => q = w.heap.size + 1) w7).setCell (p := ⟨w.heap.size + 1, 0, none⟩) (fun _ => rfl) _).setCell (p := ⟨w.heap.size + 1, 1, none⟩) (fun _ => rfl) _).setCell (p := ⟨w.heap.size + 1, 2, none⟩) (fun _ => rfl) _
      have hrow := heap_setCell_same _ _ 2 _ _ (.slice (updF A' c.area A7 2) (updB F c.area (doB (F c.area) c) 2).length (updF k' c.area k7 2)) (heap_setCell_same _ _ 1 _ _ (.slice (updF A' c.area A7 1) (updB F c.area (doB (F c.area) c) 1).length (updF k' c.area k7 1)) (heap_setCell_same _ _ 0 _ _ (.slice (updF A' c.area A7 0) (updB F c.area (doB (F c.area) c) 0).length (updF k' c.area k7 0)) R7.out))
      have hw7 : Below w.heap.size w w7 := (HB.out.trans (HD0.out.mono HB.out.size)).trans (B7.out.mono (Nat.le_trans HB.out.size HD0.out.size))
      have hFe : foldC m.b (m.waits.take (j + 1)) = updB F c.area (doB (F c.area) c) := by rw [HT.out, foldC_snoc, ← HFF.out]
      have hkeep : ∀ (v : Value) (l : List UInt8), OB w7 0 v l → OB (((w7.setCell ⟨w.heap.size + 1, 0, none⟩ (.slice (updF A' c.area A7 0) (updB F c.area (doB (F c.area) c) 0).length (updF k' c.area k7 0))).setCell ⟨w.heap.size + 1, 1, none⟩ (.slice (updF A' c.area A7 1) (updB F c.area (doB (F c.area) c) 1).length (updF k' c.area k7 1))).setCell ⟨w.heap.size + 1, 2, none⟩ (.slice (updF A' c.area A7 2) (updB F c.area (doB (F c.area) c) 2).length (updF k' c.area k7 2))) 0 v l := fun v l ho => OwnS.kept ho hF3 fun q hq e => by
        subst e
        obtain ⟨cur, hcur⟩ := own_type ho hq
        exact absurd (types_ne hcur R7.out) (by decide)
      go_roundg (ws.length - (j + 1))
      case measure => have := HJG.out; have := HLT.out; omega
      case rel =>
        refine ⟨j + 1, updF A' c.area A7, updF k' c.area k7, by have := HLT.out; omega, by go_num, ?_, ?_, fun i hi => ?_, hw7.trans (hF3.below hw7.size fun q _ e => by omega), Nat.le_trans HS2.out (Nat.le_trans HD0.out.size (Nat.le_trans B7.out.size hF3.size))⟩
        · exact ((hF3.block _ (by have := HS2.out; have := HD0.out.size; have := B7.out.size; omega) (by omega)).trans (B7.out.block _ (by have := HS2.out; have := HD0.out.size; omega))).trans ((HD0.out.block _ (by have := HS2.out; omega)).trans HR0.out)
        · rw [hFe]; exact hrow
        · rw [hFe]
          by_cases e : i = c.area
          · subst e
            rw [av_same, updB_same]
            refine ⟨hkeep _ _ (O7.out.mono (Nat.zero_le _)), fun q hq => .inr ?_⟩
            have := (OB.lt O7.out q hq).1
            have := HS2.out
            have := HD0.out.size
            omega
          · rw [av_other _ _ _ _ _ _ _ _ e, updB_other _ _ _ _ e]
            obtain ⟨o1, o2⟩ := HOB.out i hi
            exact ⟨hkeep _ _ ((o1.below HD0.out).below B7.out), o2⟩
    · obtain rfl : j = ws.length := by have := HJG.out; omega
      have r0 : wr.cell? ⟨w.heap.size, 0, none⟩ = some (.slice none 0 0) := cell_of_row _ _ 0 _ _ _ HR0.out
      have r1 : wr.cell? ⟨w.heap.size, 1, none⟩ = some (.slice none 0 0) := cell_of_row _ _ 1 _ _ _ HR0.out
      have r2 : wr.cell? ⟨w.heap.size, 2, none⟩ = some (.slice none 0 0) := cell_of_row _ _ 2 _ _ _ HR0.out
      have y0 : wr.frozen? ⟨w.heap.size, 0, none⟩ = false := frozen_of_row _ _ _ _ _ HR0.out
      have y1 : wr.frozen? ⟨w.heap.size, 1, none⟩ = false := frozen_of_row _ _ _ _ _ HR0.out
      have y2 : wr.frozen? ⟨w.heap.size, 2, none⟩ = false := frozen_of_row _ _ _ _ _ HR0.out
      clear hlt v0 v1 v2
      go_wp2
      have hFe : F = foldC m.b m.waits := by rw [HFF.out, ← HEQ.out, ← List.map_take, List.take_length]
      have hF3 := (((Fr.refl (fun q => q = w.heap.size) wr).setCell (p := ⟨w.heap.size, 0, none⟩) (fun _ => rfl) (.slice (A' 0) (F 0).length (k' 0))).setCell (p := ⟨w.heap.size, 1, none⟩) (fun _ => rfl) (.slice (A' 1) (F 1).length (k' 1))).setCell (p := ⟨w.heap.size, 2, none⟩) (fun _ => rfl) (.slice (A' 2) (F 2).length (k' 2))
      refine bodyPost_ret (results_cell_row rfl _ _ w.heap.size 29 #[.slice (A' 0) (F 0).length (k' 0), .slice (A' 1) (F 1).length (k' 1), .slice (A' 2) (F 2).length (k' 2)] (0, 0) _ rfl (heap_setCell_same _ _ 2 _ _ _ (heap_setCell_same _ _ 1 _ _ _ (heap_setCell_same _ _ 0 _ _ _ HR0.out))) Tryd.underlying29 rfl info_arr3) rfl ⟨A', k', by rw [← hFe]; rfl, fun i hi => ?_, HB.out.trans (hF3.below HB.out.size fun q _ e => by omega)⟩
      rw [← hFe]
      obtain ⟨o1, o2⟩ := HOB.out i hi
      refine ⟨OwnS.kept o1 hF3 fun q hq e => ?_, fun q hq => (o2 q hq).imp id fun h => ⟨by omega, ?_⟩⟩
      · subst e
        obtain ⟨cur, hcur⟩ := own_type o1 hq
        exact absurd (types_ne hcur HR0.out) (by decide)
      · exact Nat.lt_of_lt_of_le (OB.lt o1 q hq).2 hF3.size
end
end Go.Proofs.YtifjddkgnfanaaaDoor

/- The document's disk (layer 17): Free, unit, wait. -/
namespace Go.Proofs.YtifjddkgnfanaaaDoor
open Go.RowKit

theorem info_rchg : (Tryd.prog.info? 70).map (fun i => (i.zero, i.size, i.bytes)) = some (some (.agg #[.int .i64 0, .int .i64 0, .slice none 0 0, .bool false]), 4, 48) := by kernel_rfl
theorem step_append_c {ops : Array Oper} {o : Oper} {a : Act} {w : World} {K : Act → World → Prop} {Q : Exit → Act → World → Prop} {E : Prop} (hgd : o.guard = none) (s x : Operand)
    (ho : o.op = .call { callee := .builtin .append, args := #[s, x], argTypes := #[30, 30] })
    {base : Nat} {v : Value} {n : Nat} {xs : List Value} (hown : OwnS w base 70 4 v n xs) (hs : a.eval s = v)
    {xv : Value} {m : Nat} {news : List Value} (hsrc : Src Tryd.prog 4 30 xv m news w) (hx : a.eval x = xv) (hbytes : n + m ≤ 1000000) (hbase : base ≤ w.heap.size)
    (h : ∀ v' w', OwnS w' base 70 4 v' (n + m) (xs ++ news) → w.grownBy w' v.ownBlock → (v'.ownBlock = v.ownBlock ∨ v'.ownBlock = some w.heap.size) → K (a.put o.dst v') w') :
    if Region.wanted o (yielded ops a.tmps) = true then Oper.wp Tryd.prog o a w K Q else E := by
  obtain ⟨i0, hi, hz0, hz1, hz2⟩ := info_parts4 info_rchg
  exact step_append_ownS hgd s x 30 30 ho i0 _ 48 Tryd.underlying30 hi hz0 hz1 hz2 rfl (by omega) hs hown xv m news hx hsrc (by unfold maxLen; omega) (by omega) hbase fun v' w' h1 h2 h3 => h v' w' h1 h2 h3
theorem own_emptyC {w : World} {q base : Nat} (h : w.heap[q]? = some (.cells #[] 70 (0, 0))) (hb : base ≤ q) : OwnS w base 70 4 (.slice (some ⟨q, 0, none⟩) 0 0) 0 [] :=
  ⟨rfl, .inr ⟨q, 0, 0, #[], rfl, hb, h, Nat.le_refl _, by unfold maxLen; omega, by simp, rfl⟩⟩
/-- A row of changes as an append's source. -/
theorem src_chgs {w : World} {A : Option Addr} {n c : Nat} {ws : List (DChg × Value)} (h : OwnS w 0 70 4 (.slice A n c) n (wcells ws)) (hn : n = ws.length) (hb : ∀ x ∈ ws, ∃ A' n' c', x.2 = .slice A' n' c') : Src Tryd.prog 4 30 (.slice A n c) n (wcells ws) w := by
  have h1 : ∀ u ∈ wcells ws, u.oneCell' = true := fun u hu => by
    obtain ⟨x, hx, hu⟩ := List.mem_flatMap.1 hu
    simp only [List.mem_cons, List.not_mem_nil, or_false] at hu
    obtain ⟨A', n', c', e⟩ := hb x hx
    rcases hu with rfl | rfl | rfl | rfl
    · rfl
    · rfl
    · rw [e]; rfl
    · rfl
  rcases Nat.eq_zero_or_pos n with h0 | h0
  · have hw : ws = [] := List.eq_nil_of_length_eq_zero (by omega)
    subst hw
    rw [h0]
    cases A with
    | none => exact Src.ofNil w Tryd.underlying30 c
    | some a => exact Src.ofSlice w Tryd.underlying30 a 0 c [] (by simp) (by simp) (by simp)
  · obtain ⟨g, o, cap, e, _, _, hc⟩ := h.cells (by rw [wcells_length]; omega)
    injection e with e1 _ e3
    subst e1; subst e3
    exact Src.ofSlice w Tryd.underlying30 _ _ c _ (by rw [wcells_length, hn]) (fun j u hu => by rw [addr_add]; exact hc j u hu) h1

section
variable {w w' : World} {O S : Nat → Prop} {g : Nat} {m m' : DM} {A : Nat → Option Addr} {k : Nat → Nat} {wv : Value} {ws : List (DChg × Value)}

/-- Seen, written out. -/
theorem Seen_X (h : RDV w O g m A k wv ws) (hok : m.Ok) (hn : m.waits.length ≤ 1000) (hf : m.Fold) : Calls Tryd.prog 25 #[.pointer (some ⟨g, 0, none⟩)] w fun e w' => ∃ (B0 B1 B2 : Option Addr) (d0 d1 d2 : Nat), e = .returned (.agg #[.slice B0 (m.b 3).length d0, .slice B1 (m.b 4).length d1, .slice B2 (m.b 5).length d2]) ∧
    OB w' 0 (.slice B0 (m.b 3).length d0) (m.b 3) ∧ OB w' 0 (.slice B1 (m.b 4).length d1) (m.b 4) ∧ OB w' 0 (.slice B2 (m.b 5).length d2) (m.b 5) ∧
    (∀ q, (Value.slice B0 (m.b 3).length d0).ownBlock = some q → O q ∨ (w.heap.size ≤ q ∧ q < w'.heap.size)) ∧ (∀ q, (Value.slice B1 (m.b 4).length d1).ownBlock = some q → O q ∨ (w.heap.size ≤ q ∧ q < w'.heap.size)) ∧ (∀ q, (Value.slice B2 (m.b 5).length d2).ownBlock = some q → O q ∨ (w.heap.size ≤ q ∧ q < w'.heap.size)) ∧ Below w.heap.size w w' := by
  refine (Seen_any h hok hn).mono ?_
  rintro e w' ⟨A', k', rfl, ho, hb⟩
  have f0 : m.b 3 = foldC m.b m.waits 0 := hf 0 (by decide)
  have f1 : m.b 4 = foldC m.b m.waits 1 := hf 1 (by decide)
  have f2 : m.b 5 = foldC m.b m.waits 2 := hf 2 (by decide)
  refine ⟨A' 0, A' 1, A' 2, k' 0, k' 1, k' 2, by rw [f0, f1, f2]; rfl, ?_, ?_, ?_, ?_, ?_, ?_, hb⟩
  · rw [f0]; exact (ho 0 (by decide)).1
  · rw [f1]; exact (ho 1 (by decide)).1
  · rw [f2]; exact (ho 2 (by decide)).1
  · rw [f0]; exact (ho 0 (by decide)).2
  · rw [f1]; exact (ho 1 (by decide)).2
  · rw [f2]; exact (ho 2 (by decide)).2

set_option maxHeartbeats 2000000 in
set_option maxRecDepth 100000 in
theorem RFree_any (h : RDV w O g m A k wv ws) (hok : m.Ok) (hn : m.waits.length ≤ 1000) (hf : m.Fold) : Calls Tryd.prog 26 #[.pointer (some ⟨g, 0, none⟩)] w fun e w' => e = .returned (.int .i64 m.free) ∧ Below w.heap.size w w' := by
  have HS := Lib.hid (Seen_X h hok hn hf)
  have c0 : w.cell? ⟨g, 0, none⟩ = some (.int .i64 m.room) := h.cell 0
  have HC0 := Lib.hid c0
  have r0 := hok.room0
  have r1 := hok.room1
  have l3 := hok.len 3 (by omega)
  have l4 := hok.len 4 (by omega)
  have l5 := hok.len 5 (by omega)
  have HF : Hid (m.free = m.room - ((m.b 3).length : Int) - ((m.b 4).length : Int) - ((m.b 5).length : Int)) := Lib.hid rfl
  rw [HF.out]
  clear h hok hn hf c0 HF
  generalize (m.b 3).length = n3 at *
  generalize (m.b 4).length = n4 at *
  generalize (m.b 5).length = n5 at *
  generalize m.room = rm at *
  go_enter Tryd.func26, Tryd.ntmps26
  go_wp2_with (first
    | (go_at_call 25; go_loud ((with_reducible refine HS.out.mono ?_); rintro e w1 ⟨B0, B1, B2, d0, d1, d2, rfl, -, -, -, -, -, -, hb1⟩; have B1' := Lib.hid hb1; clear hb1))
    | fail)
  have D0 := (Below.refl w1.heap.size w1).alloc (Nat.le_refl _) (.cells #[.slice B0 n3 d0, .slice B1 n4 d1, .slice B2 n5 d2] 29)
  have hrow := heap_alloc_new w1 (.cells #[.slice B0 n3 d0, .slice B1 n4 d1, .slice B2 n5 d2] 29)
  obtain ⟨w2, hw2⟩ : ∃ W, W = w1.alloc (.cells #[.slice B0 n3 d0, .slice B1 n4 d1, .slice B2 n5 d2] 29) := ⟨_, rfl⟩
  rw [← hw2] at D0 hrow ⊢
  have e0 : w2.cell? ⟨g, 0, none⟩ = some (.int .i64 rm) := Keeps.of_below D0 _ _ (Keeps.of_below B1'.out _ _ HC0.out)
  have e1 : w2.cell? ⟨w1.heap.size, 0, none⟩ = some (.slice B0 n3 d0) := cell_of_row _ _ 0 _ _ _ hrow
  have e2 : w2.cell? ⟨w1.heap.size, 1, none⟩ = some (.slice B1 n4 d1) := cell_of_row _ _ 1 _ _ _ hrow
  have e3 : w2.cell? ⟨w1.heap.size, 2, none⟩ = some (.slice B2 n5 d2) := cell_of_row _ _ 2 _ _ _ hrow
  have HB2 : Hid (Below w.heap.size w w2) := Lib.hid (B1'.out.trans (D0.mono B1'.out.size))
  have s1 : IntKind.i64.wrap (rm - (n3 : Int)) = rm - (n3 : Int) := IntWalk.i64_in _ (by omega)
  have s2 : IntKind.i64.wrap (rm - (n3 : Int) - (n4 : Int)) = rm - (n3 : Int) - (n4 : Int) := IntWalk.i64_in _ (by omega)
  have s3 : IntKind.i64.wrap (rm - (n3 : Int) - (n4 : Int) - (n5 : Int)) = rm - (n3 : Int) - (n4 : Int) - (n5 : Int) := IntWalk.i64_in _ (by omega)
  clear hw2 D0 hrow
  go_quiet (fail)
  go_wp2
  go_ret
  exact ⟨rfl, below_drewN HB2.out _⟩

set_option maxHeartbeats 2000000 in
set_option maxRecDepth 100000 in
theorem RUnit_any (h : RDV w O g m A k wv ws) (hok : m.Ok) : Calls Tryd.prog 30 #[.pointer (some ⟨g, 0, none⟩)] w fun e w' => e = .returned (.int .i64 (if m.dead = true then 25 else 0)) ∧ RDV w' O g m.unit A k wv ws ∧ Fr (fun q => q = g) w w' := by
  obtain ⟨room, b, waits, armed, left, gone⟩ := m
  have H := Lib.hid h
  have c5 : w.cell? ⟨g, 5, none⟩ = some (.bool armed) := h.cell 5
  have c6 : w.cell? ⟨g, 6, none⟩ = some (.int .i64 left) := h.cell 6
  have c7 : w.cell? ⟨g, 7, none⟩ = some (.bool gone) := h.cell 7
  have f6 := h.free 6
  have f7 := h.free 7
  have l0 : 0 ≤ left := hok.left0
  have l1 : left ≤ 9223372036854775807 := hok.left1
  have HL := Lib.hid l1
  clear h hok l1
  have hf := fun x => (Fr.refl (fun q => q = g) w).setCell (p := ⟨g, x, none⟩) (fun _ => rfl)
  have HFr := Lib.hid hf
  clear hf
  cases gone with
  | true =>
    go_enter Tryd.func30, Tryd.ntmps30
    go_wp2
    go_ret
    exact ⟨rfl, H.out.turn (HFr.out 7 _) (heap_setCell_same _ _ _ _ _ _ H.out.cells) rfl rfl, HFr.out 7 _⟩
  | false =>
    cases armed with
    | false =>
      go_enter Tryd.func30, Tryd.ntmps30
      go_wp2
      go_ret
      exact ⟨rfl, H.out, Fr.refl _ _⟩
    | true =>
      by_cases h0 : left = 0
      · subst h0
        go_enter Tryd.func30, Tryd.ntmps30
        go_wp2
        go_ret
        exact ⟨rfl, H.out.turn (HFr.out 7 _) (heap_setCell_same _ _ _ _ _ _ H.out.cells) rfl rfl, HFr.out 7 _⟩
      · have q0 : (left == 0) = false := by simpa using h0
        have q1 : 1 ≤ left := by omega
        have q2 : IntKind.i64.wrap (left - 1) = left - 1 := IntWalk.i64_in _ (by have := HL.out; omega)
        have HD : Hid ((DM.mk room b waits true left false).dead = false ∧ (DM.mk room b waits true left false).unit = DM.mk room b waits true (left - 1) false) := Lib.hid (by
          have hd : (DM.mk room b waits true left false).dead = false := by unfold DM.dead; simp [h0]
          exact ⟨hd, by unfold DM.unit; rw [hd]; rfl⟩)
        rw [HD.out.1, HD.out.2]
        clear h0
        go_enter Tryd.func30, Tryd.ntmps30
        go_wp2
        go_ret
        exact ⟨rfl, H.out.turn (HFr.out 6 _) (heap_setCell_same _ _ _ _ _ _ H.out.cells) rfl rfl, HFr.out 6 _⟩
end
end Go.Proofs.YtifjddkgnfanaaaDoor

/- The document's disk (layer 17): wait. -/
namespace Go.Proofs.YtifjddkgnfanaaaDoor
open Go.RowKit

theorem wc_one (c : DChg) (v : Value) : wcells [(c, v)] = [.int .i64 (c.area : Int), .int .i64 (c.pos : Int), v, .bool c.cuts] := rfl
theorem src_keptC {wa w7 : World} {q qX kx : Nat} {c : DChg} {AX : Option Addr} (hc : wa.heap[qX]? = some (.cells #[.int .i64 (c.area : Int), .int .i64 (c.pos : Int), .slice AX c.bytes.length kx, .bool c.cuts] 70 (0, 0))) (hg : wa.grownBy w7 (Value.slice (some ⟨q, 0, none⟩) 0 0).ownBlock) (hne : qX ≠ q) :
    Src Tryd.prog 4 30 (.slice (some ⟨qX, 0, none⟩) 1 1) 1 (wcells [(c, .slice AX c.bytes.length kx)]) w7 := by
  have h7 := ((Fr.of_grown hg).block qX (Array.getElem?_eq_some_iff.1 hc).1 (fun e => by injection e with e; exact hne e)).trans hc
  exact Src.ofSlice _ Tryd.underlying30 _ _ 1 _ rfl (fun j u hu => World.news_of_block (cs := #[.int .i64 (c.area : Int), .int .i64 (c.pos : Int), .slice AX c.bytes.length kx, .bool c.cuts]) h7 j u hu) (fun u hu => by
    rw [wc_one] at hu
    simp only [List.mem_cons, List.not_mem_nil, or_false] at hu
    rcases hu with rfl | rfl | rfl | rfl <;> rfl)
theorem src_newC (w7 : World) (c : DChg) (AX : Option Addr) (kx : Nat) : Src Tryd.prog 4 30 (.slice (some ⟨w7.heap.size, 0, none⟩) 1 1) 1 (wcells [(c, .slice AX c.bytes.length kx)]) (w7.alloc (.cells #[.int .i64 (c.area : Int), .int .i64 (c.pos : Int), .slice AX c.bytes.length kx, .bool c.cuts] 70)) :=
  Src.ofSlice _ Tryd.underlying30 _ _ 1 _ rfl (fun j u hu => World.news_of_block (cs := #[.int .i64 (c.area : Int), .int .i64 (c.pos : Int), .slice AX c.bytes.length kx, .bool c.cuts]) (heap_alloc_new w7 _) j u hu) (fun u hu => by
    rw [wc_one] at hu
    simp only [List.mem_cons, List.not_mem_nil, or_false] at hu
    rcases hu with rfl | rfl | rfl | rfl <;> rfl)

section
variable {w w' : World} {O S : Nat → Prop} {g : Nat} {m m' : DM} {A : Nat → Option Addr} {k : Nat → Nat} {wv : Value} {ws : List (DChg × Value)}
/-- One change more waits. -/
theorem RDV.more {c : DChg} {AX : Option Addr} {kx n8 : Nat} {A8 : Option Addr} {c8 : Nat} {w8 : World} (h : RDV w O g m A k wv ws) (hb : Below w.heap.size w w8) (hv : OwnS w8 w.heap.size 70 4 (.slice A8 n8 c8) n8 (wcells ws ++ wcells [(c, .slice AX c.bytes.length kx)])) (hn : n8 = ws.length + 1)
    (hx : OB w 0 (.slice AX c.bytes.length kx) c.bytes) (hxO : ∀ q, (Value.slice AX c.bytes.length kx).ownBlock = some q → O q) :
    RDV (w8.setCell ⟨g, 4, none⟩ (.slice A8 n8 c8)) (ext O w (w8.setCell ⟨g, 4, none⟩ (.slice A8 n8 c8))) g (m.wait c) A k (.slice A8 n8 c8) (ws ++ [(c, .slice AX c.bytes.length kx)]) ∧ Fr (fun q => q = g) w (w8.setCell ⟨g, 4, none⟩ (.slice A8 n8 c8)) := by
  have h8 := h.below hb
  have hF : Fr (fun q => q = g) w8 (w8.setCell ⟨g, 4, none⟩ (.slice A8 n8 c8)) := (Fr.refl (fun q => q = g) w8).setCell (p := ⟨g, 4, none⟩) (fun _ => rfl) _
  have eb : ∀ i, i < 3 → (m.wait c).b i = m.b i := fun i hi => updB_other _ _ _ _ (by omega)
  have ea : ∀ i, i < 3 → av A k (m.wait c).b i = av A k m.b i := fun i hi => by unfold av; rw [eb i hi]
  have hrow := heap_setCell_same _ _ 4 _ _ (.slice A8 n8 c8) h8.cells
  have key : ∀ (v : Value) (l : List UInt8), OB w 0 v l → OB (w8.setCell ⟨g, 4, none⟩ (.slice A8 n8 c8)) 0 v l := fun v l ho => OwnS.kept (ho.below hb) hF fun q hq e => h.ne ho (by rw [← e]; exact hq)
  refine ⟨⟨?_, fun i hi => ?_, ?_, ?_, fun x hx' => ?_, .inl h.ownG, fun i hi q hq => ?_, fun q hq => ?_, fun x hx' q hq => ?_⟩, (Fr.of_below hb).trans hF fun _ _ e => e⟩
  · rw [hrow]
    unfold rcellsD
    rw [ea 0 (by decide), ea 1 (by decide), ea 2 (by decide)]
    rfl
  · rw [ea i hi, eb i hi]
    exact key _ _ (h.areas i hi)
  · rw [List.length_append, wcells_append]
    subst hn
    refine (OwnS.kept hv hF fun q hq e => ?_).mono fun q _ => Nat.zero_le _
    subst e
    obtain ⟨cur, hc⟩ := own_type hv hq
    exact absurd (types_ne hc h8.cells) (by decide)
  · rw [List.map_append, h.eq]; rfl
  · rcases List.mem_append.1 hx' with hx' | hx'
    · exact key _ _ (h.bytes x hx')
    · rw [List.mem_singleton.1 hx']; exact key _ _ hx
  · rw [ea i hi] at hq
    exact .inl (h.ownB i hi q hq)
  · exact .inr ⟨(OwnS.lt hv q hq).1, Nat.lt_of_lt_of_le (OwnS.lt hv q hq).2 hF.size⟩
  · rcases List.mem_append.1 hx' with hx' | hx'
    · exact .inl (h.ownX x hx' q hq)
    · rw [List.mem_singleton.1 hx'] at hq; exact .inl (hxO q hq)

set_option maxHeartbeats 8000000 in
set_option maxRecDepth 100000 in
theorem RWait_any (c : DChg) (AX : Option Addr) (kx : Nat) (h : RDV w O g m A k wv ws) (hok : m.Ok) (hn : m.waits.length ≤ 1000) (hx : OB w 0 (.slice AX c.bytes.length kx) c.bytes) (hxO : ∀ q, (Value.slice AX c.bytes.length kx).ownBlock = some q → O q) :
    Calls Tryd.prog 27 #[.pointer (some ⟨g, 0, none⟩), .agg #[.int .i64 (c.area : Int), .int .i64 (c.pos : Int), .slice AX c.bytes.length kx, .bool c.cuts]] w fun e w' => e = .returned (.int .i64 (if m.dead = true then 25 else 0)) ∧ RefAt w' (ext O w w') g (if m.dead = true then m.unit else m.unit.wait c) ∧ Fr (fun q => q = g) w w' := by
  have D0 := (Below.refl w.heap.size w).alloc (Nat.le_refl _) (.cells #[.int .i64 (c.area : Int), .int .i64 (c.pos : Int), .slice AX c.bytes.length kx, .bool c.cuts] 70)
  have hrow := heap_alloc_new w (.cells #[.int .i64 (c.area : Int), .int .i64 (c.pos : Int), .slice AX c.bytes.length kx, .bool c.cuts] 70)
  have H1 := Lib.hid (RUnit_any (h.below D0) hok)
  have HX := Lib.hid (OB.below hx D0)
  have HXO := Lib.hid hxO
  have hgl := h.lt
  have hgc := (h.below D0).cells
  have hwn : ws.length ≤ 1000 := by rw [← List.length_map (fun x : DChg × Value => x.1), h.eq]; exact hn
  have HN := Lib.hid hwn
  have HNE : Hid (w.heap.size ≠ g) := Lib.hid (by omega)
  obtain ⟨AW, cW, eW, _, _⟩ := h.wts.form
  subst eW
  obtain ⟨wb, hwb⟩ : ∃ W, W = w.alloc (.cells #[.int .i64 (c.area : Int), .int .i64 (c.pos : Int), .slice AX c.bytes.length kx, .bool c.cuts] 70) := ⟨_, rfl⟩
  rw [← hwb] at D0 hrow H1 HX hgc
  have HG := Lib.hid hgc
  have HWB := Lib.hid hwb
  have HD0 := Lib.hid D0
  have HRow := Lib.hid hrow
  clear h hok hn hx hxO D0 hrow hwb hgl hwn hgc
  cases hd : m.dead with
  | true =>
    rw [hd, if_pos rfl] at H1
    rw [if_pos rfl, if_pos rfl]
    clear hd
    go_enter Tryd.func27, Tryd.ntmps27
    go_wp2_with (first
      | (go_at_call 30; go_loud (rw [← HWB.out]; (with_reducible refine H1.out.mono ?_); rintro e w1 ⟨rfl, hv1, hf1⟩; have V1 := Lib.hid hv1; have F1 := Lib.hid hf1; clear hv1 hf1))
      | fail)
    go_ret
    exact ⟨rfl, ⟨_, _, _, _, V1.out.mono fun _ _ h => .inl h⟩, (Fr.of_below HD0.out).trans F1.out fun _ _ e => e⟩
  | false =>
  rw [hd, if_neg (by decide)] at H1
  rw [if_neg (by decide), if_neg (by decide)]
  clear hd
  go_enter Tryd.func27, Tryd.ntmps27
  go_wp2_with (first
    | (go_at_call 30; go_loud (rw [← HWB.out]; (with_reducible refine H1.out.mono ?_); rintro e w1 ⟨rfl, hv1, hf1⟩; have V1 := Lib.hid hv1; have F1 := Lib.hid hf1; clear hv1 hf1))
    | fail)
  have hrow1 := (F1.out.block w.heap.size ((Array.getElem?_eq_some_iff.1 HRow.out).1) HNE.out).trans HRow.out
  have b0 : w1.cell? ⟨w.heap.size, 0, none⟩ = some (.int .i64 (c.area : Int)) := cell_of_row _ _ 0 _ _ _ hrow1
  have b1 : w1.cell? ⟨w.heap.size, 1, none⟩ = some (.int .i64 (c.pos : Int)) := cell_of_row _ _ 1 _ _ _ hrow1
  have b2 : w1.cell? ⟨w.heap.size, 2, none⟩ = some (.slice AX c.bytes.length kx) := cell_of_row _ _ 2 _ _ _ hrow1
  have b3 : w1.cell? ⟨w.heap.size, 3, none⟩ = some (.bool c.cuts) := cell_of_row _ _ 3 _ _ _ hrow1
  have g4 : w1.cell? ⟨g, 4, none⟩ = some (.slice AW ws.length cW) := V1.out.cell 4
  have KW : Hid (∀ W, Below w1.heap.size w1 W → W.cell? ⟨g, 4, none⟩ = some (.slice AW ws.length cW) ∧ W.cell? ⟨w.heap.size, 0, none⟩ = some (.int .i64 (c.area : Int)) ∧ W.cell? ⟨w.heap.size, 1, none⟩ = some (.int .i64 (c.pos : Int)) ∧ W.cell? ⟨w.heap.size, 2, none⟩ = some (.slice AX c.bytes.length kx) ∧ W.cell? ⟨w.heap.size, 3, none⟩ = some (.bool c.cuts)) := Lib.hid fun W hW =>
    ⟨Keeps.of_below hW _ _ g4, Keeps.of_below hW _ _ b0, Keeps.of_below hW _ _ b1, Keeps.of_below hW _ _ b2, Keeps.of_below hW _ _ b3⟩
  have KA : Hid (∀ W o, Below w1.heap.size w1 W → (W.alloc o).cell? ⟨g, 4, none⟩ = some (.slice AW ws.length cW) ∧ (W.alloc o).cell? ⟨w.heap.size, 0, none⟩ = some (.int .i64 (c.area : Int)) ∧ (W.alloc o).cell? ⟨w.heap.size, 1, none⟩ = some (.int .i64 (c.pos : Int)) ∧ (W.alloc o).cell? ⟨w.heap.size, 2, none⟩ = some (.slice AX c.bytes.length kx) ∧ (W.alloc o).cell? ⟨w.heap.size, 3, none⟩ = some (.bool c.cuts)) := Lib.hid fun W o hW => KW.out _ (hW.alloc hW.size o)
  have SW : Hid (∀ W, Below w1.heap.size w1 W → Src Tryd.prog 4 30 (.slice AW ws.length cW) ws.length (wcells ws) W) := Lib.hid fun W hW => src_chgs (OwnS.below V1.out.wts hW) rfl fun x hx => by
    obtain ⟨A', c', e, _⟩ := (V1.out.bytes x hx).form
    exact ⟨_, _, _, e⟩
  have a4 := fun o => (KA.out w1 o (Below.refl _ _)).1
  have a0 := fun o => (KA.out w1 o (Below.refl _ _)).2.1
  have a1 := fun o => (KA.out w1 o (Below.refl _ _)).2.2.1
  have a2 := fun o => (KA.out w1 o (Below.refl _ _)).2.2.2.1
  have a3 := fun o => (KA.out w1 o (Below.refl _ _)).2.2.2.2
  have e4 := fun o o' => (KA.out (w1.alloc o) o' ((Below.refl _ _).alloc (Nat.le_refl _) _)).1
  have e0 := fun o o' => (KA.out (w1.alloc o) o' ((Below.refl _ _).alloc (Nat.le_refl _) _)).2.1
  have e1 := fun o o' => (KA.out (w1.alloc o) o' ((Below.refl _ _).alloc (Nat.le_refl _) _)).2.2.1
  have e2 := fun o o' => (KA.out (w1.alloc o) o' ((Below.refl _ _).alloc (Nat.le_refl _) _)).2.2.2.1
  have e3 := fun o o' => (KA.out (w1.alloc o) o' ((Below.refl _ _).alloc (Nat.le_refl _) _)).2.2.2.2
  clear hrow1
  go_region_law (first
    | (refine step_append_c rfl (.tmp 11) (.tmp 15) (by rfl) (own_emptyC (w := (w1.alloc (.cells #[] 70)).drew) (q := w1.heap.size) (base := w1.heap.size) (heap_alloc_new w1 _) (by omega)) (by rfl) (SW.out _ (below_d1 ((Below.refl _ w1).alloc (Nat.le_refl _) _))) (by rfl) (by have := HN.out; omega) (by simp) ?_; intro v7 w7 hown7 hgr7 hat7; rw [Nat.zero_add, List.nil_append] at hown7; obtain ⟨A7, c7, rfl, -, -⟩ := hown7.form; have B7 : Hid (Below w1.heap.size w1 w7) := Lib.hid (grown_new (below_d1 ((Below.refl _ w1).alloc (Nat.le_refl _) _)) hgr7 (by omega)); obtain ⟨y4, yb0, yb1, yb2, yb3⟩ := KW.out w7 B7.out; have O7 := Lib.hid hown7; have za0 := fun o => KA.out w7 o B7.out; clear hown7 hgr7 hat7)
    | (refine step_append_c rfl (.tmp 11) (.tmp 15) (by rfl) (own_emptyC (w := ((w1.alloc (.cells #[] 70)).alloc (.cells #[.int .i64 (c.area : Int), .int .i64 (c.pos : Int), .slice AX c.bytes.length kx, .bool c.cuts] 70)).drew) (q := w1.heap.size) (base := w1.heap.size) (two_allocs w1 (.cells #[] 70) (.cells #[.int .i64 (c.area : Int), .int .i64 (c.pos : Int), .slice AX c.bytes.length kx, .bool c.cuts] 70)).1 (by omega)) (by rfl) (SW.out _ (below_d1 (two_allocs w1 (.cells #[] 70) (.cells #[.int .i64 (c.area : Int), .int .i64 (c.pos : Int), .slice AX c.bytes.length kx, .bool c.cuts] 70)).2.2)) (by rfl) (by have := HN.out; omega) (by simp; omega) ?_; intro v7 w7 hown7 hgr7 hat7; rw [Nat.zero_add, List.nil_append] at hown7; obtain ⟨A7, c7, rfl, -, -⟩ := hown7.form; have B7 : Hid (Below w1.heap.size w1 w7) := Lib.hid (grown_new (below_d1 (two_allocs w1 (.cells #[] 70) (.cells #[.int .i64 (c.area : Int), .int .i64 (c.pos : Int), .slice AX c.bytes.length kx, .bool c.cuts] 70)).2.2) hgr7 (by omega)); obtain ⟨y4, yb0, yb1, yb2, yb3⟩ := KW.out w7 B7.out; have O7 := Lib.hid hown7; have X7 := Lib.hid (src_keptC (wa := ((w1.alloc (.cells #[] 70)).alloc (.cells #[.int .i64 (c.area : Int), .int .i64 (c.pos : Int), .slice AX c.bytes.length kx, .bool c.cuts] 70)).drew) (two_allocs w1 (.cells #[] 70) (.cells #[.int .i64 (c.area : Int), .int .i64 (c.pos : Int), .slice AX c.bytes.length kx, .bool c.cuts] 70)).2.1 hgr7 (by omega)); clear hown7 hgr7 hat7)
    | (refine step_append_c rfl (.tmp 11) (.tmp 15) (by rfl) (own_emptyC (w := ((w1.alloc (.cells #[.int .i64 (c.area : Int), .int .i64 (c.pos : Int), .slice AX c.bytes.length kx, .bool c.cuts] 70)).alloc (.cells #[] 70)).drew) (q := w1.heap.size + 1) (base := w1.heap.size) (two_allocs w1 (.cells #[.int .i64 (c.area : Int), .int .i64 (c.pos : Int), .slice AX c.bytes.length kx, .bool c.cuts] 70) (.cells #[] 70)).2.1 (by omega)) (by rfl) (SW.out _ (below_d1 (two_allocs w1 (.cells #[.int .i64 (c.area : Int), .int .i64 (c.pos : Int), .slice AX c.bytes.length kx, .bool c.cuts] 70) (.cells #[] 70)).2.2)) (by rfl) (by have := HN.out; omega) (by simp; omega) ?_; intro v7 w7 hown7 hgr7 hat7; rw [Nat.zero_add, List.nil_append] at hown7; obtain ⟨A7, c7, rfl, -, -⟩ := hown7.form; have B7 : Hid (Below w1.heap.size w1 w7) := Lib.hid (grown_new (below_d1 (two_allocs w1 (.cells #[.int .i64 (c.area : Int), .int .i64 (c.pos : Int), .slice AX c.bytes.length kx, .bool c.cuts] 70) (.cells #[] 70)).2.2) hgr7 (by omega)); obtain ⟨y4, yb0, yb1, yb2, yb3⟩ := KW.out w7 B7.out; have O7 := Lib.hid hown7; have X7 := Lib.hid (src_keptC (wa := ((w1.alloc (.cells #[.int .i64 (c.area : Int), .int .i64 (c.pos : Int), .slice AX c.bytes.length kx, .bool c.cuts] 70)).alloc (.cells #[] 70)).drew) (two_allocs w1 (.cells #[.int .i64 (c.area : Int), .int .i64 (c.pos : Int), .slice AX c.bytes.length kx, .bool c.cuts] 70) (.cells #[] 70)).1 hgr7 (by omega)); clear hown7 hgr7 hat7)
    | (refine step_append_c rfl (.tmp 16) (.tmp 18) (by rfl) (O7.out.alloc _) (by rfl) (src_newC w7 c AX kx) (by rfl) (by have := HN.out; omega) (by have := B7.out.size; simp; omega) ?_; intro v8 w8 hown8 hgr8 hat8; obtain ⟨A8, c8, rfl, -, -⟩ := hown8.form; have B8 : Hid (Below w1.heap.size w1 w8) := Lib.hid ((B7.out.alloc B7.out.size _).grown hgr8 (by have := B7.out.size; simp; omega) fun q hq => (OwnS.lt O7.out q hq).1); have fz8 : w8.frozen? ⟨g, 4, none⟩ = false := (V1.out.below B8.out).free 4; obtain ⟨z4, -, -, -, -⟩ := KW.out w8 B8.out; have O8 := Lib.hid hown8; clear hown8 hgr8 hat8)
    | (refine step_append_c rfl (.tmp 16) (.tmp 18) (by rfl) O7.out (by rfl) X7.out (by rfl) (by have := HN.out; omega) B7.out.size ?_; intro v8 w8 hown8 hgr8 hat8; obtain ⟨A8, c8, rfl, -, -⟩ := hown8.form; have B8 : Hid (Below w1.heap.size w1 w8) := Lib.hid (B7.out.grown hgr8 B7.out.size fun q hq => (OwnS.lt O7.out q hq).1); have fz8 : w8.frozen? ⟨g, 4, none⟩ = false := (V1.out.below B8.out).free 4; obtain ⟨z4, -, -, -, -⟩ := KW.out w8 B8.out; have O8 := Lib.hid hown8; clear hown8 hgr8 hat8)
    | fail)
  all_goals
    go_wp2
    go_ret
    obtain ⟨r1, r2⟩ := V1.out.more B8.out O8.out rfl (OwnS.kept HX.out F1.out fun q hq e => by
      subst e
      obtain ⟨cur, hcur⟩ := own_type HX.out hq
      exact absurd (types_ne hcur HG.out) (by decide)) HXO.out
    exact ⟨rfl, ⟨_, _, _, _, r1.mono fun q hq ho => ho.imp id fun h => ⟨by have := HD0.out.size; have := F1.out.size; omega, hq⟩⟩, ((Fr.of_below HD0.out).trans F1.out fun _ _ e => e).trans r2 fun _ _ e => e⟩
end
end Go.Proofs.YtifjddkgnfanaaaDoor

/- The document's disk (layer 17): Write, Cut, Sync. -/
namespace Go.Proofs.YtifjddkgnfanaaaDoor
open Go.RowKit

section
variable {w w' w0 : World} {O S : Nat → Prop} {g : Nat} {m m' : DM} {A : Nat → Option Addr} {k : Nat → Nat} {wv : Value} {ws : List (DChg × Value)}
theorem RefAt.of (h : RefAt w' (ext (ext O w w0) w0 w') g m) (h1 : w.heap.size ≤ w0.heap.size) (h2 : w0.heap.size ≤ w'.heap.size) : RefAt w' (ext O w w') g m := by
  obtain ⟨A, k, wv, ws, hv⟩ := h
  exact ⟨A, k, wv, ws, hv.mono fun q _ hq => ext_trans h1 h2 hq⟩

theorem RWrite_out (area at_ : Int) (B : Option Addr) (n kb : Nat) (w : World) (hr : ¬ (0 ≤ area ∧ area < 3)) : Calls Tryd.prog 8 #[.pointer (some ⟨g, 0, none⟩), .int .i64 area, .int .i64 at_, .slice B n kb] w fun e w' => e = .returned (.int .i64 1) ∧ w = w' := by
  by_cases h1 : area < 0
  · have q1 : decide (area < 0) = true := decide_eq_true h1
    go_enter Tryd.func8, Tryd.ntmps8
    go_wp2
    go_ret
    exact ⟨rfl, rfl⟩
  · have q1 : decide (area < 0) = false := decide_eq_false h1
    have q2 : decide (2 < area) = true := decide_eq_true (by omega)
    clear h1 hr
    go_enter Tryd.func8, Tryd.ntmps8
    go_wp2
    go_ret
    exact ⟨rfl, rfl⟩

theorem writeE_in (m : DM) (a : Nat) (ha : a < 3) (at_ : Int) (n : Nat) (l : Nat) (hl : (m.b (3 + a)).length = l) (hf : 0 ≤ m.free) :
    m.writeE (a : Int) at_ n = if at_ < 0 ∨ (l : Int) < at_ then 1 else if 0 < at_ + n - l ∧ m.free < at_ + n - l then 26 else if m.dead = true then 25 else 0 := by
  subst hl
  unfold DM.writeE
  rw [Int.toNat_natCast]
  by_cases h1 : at_ < 0 ∨ ((m.b (3 + a)).length : Int) < at_
  · rw [if_pos (.inr h1), if_pos h1]
  · rw [if_neg (by rintro (h | h); omega; exact h1 h), if_neg h1]
    by_cases h2 : m.free < at_ + n - ((m.b (3 + a)).length : Int)
    · rw [if_pos h2, if_pos ⟨by omega, h2⟩]
    · have h3 : ¬ (0 < at_ + n - ((m.b (3 + a)).length : Int) ∧ m.free < at_ + n - ((m.b (3 + a)).length : Int)) := fun h => h2 h.2
      rw [if_neg h2, if_neg h3]

theorem run_index3 (B0 B1 B2 : Option Addr) (d0 d1 d2 l3 l4 l5 l : Nat) (a : Nat) (ha : a < 3) (h0 : a = 0 → l = l3) (h1 : a = 1 → l = l4) (h2 : a = 2 → l = l5) : ∃ Ba da, ∀ W, (Instr.index 29 (.agg #[.slice B0 l3 d0, .slice B1 l4 d1, .slice B2 l5 d2]) (.int .i64 (a : Int))).run Tryd.prog W = .ok (.slice Ba l da) W := by
  have s1 : ∀ W, (sizeOf 28).run Tryd.prog W = .ok 1 W := fun W => by kernel_rfl
  have s2 : ∀ W, (isAgg 28).run Tryd.prog W = .ok false W := fun W => by kernel_rfl
  have key : ∀ (W : World) (v : Value), ([.slice B0 l3 d0, .slice B1 l4 d1, .slice B2 l5 d2] : List Value)[a]? = some v → (Instr.index 29 (.agg #[.slice B0 l3 d0, .slice B1 l4 d1, .slice B2 l5 d2]) (.int .i64 (a : Int))).run Tryd.prog W = .ok v W := fun W v hv => by
    have p0 : (0 : Int) ≤ (a : Int) := by omega
    simp [Instr.index, run_underlying (Tryd.underlying29), asIntOf, p0, ha, s1, s2, go_sem]
    exact (List.getElem?_eq_some_iff.1 hv).2
  have h : a = 0 ∨ a = 1 ∨ a = 2 := by omega
  rcases h with rfl | rfl | rfl
  · exact ⟨B0, d0, fun W => key W _ (by rw [h0 rfl]; rfl)⟩
  · exact ⟨B1, d1, fun W => key W _ (by rw [h1 rfl]; rfl)⟩
  · exact ⟨B2, d2, fun W => key W _ (by rw [h2 rfl]; rfl)⟩

set_option maxHeartbeats 8000000 in
set_option maxRecDepth 100000 in
theorem RWrite_in (a : Nat) (ha : a < 3) (at_ : Int) (B : Option Addr) (n kb : Nat) (bs : List UInt8) (h : RDV w O g m A k wv ws) (hok : m.Ok) (hn : m.waits.length ≤ 1000) (hf : m.Fold) (h0 : 0 ≤ m.free) (hb : RB w B n bs) (hnb : n ≤ 1048576) :
    Calls Tryd.prog 8 #[.pointer (some ⟨g, 0, none⟩), .int .i64 (a : Int), .int .i64 at_, .slice B n kb] w fun e w' => e = .returned (.int .i64 (m.writeE (a : Int) at_ bs.length : Int)) ∧ RefAt w' (ext O w w') g (m.write (a : Int) at_ bs) ∧ Fr (fun q => q = g) w w' := by
  have HS := Lib.hid (Seen_X h hok hn hf)
  have HV := Lib.hid h
  have HB := Lib.hid hb
  have HBL := Lib.hid hb.1
  obtain ⟨l, hl⟩ : ∃ l, l = (m.b (3 + a)).length := ⟨_, rfl⟩
  obtain ⟨l3, hl3⟩ : ∃ l, l = (m.b 3).length := ⟨_, rfl⟩
  obtain ⟨l4, hl4⟩ : ∃ l, l = (m.b 4).length := ⟨_, rfl⟩
  obtain ⟨l5, hl5⟩ : ∃ l, l = (m.b 5).length := ⟨_, rfl⟩
  have HL : Hid ((a = 0 → l = l3) ∧ (a = 1 → l = l4) ∧ (a = 2 → l = l5)) := Lib.hid ⟨fun e => by subst e; rw [hl, hl3], fun e => by subst e; rw [hl, hl4], fun e => by subst e; rw [hl, hl5]⟩
  have hll : l ≤ 1048576 := by rw [hl]; exact hok.len _ (by omega)
  have HE := Lib.hid (writeE_in m a ha at_ n l hl.symm h0)
  rw [HBL.out, HE.out]
  have HW : Hid (m.write (a : Int) at_ bs = if m.writeE (a : Int) at_ n = 0 then m.unit.wait ⟨a, at_.toNat, bs, false⟩ else if m.writeE (a : Int) at_ n = 25 then m.unit else m) := Lib.hid (by unfold DM.write; rw [HBL.out, Int.toNat_natCast])
  rw [← hl3, ← hl4, ← hl5] at HS
  have HOK := Lib.hid hok
  have HN := Lib.hid hn
  have HFo := Lib.hid hf
  have H0 := Lib.hid h0
  have HA := Lib.hid ha
  have a0 : (0 : Int) ≤ (a : Int) := by omega
  have a1 : (a : Int) < 3 := by omega
  have a2 : decide ((a : Int) < 0) = false := decide_eq_false (by omega)
  have a3 : decide (2 < (a : Int)) = false := decide_eq_false (by omega)
  have a4 : decide (a < 0) = false := decide_eq_false (by omega)
  have a5 : decide (2 < a) = false := decide_eq_false (by omega)
  have hll1 : (l : Int) ≤ 1048576 := by omega
  have hnn : (n : Int) ≤ 1048576 := by omega
  clear h hok hn hf h0 hb hl hl3 hl4 hl5 ha hll hnb
  by_cases c1 : at_ < 0 ∨ (l : Int) < at_
  · have HE1 : Hid (m.writeE (a : Int) at_ n = 1) := Lib.hid (by rw [HE.out, if_pos c1])
    have HM : Hid (m.write (a : Int) at_ bs = m) := Lib.hid (by rw [HW.out, HE1.out]; rfl)
    rw [if_pos c1, HM.out]
    by_cases c2 : at_ < 0
    · have q1 : decide (at_ < 0) = true := decide_eq_true c2
      clear c1 c2
      go_enter Tryd.func8, Tryd.ntmps8
      go_wp2_with (first
        | (go_at_call 25; go_loud ((with_reducible refine HS.out.mono ?_); rintro e w1 ⟨B0, B1, B2, d0, d1, d2, rfl, -, -, -, -, -, -, hb1⟩; have BB1 := Lib.hid hb1; obtain ⟨Ba, da, hix⟩ := run_index3 B0 B1 B2 d0 d1 d2 l3 l4 l5 l a HA.out HL.out.1 HL.out.2.1 HL.out.2.2; clear hb1))
        | fail)
      go_ret
      exact ⟨rfl, ⟨_, _, _, _, (HV.out.below BB1.out).mono fun _ _ h => .inl h⟩, Fr.of_below BB1.out⟩
    · have q1 : decide (at_ < 0) = false := decide_eq_false c2
      have q2 : decide ((l : Int) < at_) = true := decide_eq_true (by omega)
      clear c1 c2
      go_enter Tryd.func8, Tryd.ntmps8
      go_wp2_with (first
        | (go_at_call 25; go_loud ((with_reducible refine HS.out.mono ?_); rintro e w1 ⟨B0, B1, B2, d0, d1, d2, rfl, -, -, -, -, -, -, hb1⟩; have BB1 := Lib.hid hb1; obtain ⟨Ba, da, hix⟩ := run_index3 B0 B1 B2 d0 d1 d2 l3 l4 l5 l a HA.out HL.out.1 HL.out.2.1 HL.out.2.2; clear hb1))
        | fail)
      go_ret
      exact ⟨rfl, ⟨_, _, _, _, (HV.out.below BB1.out).mono fun _ _ h => .inl h⟩, Fr.of_below BB1.out⟩
  · obtain ⟨p, hp⟩ : ∃ p : Nat, at_ = (p : Int) := ⟨at_.toNat, by omega⟩
    subst hp
    have hpl : (p : Int) ≤ (l : Int) := by omega
    have q1 : decide ((p : Int) < 0) = false := decide_eq_false (by omega)
    have q1n : decide (p < 0) = false := decide_eq_false (by omega)
    have q2 : decide ((l : Int) < (p : Int)) = false := decide_eq_false (by omega)
    have q2n : decide (l < p) = false := decide_eq_false (by omega)
    have s1 : IntKind.i64.wrap ((p : Int) + (n : Int) - (l : Int)) = (p : Int) + (n : Int) - (l : Int) := IntWalk.i64_in _ (by omega)
    rw [if_neg c1]
    rw [if_neg c1] at HE
    clear c1
    have HFr : Hid (∀ W, Below w.heap.size w W → Calls Tryd.prog 26 #[.pointer (some ⟨g, 0, none⟩)] W fun e w' => e = .returned (.int .i64 m.free) ∧ Below W.heap.size W w') := Lib.hid fun W hW => RFree_any (HV.out.below hW) HOK.out HN.out HFo.out
    have HWt : Hid (∀ W A3 c3, Below w.heap.size w W → OB W w.heap.size (.slice A3 bs.length c3) bs → Calls Tryd.prog 27 #[.pointer (some ⟨g, 0, none⟩), .agg #[.int .i64 (a : Int), .int .i64 (p : Int), .slice A3 bs.length c3, .bool false]] W fun e w' => e = .returned (.int .i64 (if m.dead = true then 25 else 0)) ∧ RefAt w' (ext O w w') g (if m.dead = true then m.unit else m.unit.wait ⟨a, p, bs, false⟩) ∧ Fr (fun q => q = g) w w') := Lib.hid fun W A3 c3 hW ho => by
      refine (RWait_any ⟨a, p, bs, false⟩ A3 c3 ((HV.out.below hW).mono (O' := ext O w W) fun _ _ h => .inl h) HOK.out HN.out (OB.mono ho (Nat.zero_le _)) fun q hq => .inr (OB.lt ho q hq)).mono ?_
      rintro e w' ⟨h1, h2, h3⟩
      exact ⟨h1, h2.of hW.size h3.size, (Fr.of_below hW).trans h3 fun _ _ e => e⟩
    have HFin : Hid (¬ (0 < (p : Int) + (n : Int) - (l : Int) ∧ m.free < (p : Int) + (n : Int) - (l : Int)) → ∀ W, RefAt W (ext O w W) g (if m.dead = true then m.unit else m.unit.wait ⟨a, p, bs, false⟩) → RefAt W (ext O w W) g (m.write (a : Int) (p : Int) bs)) := Lib.hid fun hno W hr => by
      have e : m.write (a : Int) (p : Int) bs = if m.dead = true then m.unit else m.unit.wait ⟨a, p, bs, false⟩ := by
        rw [HW.out, HE.out, if_neg hno, Int.toNat_natCast]
        cases m.dead <;> rfl
      rw [e]
      exact hr
    have HE26 : Hid ((0 < (p : Int) + (n : Int) - (l : Int) ∧ m.free < (p : Int) + (n : Int) - (l : Int)) → m.write (a : Int) (p : Int) bs = m) := Lib.hid fun h => by rw [HW.out, HE.out, if_pos h]; rfl
    by_cases c2 : 0 < (p : Int) + (n : Int) - (l : Int)
    · have q3 : decide (0 < (p : Int) + (n : Int) - (l : Int)) = true := decide_eq_true c2
      have q3a : decide ((l : Int) < (p : Int) + (n : Int)) = true := decide_eq_true (by omega)
      have q3b : decide (l < p + n) = true := decide_eq_true (by omega)
      by_cases c3 : m.free < (p : Int) + (n : Int) - (l : Int)
      · have q4 : decide (m.free < (p : Int) + (n : Int) - (l : Int)) = true := decide_eq_true c3
        have HM := Lib.hid (HE26.out ⟨c2, c3⟩)
        rw [if_pos ⟨c2, c3⟩, HM.out]
        clear c2 c3 HE
        generalize m.free = fr at *
        go_enter Tryd.func8, Tryd.ntmps8
        go_wp2_with (first
        | (go_at_call 25; go_loud ((with_reducible refine HS.out.mono ?_); rintro e w1 ⟨B0, B1, B2, d0, d1, d2, rfl, -, -, -, -, -, -, hb1⟩; have BB1 := Lib.hid hb1; obtain ⟨Ba, da, hix⟩ := run_index3 B0 B1 B2 d0 d1 d2 l3 l4 l5 l a HA.out HL.out.1 HL.out.2.1 HL.out.2.2; clear hb1))
        | (go_at_call 26; go_loud ((with_reducible refine (HFr.out w1 BB1.out).mono ?_); rintro e w2 ⟨rfl, hb2⟩; have BB2 := Lib.hid (BB1.out.trans (hb2.mono BB1.out.size)); clear hb2))
          | fail)
        go_ret
        exact ⟨rfl, ⟨_, _, _, _, (HV.out.below BB2.out).mono fun _ _ h => .inl h⟩, Fr.of_below BB2.out⟩
      · have q4 : decide (m.free < (p : Int) + (n : Int) - (l : Int)) = false := decide_eq_false c3
        have hno : ¬ (0 < (p : Int) + (n : Int) - (l : Int) ∧ m.free < (p : Int) + (n : Int) - (l : Int)) := fun h => c3 h.2
        rw [if_neg hno]
        replace HFin := Lib.hid (HFin.out hno)
        clear c2 c3 hno HE HE26
        go_enter Tryd.func8, Tryd.ntmps8
        go_wp2_with (first
        | (go_at_call 25; go_loud ((with_reducible refine HS.out.mono ?_); rintro e w1 ⟨B0, B1, B2, d0, d1, d2, rfl, -, -, -, -, -, -, hb1⟩; have BB1 := Lib.hid hb1; obtain ⟨Ba, da, hix⟩ := run_index3 B0 B1 B2 d0 d1 d2 l3 l4 l5 l a HA.out HL.out.1 HL.out.2.1 HL.out.2.2; clear hb1))
        | (go_at_call 26; go_loud ((with_reducible refine (HFr.out w1 BB1.out).mono ?_); rintro e w2 ⟨rfl, hb2⟩; have BB2 := Lib.hid (BB1.out.trans (hb2.mono BB1.out.size)); clear hb2))
        | (at_builtin; go_loud (refine wpList_append_b rfl (.tmp 46) (.tmp 47) 28 (by rfl) (own_emptyB (w := w2.alloc (.cells #[] 5)) (q := w2.heap.size) (base := w2.heap.size) (heap_alloc_new w2 _) (Nat.le_refl _)) (by rfl) (RB.src Tryd.underlying28 (c := kb) ((HB.out.keep (Keeps.of_below BB2.out)).keep (Keeps.of_below ((Below.refl _ w2).alloc (Nat.le_refl _) _)))) (by rfl) (by have := HBL.out; simp; omega) (by simp) ?_; intro v3 w3 hown3 hgr3 hat3; rw [List.nil_append] at hown3; obtain ⟨A3, c3, rfl, -, -, -⟩ := hown3.form; have O3 := Lib.hid (OB.mono hown3 BB2.out.size); have B3 : Hid (Below w.heap.size w w3) := Lib.hid (BB2.out.trans ((grown_new ((Below.refl _ w2).alloc (Nat.le_refl _) _) hgr3 (Nat.le_refl _)).mono BB2.out.size)); clear hown3 hgr3 hat3))
        | (go_at_call 27; go_loud ((with_reducible refine (HWt.out w3 A3 c3 B3.out O3.out).mono ?_); rintro e w4 ⟨rfl, hr4, hf4⟩; have R4 := Lib.hid hr4; have F4 := Lib.hid hf4; clear hr4 hf4))
          | fail)
        all_goals
          go_ret
          exact ⟨rfl, HFin.out _ R4.out, F4.out⟩
    · have q3 : decide (0 < (p : Int) + (n : Int) - (l : Int)) = false := decide_eq_false c2
      have q3a : decide ((l : Int) < (p : Int) + (n : Int)) = false := decide_eq_false (by omega)
      have q3b : decide (l < p + n) = false := decide_eq_false (by omega)
      have hno : ¬ (0 < (p : Int) + (n : Int) - (l : Int) ∧ m.free < (p : Int) + (n : Int) - (l : Int)) := fun h => c2 h.1
      rw [if_neg hno]
      replace HFin := Lib.hid (HFin.out hno)
      clear c2 hno HE HE26 HFr
      go_enter Tryd.func8, Tryd.ntmps8
      go_wp2_with (first
        | (go_at_call 25; go_loud ((with_reducible refine HS.out.mono ?_); rintro e w1 ⟨B0, B1, B2, d0, d1, d2, rfl, -, -, -, -, -, -, hb1⟩; have BB1 := Lib.hid hb1; obtain ⟨Ba, da, hix⟩ := run_index3 B0 B1 B2 d0 d1 d2 l3 l4 l5 l a HA.out HL.out.1 HL.out.2.1 HL.out.2.2; clear hb1))
        | (at_builtin; go_loud (refine wpList_append_b rfl (.tmp 46) (.tmp 47) 28 (by rfl) (own_emptyB (w := w1.alloc (.cells #[] 5)) (q := w1.heap.size) (base := w1.heap.size) (heap_alloc_new w1 _) (Nat.le_refl _)) (by rfl) (RB.src Tryd.underlying28 (c := kb) ((HB.out.keep (Keeps.of_below BB1.out)).keep (Keeps.of_below ((Below.refl _ w1).alloc (Nat.le_refl _) _)))) (by rfl) (by have := HBL.out; simp; omega) (by simp) ?_; intro v3 w3 hown3 hgr3 hat3; rw [List.nil_append] at hown3; obtain ⟨A3, c3, rfl, -, -, -⟩ := hown3.form; have O3 := Lib.hid (OB.mono hown3 BB1.out.size); have B3 : Hid (Below w.heap.size w w3) := Lib.hid (BB1.out.trans ((grown_new ((Below.refl _ w1).alloc (Nat.le_refl _) _) hgr3 (Nat.le_refl _)).mono BB1.out.size)); clear hown3 hgr3 hat3))
        | (go_at_call 27; go_loud ((with_reducible refine (HWt.out w3 A3 c3 B3.out O3.out).mono ?_); rintro e w4 ⟨rfl, hr4, hf4⟩; have R4 := Lib.hid hr4; have F4 := Lib.hid hf4; clear hr4 hf4))
        | fail)
      all_goals
        go_ret
        exact ⟨rfl, HFin.out _ R4.out, F4.out⟩

theorem cutE_in (m : DM) (a : Nat) (ha : a < 3) (n : Int) (l : Nat) (hl : (m.b (3 + a)).length = l) : m.cutE (a : Int) n = if n < 0 ∨ (l : Int) < n then 1 else if m.dead = true then 25 else 0 := by
  subst hl
  unfold DM.cutE
  rw [Int.toNat_natCast]
  by_cases h1 : n < 0 ∨ ((m.b (3 + a)).length : Int) < n
  · rw [if_pos (.inr h1), if_pos h1]
  · rw [if_neg (by rintro (h | h); omega; exact h1 h), if_neg h1]

set_option maxHeartbeats 4000000 in
set_option maxRecDepth 100000 in
theorem RCut_in (a : Nat) (ha : a < 3) (p : Nat) (h : RDV w O g m A k wv ws) (hok : m.Ok) (hn : m.waits.length ≤ 1000) (hf : m.Fold) (hp : p ≤ (m.b (3 + a)).length) :
    Calls Tryd.prog 56 #[.pointer (some ⟨g, 0, none⟩), .int .i64 (a : Int), .int .i64 (p : Int)] w fun e w' => e = .returned (.int .i64 (if m.dead = true then 25 else 0)) ∧ RefAt w' (ext O w w') g (m.cut (a : Int) (p : Int)) ∧ Fr (fun q => q = g) w w' := by
  have HS := Lib.hid (Seen_X h hok hn hf)
  have HV := Lib.hid h
  obtain ⟨l, hl⟩ : ∃ l, l = (m.b (3 + a)).length := ⟨_, rfl⟩
  obtain ⟨l3, hl3⟩ : ∃ l, l = (m.b 3).length := ⟨_, rfl⟩
  obtain ⟨l4, hl4⟩ : ∃ l, l = (m.b 4).length := ⟨_, rfl⟩
  obtain ⟨l5, hl5⟩ : ∃ l, l = (m.b 5).length := ⟨_, rfl⟩
  have HL : Hid ((a = 0 → l = l3) ∧ (a = 1 → l = l4) ∧ (a = 2 → l = l5)) := Lib.hid ⟨fun e => by subst e; rw [hl, hl3], fun e => by subst e; rw [hl, hl4], fun e => by subst e; rw [hl, hl5]⟩
  have hll : l ≤ 1048576 := by rw [hl]; exact hok.len _ (by omega)
  have hpl : p ≤ l := by rw [hl]; exact hp
  have HC := Lib.hid (cutE_in m a ha (p : Int) l hl.symm)
  rw [if_neg (by omega)] at HC
  have HM : Hid (m.cut (a : Int) (p : Int) = if m.dead = true then m.unit else m.unit.wait ⟨a, p, [], true⟩) := Lib.hid (by
    unfold DM.cut
    rw [HC.out, Int.toNat_natCast, Int.toNat_natCast]
    cases m.dead <;> rfl)
  rw [← hl3, ← hl4, ← hl5] at HS
  have HWt : Hid (∀ W, Below w.heap.size w W → Calls Tryd.prog 27 #[.pointer (some ⟨g, 0, none⟩), .agg #[.int .i64 (a : Int), .int .i64 (p : Int), .slice none 0 0, .bool true]] W fun e w' => e = .returned (.int .i64 (if m.dead = true then 25 else 0)) ∧ RefAt w' (ext O w w') g (m.cut (a : Int) (p : Int)) ∧ Fr (fun q => q = g) w w') := Lib.hid fun W hW => by
    rw [HM.out]
    refine (RWait_any ⟨a, p, [], true⟩ none 0 ((h.below hW).mono (O' := ext O w W) fun _ _ h => .inl h) hok hn (OB.nil _ _) fun q hq => by cases hq).mono ?_
    rintro e w' ⟨h1, h2, h3⟩
    exact ⟨h1, h2.of hW.size h3.size, (Fr.of_below hW).trans h3 fun _ _ e => e⟩
  have HA := Lib.hid ha
  have a0 : (0 : Int) ≤ (a : Int) := by omega
  have a1 : (a : Int) < 3 := by omega
  have a2 : decide ((a : Int) < 0) = false := decide_eq_false (by omega)
  have a3 : decide (2 < (a : Int)) = false := decide_eq_false (by omega)
  have a4 : decide (a < 0) = false := decide_eq_false (by omega)
  have a5 : decide (2 < a) = false := decide_eq_false (by omega)
  have q1 : decide ((p : Int) < 0) = false := decide_eq_false (by omega)
  have q1n : decide (p < 0) = false := decide_eq_false (by omega)
  have q2 : decide ((l : Int) < (p : Int)) = false := decide_eq_false (by omega)
  have q2n : decide (l < p) = false := decide_eq_false (by omega)
  clear h hok hn hf hl hl3 hl4 hl5 ha hll hp hpl HM HC
  go_enter Tryd.func56, Tryd.ntmps56
  go_wp2_with (first
    | (go_at_call 25; go_loud ((with_reducible refine HS.out.mono ?_); rintro e w1 ⟨B0, B1, B2, d0, d1, d2, rfl, -, -, -, -, -, -, hb1⟩; have BB1 := Lib.hid hb1; obtain ⟨Ba, da, hix⟩ := run_index3 B0 B1 B2 d0 d1 d2 l3 l4 l5 l a HA.out HL.out.1 HL.out.2.1 HL.out.2.2; clear hb1))
    | (go_at_call 27; go_loud ((with_reducible refine (HWt.out w1 BB1.out).mono ?_); rintro e w4 ⟨rfl, hr4, hf4⟩; have R4 := Lib.hid hr4; have F4 := Lib.hid hf4; clear hr4 hf4))
    | fail)
  all_goals
    go_ret
    exact ⟨rfl, R4.out, F4.out⟩

/-- All that is seen is sure. -/
theorem RDV.flushV {B0 B1 B2 : Option Addr} {d0 d1 d2 : Nat} {w1 : World} (h : RDV w O g m A k wv ws) (hb : Below w.heap.size w w1) (o0 : OB w1 0 (.slice B0 (m.b 3).length d0) (m.b 3)) (o1 : OB w1 0 (.slice B1 (m.b 4).length d1) (m.b 4)) (o2 : OB w1 0 (.slice B2 (m.b 5).length d2) (m.b 5))
    (p0 : ∀ q, (Value.slice B0 (m.b 3).length d0).ownBlock = some q → O q ∨ (w.heap.size ≤ q ∧ q < w1.heap.size)) (p1 : ∀ q, (Value.slice B1 (m.b 4).length d1).ownBlock = some q → O q ∨ (w.heap.size ≤ q ∧ q < w1.heap.size)) (p2 : ∀ q, (Value.slice B2 (m.b 5).length d2).ownBlock = some q → O q ∨ (w.heap.size ≤ q ∧ q < w1.heap.size)) {w2 : World} (hf : Fr (fun q => q = g) w1 w2)
    (hc : w2.heap[g]? = some (.cells #[.int .i64 m.room, .slice B0 (m.b 3).length d0, .slice B1 (m.b 4).length d1, .slice B2 (m.b 5).length d2, .slice none 0 0, .bool m.armed, .int .i64 m.left, .bool m.gone] 32 (0, 0))) : RefAt w2 (ext O w w2) g m.flush ∧ Fr (fun q => q = g) w w2 := by
  have e0 : m.flush.b 0 = m.b 3 := rfl
  have e1 : m.flush.b 1 = m.b 4 := rfl
  have e2 : m.flush.b 2 = m.b 5 := rfl
  have hg1 := h.below hb
  have key : ∀ (v : Value) (l : List UInt8), OB w1 0 v l → OB w2 0 v l := fun v l ho => OwnS.kept ho hf fun q hq e => hg1.ne ho (by rw [← e]; exact hq)
  refine ⟨⟨fun i => if i = 0 then B0 else if i = 1 then B1 else B2, fun i => if i = 0 then d0 else if i = 1 then d1 else d2, .slice none 0 0, [], hc, fun i hi => ?_, OwnS.nil _ _ _ _, rfl, fun x hx => (by cases hx), .inl h.ownG, fun i hi q hq => ?_, fun q hq => (by cases hq), fun x hx => (by cases hx)⟩, (Fr.of_below hb).trans hf fun _ _ e => e⟩
  · have : i = 0 ∨ i = 1 ∨ i = 2 := by omega
    rcases this with rfl | rfl | rfl
    · exact key _ _ o0
    · exact key _ _ o1
    · exact key _ _ o2
  · have hs := hf.size
    have : i = 0 ∨ i = 1 ∨ i = 2 := by omega
    rcases this with rfl | rfl | rfl
    · exact (p0 q hq).imp id fun h => ⟨h.1, by omega⟩
    · exact (p1 q hq).imp id fun h => ⟨h.1, by omega⟩
    · exact (p2 q hq).imp id fun h => ⟨h.1, by omega⟩

set_option maxHeartbeats 4000000 in
set_option maxRecDepth 100000 in
theorem RSync_any (h : RDV w O g m A k wv ws) (hok : m.Ok) (hn : m.waits.length ≤ 1000) (hf : m.Fold) :
    Calls Tryd.prog 10 #[.pointer (some ⟨g, 0, none⟩)] w fun e w' => e = .returned (.int .i64 (if m.dead = true then 25 else 0)) ∧ RefAt w' (ext O w w') g m.sync ∧ Fr (fun q => q = g) w w' := by
  have H1 := Lib.hid (RUnit_any h hok)
  have HU := Lib.hid hok.unit
  have HF := Lib.hid hf.unit
  have HN : Hid (m.unit.waits.length ≤ 1000) := Lib.hid (by rw [m.unit_waits]; exact hn)
  have HM : Hid (m.sync = if m.dead = true then m.unit else m.unit.flush) := Lib.hid rfl
  rw [HM.out]
  clear h hok hn hf HM
  generalize m.unit = m1 at *
  cases hd : m.dead with
  | true =>
    rw [hd, if_pos rfl] at H1
    rw [if_pos rfl, if_pos rfl]
    clear hd
    go_enter Tryd.func10, Tryd.ntmps10
    go_wp2_with (first
      | (go_at_call 30; go_loud ((with_reducible refine H1.out.mono ?_); rintro e w1 ⟨rfl, hv1, hf1⟩; have V1 := Lib.hid hv1; have F1 := Lib.hid hf1; clear hv1 hf1))
      | fail)
    go_ret
    exact ⟨rfl, ⟨_, _, _, _, V1.out.mono fun _ _ h => .inl h⟩, F1.out⟩
  | false =>
    rw [hd, if_neg (by decide)] at H1
    rw [if_neg (by decide), if_neg (by decide)]
    clear hd
    go_enter Tryd.func10, Tryd.ntmps10
    go_wp2_with (first
      | (go_at_call 30; go_loud ((with_reducible refine H1.out.mono ?_); rintro e w1 ⟨rfl, hv1, hf1⟩; have V1 := Lib.hid hv1; have F1 := Lib.hid hf1; have S1 := Lib.hid (Seen_X hv1 HU.out HN.out HF.out); clear hv1 hf1))
      | (go_at_call 25; go_loud ((with_reducible refine S1.out.mono ?_); rintro e w2 ⟨B0, B1, B2, d0, d1, d2, rfl, o0, o1, o2, p0, p1, p2, hb2⟩; have PP := Lib.hid (And.intro o0 (And.intro o1 (And.intro o2 (And.intro p0 (And.intro p1 p2))))); have BB := Lib.hid hb2; have V2 := Lib.hid (V1.out.below hb2); have z1 : w2.cell? ⟨g, 1, none⟩ = some (av A k m1.b 0) := V2.out.cell 1; have z2 : w2.cell? ⟨g, 2, none⟩ = some (av A k m1.b 1) := V2.out.cell 2; have z3 : w2.cell? ⟨g, 3, none⟩ = some (av A k m1.b 2) := V2.out.cell 3; have z4 : w2.cell? ⟨g, 4, none⟩ = some wv := V2.out.cell 4; have y1 := V2.out.free 1; have y2 := V2.out.free 2; have y3 := V2.out.free 3; have y4 := V2.out.free 4; clear o0 o1 o2 p0 p1 p2 hb2))
      | fail)
    go_ret
    have hF := ((((Fr.refl (fun q => q = g) w2).setCell (p := ⟨g, 1, none⟩) (fun _ => rfl) (.slice B0 (m1.b 3).length d0)).setCell (p := ⟨g, 2, none⟩) (fun _ => rfl) (.slice B1 (m1.b 4).length d1)).setCell (p := ⟨g, 3, none⟩) (fun _ => rfl) (.slice B2 (m1.b 5).length d2)).setCell (p := ⟨g, 4, none⟩) (fun _ => rfl) (.slice none 0 0)
    obtain ⟨r1, r2⟩ := V1.out.flushV BB.out PP.out.1 PP.out.2.1 PP.out.2.2.1 PP.out.2.2.2.1 PP.out.2.2.2.2.1 PP.out.2.2.2.2.2 hF (heap_setCell_same _ _ 4 _ _ _ (heap_setCell_same _ _ 3 _ _ _ (heap_setCell_same _ _ 2 _ _ _ (heap_setCell_same _ _ 1 _ _ _ V2.out.cells))))
    refine ⟨rfl, ?_, F1.out.trans r2 fun _ _ e => e⟩
    obtain ⟨A', k', wv', ws', hv⟩ := r1
    exact ⟨A', k', wv', ws', hv.mono fun q _ ho => ho.imp id fun h => ⟨Nat.le_trans F1.out.size h.1, h.2⟩⟩
end
end Go.Proofs.YtifjddkgnfanaaaDoor
