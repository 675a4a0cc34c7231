/- Layer 20 (store): load. -/
import Derived.Test.YtfmagnpmjlppiaaGreatDoorRead
import Derived.Test.YtfmagnpmjlppiaaGreatDoorAll
import Derived.Test.YtfmagnpmjlppiaaGreatDoorApl
import Derived.Test.YtfmagnpmjlppiaaGreatDoorTlvB
namespace Go.Proofs.YtfmagnpmjlppiaaGreatDoor
open Go.RowKit SO
theorem elsz : Tryz.prog.elem 137 = 141 := by simp [Program.elem, Tryz.underlying137]
/-- The tail of a list of elements. -/
theorem run_tailE {lg lo n c : Nat} (hn : 1 ≤ n) (hc : n ≤ c) : ∃ AE, (∀ W, (Instr.slice 137 (.slice (some ⟨lg, lo, none⟩) n c) (some (.int .i64 1)) none none).run Tryz.prog W = .ok (.slice AE (n - 1) (c - 1)) W) ∧ (1 < n → AE = some ⟨lg, lo + 2, none⟩) := by
 have ht' : Tryz.prog.underlying 137 = some (.slice (Tryz.prog.elem 137)) := by rw [elsz]; exact Tryz.underlying137
 have hz : ∀ w, (Go.sizeOf 141).run Tryz.prog w = .ok 2 w := fun w => by
  obtain ⟨i0, hi, hz0, hz1, hz2⟩ := info_parts4 info_elt
  simp [sizeOf, typeInfo, hi, hz1]
 refine ⟨if c = 1 then some ⟨lg, lo, none⟩ else some ⟨lg, lo + 2, none⟩, fun W => ?_, fun h => if_neg (by omega)⟩
 rw [run_slice_l W 137 _ _ _ ht' .i64 _ (by omega) (by omega), elsz, hz]
 simp [Result.andThen, sliced]
 split
 ·rfl
 ·rw [addr_add]
theorem ins_last {κ ν : Type} {lt : κ → κ → Bool} (Ln : Lin lt) {l : List (κ × ν)} {k : κ} {v : ν} (h : ∀ e ∈ l, lt e.1 k = true) : ins lt k v l = l ++ [(k, v)] := by
 have := ins_skip Ln (r := ([] : List (κ × ν))) (v := v) h
 rwa [List.append_nil] at this
/-- A snapshot's elements. -/
def snapK (base : Nat) (tab : List (ByteArray × ObM)) : List (Nat × List UInt8) := (2, intB base) :: tab.map fun x => (48, (evK 1 x.2.kind x.2.ver x.2.space.data.toList x.2.name.data.toList x.2.data).flatten)
theorem snapK_bytes (base : Nat) (tab : List (ByteArray × ObM)) : elemsB (snapK base tab) = snapT base tab := by
 unfold snapK snapT
 rw [elemsB_cons]
 congr 1
 induction tab with
 | nil => rfl
 | cons x l ih => rw [List.map_cons, elemsB_cons, List.flatMap_cons, ih]; rfl
section
variable {w w' w0 : World} {Q : Nat → Prop} {g gs : Nat} {m : DM} {L : LM} {base : Nat} {tab : List (ByteArray × ObM)}
theorem load_empty (A : Option Addr) (c : Nat) (h : SW w0 w Q g m gs L st0) (hc : c ≤ maxLen) :
  Calls Tryz.prog 31 #[.pointer (some ⟨gs, 0, none⟩), .slice A 0 c] w fun e w' => e = .returned .nilIface ∧ SW w0 w' (ext Q w w') g m gs L (StM.at 0 []) ∧ Fr Q w w' ∧ ∀ p, w.cell? ⟨gs, 0, none⟩ = some p → w'.cell? ⟨gs, 0, none⟩ = some p := by
 have HA : Hid (Calls Tryz.prog 74 #[.slice A 0 c] w fun e w' => ∃ A' c', e = .returned (.tuple #[.slice A' 0 c', .nilIface]) ∧ Below w.heap.size w w') := Hj ((All_any A 0 c [] w (fun k hk => by cases hk) (RB.nil _ _) (Nat.zero_le _) hc (by decide)).mono fun e w' => by
  rintro ⟨A', c', xs, rfl, -, -, -, hb⟩
  exact ⟨A', c', rfl, hb⟩)
 have HSW := Hj h
 clear h hc
 go_enter Tryz.func31, Tryz.ntmps31
 go_wp2_with (go_at_call 74; go_loud ((with_reducible refine HA.out.mono ?_); rintro e w1 ⟨A1, c1, rfl, hb1⟩; have HB1 := Hj hb1; clear hb1))
 go_ret
 obtain ⟨r1, r2⟩ := HSW.out.made HB1.out
 exact ⟨rfl, r1, r2, fun p hp => Kz HB1.out _ _ hp⟩
theorem elc_get : ∀ (xs : List (Nat × List UInt8 × Value)) (j : Nat) (x : Nat × List UInt8 × Value), xs[j]? = some x → (xs.flatMap elc)[2 * j]? = some (.int .i64 (x.1 : Int)) ∧ (xs.flatMap elc)[2 * j + 1]? = some x.2.2
 | [], _, _, h => by simp at h
 | y :: xs, 0, x, h => by
  simp only [List.getElem?_cons_zero] at h
  injection h with h
  subst h
  exact ⟨rfl, rfl⟩
 | y :: xs, j + 1, x, h => by
  rw [List.getElem?_cons_succ] at h
  obtain ⟨h1, h2⟩ := elc_get xs j x h
  rw [List.flatMap_cons]
  exact ⟨by rw [show 2 * (j + 1) = 2 * j + 2 by omega]; exact h1, by rw [show 2 * (j + 1) + 1 = (2 * j + 1) + 2 by omega]; exact h2⟩

set_option maxHeartbeats 4000000 in
set_option maxRecDepth 100000 in
theorem load_snap (A : Option Addr) (n c : Nat) (h : SW w0 w Q g m gs L st0) (hrb : RB w A n (snapT base tab)) (hnc : n ≤ c) (hc : c ≤ maxLen) (hn : n ≤ 1048576) (hT : TabOk base tab) (hbm : base ≤ 1099511627776) :
  Calls Tryz.prog 31 #[.pointer (some ⟨gs, 0, none⟩), .slice A n c] w fun e w' => e = .returned .nilIface ∧ SW w0 w' (ext Q w w') g m gs L (StM.at base tab) ∧ Fr Q w w' ∧ ∀ p, w.cell? ⟨gs, 0, none⟩ = some p → w'.cell? ⟨gs, 0, none⟩ = some p := by
 obtain ⟨Z, gl, gt, sh, ev, zs, ys, hV, hZ, hU⟩ := h.use
 have hz0 : zs = [] := by have := hV.tabM; cases zs with | nil => rfl | cons a b => cases this
 have hy0 : ys = [] := by have := hV.evM; cases ys with | nil => rfl | cons a b => cases this
 subst hz0
 subst hy0
 have hGG : gt ≠ gs := fun e => by
  obtain ⟨p, hp, -⟩ := hV.tab
  exact typ_no hp e hV.cells (by decide)
 have hrow0 : w.heap[gs]? = some (.cells #[.pointer (some ⟨gl, 0, none⟩), .pointer (some ⟨gt, 0, none⟩), .int .i64 0, .int .i64 0, ev] 85 (0, 0)) := hV.cells
 obtain ⟨NT, hNT⟩ : ∃ n, n = tab.length := ⟨_, rfl⟩
 obtain ⟨NK, hNK⟩ : ∃ n, n = NT + 1 := ⟨_, rfl⟩
 have hkl : (snapK base tab).length = NK := by rw [hNK, hNT]; simp [snapK]
 have hPK : ∀ k ∈ snapK base tab, Tag (k.1 : Int) ∧ k.1 < 256 ∧ k.2.length ≤ 65530 := fun k hk => by
  unfold snapK at hk
  rcases List.mem_cons.1 hk with rfl | hk
  ·have : (intB base).length ≤ 9 := intB_len (by omega)
   exact ⟨.inr (by decide : (2 : Int) ∈ plainT), (by decide : 2 < 256), by dsimp only; omega⟩
  ·obtain ⟨x, hx, rfl⟩ := List.mem_map.1 hk
   obtain ⟨-, ho, -, hv⟩ := hT.each x hx
   obtain ⟨p1, p2, p3, p4, p5⟩ := ho.parts
   have hd := ho.data
   have he := evK_len (what := 1) (kind := x.2.kind) (rev := x.2.ver) (space := x.2.space.data.toList) (name := x.2.name.data.toList) (data := x.2.data) (by omega) (by omega) (by omega) (by rw [size_data]; omega) (by rw [size_data]; omega) (by omega)
   exact ⟨.inl rfl, (by decide : 48 < 256), by dsimp only; omega⟩
 have hntl : NT ≤ 1048576 := by
  have h1 := elems_len (snapK base tab)
  rw [snapK_bytes, hkl] at h1
  have := hrb.1
  omega
 have HA : Hid (Calls Tryz.prog 74 #[.slice A n c] w fun e w' => ∃ lg lo lc A0 k0 K xr, e = .returned (.tuple #[.slice (some ⟨lg, lo, none⟩) NK lc, .nilIface]) ∧ NK ≤ lc ∧ OwnS w' 0 141 2 (.slice (some ⟨lg, lo, none⟩) NK lc) NK (((2, intB base, .slice A0 K k0) :: xr : List (Nat × List UInt8 × Value)).flatMap elc) ∧ xr.map (fun x => (x.1, x.2.1)) = tab.map (fun x => (48, (evK 1 x.2.kind x.2.ver x.2.space.data.toList x.2.name.data.toList x.2.data).flatten)) ∧
   RB w' A0 K (intB base) ∧ K ≤ k0 ∧ k0 ≤ maxLen ∧ (∀ x ∈ xr, OB w' 0 x.2.2 x.2.1) ∧ Below w.heap.size w w') := Hj ((All_any A n c (snapK base tab) w hPK (by rw [snapK_bytes]; exact hrb) hnc hc hn).mono fun e w' => by
  rintro ⟨A', c', xs, rfl, hown, hmap, hall, hb⟩
  rw [hkl] at hown ⊢
  cases xs with
  | nil => cases hmap
  | cons x0 xr =>
   rw [List.map_cons] at hmap
   unfold snapK at hmap
   injection hmap with h1 h2
   obtain ⟨t0, b0, v0⟩ := x0
   injection h1 with h3 h4
   dsimp only at h3 h4
   subst h3
   subst h4
   have hx0 : OB w' w.heap.size v0 (intB base) := hall (2, intB base, v0) (by simp)
   obtain ⟨A0, k0, e0, q1, q2, q3⟩ := OB.form hx0
   subst e0
   obtain ⟨lg, lo, cap, e1, -, -, -⟩ := OwnS.cells hown (by rw [List.flatMap_cons]; simp [elc])
   injection e1 with e2 e3 e4
   subst e2
   obtain ⟨A5, c5, e5, e6, -⟩ := hown.form
   injection e5 with e7 e8 e9
   exact ⟨lg, lo, c', A0, k0, _, xr, rfl, by rw [e9]; exact e6, OwnS.mono hown fun _ _ => Nat.zero_le _, h2, q3, q1, q2, fun x hx => OB.mono (hall x (List.mem_cons_of_mem _ hx)) (Nat.zero_le _), hb⟩)
 have HHead : Hid (∀ W A0 K k0, RB W A0 K (intB base) → K ≤ k0 → k0 ≤ maxLen → Calls Tryz.prog 75 #[.slice A0 K k0, .int .i64 0, .int .i64 1099511627776] W fun e w' => e = .returned (.tuple #[.int .i64 (base : Int), .nilIface]) ∧ W = w') := Hj fun W A0 K k0 h1 h2 h3 => Range_any A0 K k0 base 0 1099511627776 W h1 h2 h3 (by omega) (by omega) (by omega)
 have HT0 : Hid (∀ W, Below w.heap.size w W → TabAt W gt sh []) := Hj fun W hW => (hV.below hW).tab
 have HR0 : Hid (∀ W, Below w.heap.size w W → W.heap[gs]? = some (.cells #[.pointer (some ⟨gl, 0, none⟩), .pointer (some ⟨gt, 0, none⟩), .int .i64 0, .int .i64 0, ev] 85 (0, 0))) := Hj fun W hW => (hW.block gs (Cz hrow0)).trans hrow0
 have hNK0 : ((NK : Int) == 0) = false := beq_eq_false_iff_ne.2 (by omega)
 have hNK1 : (1 : Int) ≤ (NK : Int) := by omega
 have hNKp : (0 : Int) < (NK : Int) := by omega
 have HNT := Hj hNT
 have HNK := Hj hNK
 have HTl := Hj hntl
 have HGG := Hj hGG
 have HTab := Hj hT
 have HBm := Hj hbm
 have HV := Hj hV
 have HZ := Hj hZ
 have HU := Hj hU
 have HSW := Hj h
 clear h hrb hnc hc hn hT hbm hZ hU hV hGG hrow0 hkl hPK hntl hNT hNK
 go_enter Tryz.func31, Tryz.ntmps31
 go_wp2_with (first
  | (go_at_call 74; go_loud (
    (with_reducible refine HA.out.mono ?_)
    rintro e w1 ⟨lg, lo, lc, A0, k0, K, xr, rfl, hlc, hown, hmap, q1, q2, q3, hall, hb1⟩
    obtain ⟨AE, htl0, hAE⟩ := run_tailE (lg := lg) (lo := lo) (n := NK) (c := lc) (by have := HNK.out; omega) hlc
    have htl : ∀ W, (Instr.slice 137 (.slice (some ⟨lg, lo, none⟩) NK lc) (some (.int .i64 1)) none none).run Tryz.prog W = .ok (.slice AE NT (lc - 1)) W := (fun W => by
     have h := htl0 W
     rw [show NK - 1 = NT by have := HNK.out; omega] at h
     exact h)
    have hc0 : w1.cell? ⟨lg, lo, none⟩ = some (.int .i64 2) ∧ w1.cell? ⟨lg, lo + 1, none⟩ = some (.slice A0 K k0) := (by
     obtain ⟨g', o', cap', e', -, -, hc⟩ := OwnS.cells hown (by rw [List.flatMap_cons]; simp [elc])
     injection e' with e1 e2 e3
     injection e1 with e1
     injection e1 with e4 e5
     subst e4
     subst e5
     exact ⟨hc 0 _ rfl, hc 1 _ rfl⟩)
    obtain ⟨c00, c01⟩ := hc0
    have HRg := Hj (HHead.out w1 A0 K k0 q1 q2 q3)
    have hr1 := HR0.out w1 hb1
    have HR1 := Hj hr1
    have g12 := Kq 2 hr1
    simp at g12
    have fz1 : ∀ k, w1.frozen? ⟨gs, k, none⟩ = false := (fun k => Kx hr1)
    have HOwn := Hj hown
    have HMap := Hj hmap
    have HAll := Hj hall
    have HB1 := Hj hb1
    have HAE := Hj hAE
    clear hlc hown hmap q1 q2 q3 hall hb1 htl0 hAE hr1))
  | (go_at_call 75; go_loud ((with_reducible refine HRg.out.mono ?_); rintro e w' ⟨rfl, rfl⟩))
  | fail)
 obtain ⟨wS, hwS⟩ : ∃ W, W = w1.setCell ⟨gs, 2, none⟩ (.int .i64 (base : Int)) := ⟨_, rfl⟩
 have HRS : Hid (wS.heap[gs]? = some (.cells #[.pointer (some ⟨gl, 0, none⟩), .pointer (some ⟨gt, 0, none⟩), .int .i64 (base : Int), .int .i64 0, ev] 85 (0, 0))) := Hj (by rw [hwS]; exact heap_setCell_same _ _ 2 _ _ (.int .i64 (base : Int)) HR1.out)
 have hf1 : Fr (fun k => k = gs) w1 wS := by rw [hwS]; exact (Fr.refl (fun k => k = gs) w1).setCell (p := ⟨gs, 2, none⟩) (fun _ => rfl) _
 have HFS : Hid (Fr (fun k => k = gs ∨ k = gt) w wS) := Hj (((Fr.of_below (S := fun k => k = gs) HB1.out).trans hf1 (fun _ _ h => h)).mono fun _ _ h => .inl h)
 have HTS : Hid (TabAt wS gt sh []) := Hj ((HT0.out w1 HB1.out).fr hf1 HGG.out fun b cs hb e => typ_no hb e HR1.out (by decide))
 have HOwS : Hid (OwnS wS 0 141 2 (.slice (some ⟨lg, lo, none⟩) NK lc) NK (((2, intB base, .slice A0 K k0) :: xr : List (Nat × List UInt8 × Value)).flatMap elc)) := Hj (OwnS.kept HOwn.out hf1 fun k hk e => by
  obtain ⟨cur, hcur⟩ := own_type HOwn.out hk
  exact typ_no hcur e HR1.out (by decide))
 have HAlS : Hid (∀ x ∈ xr, OB wS 0 x.2.2 x.2.1) := Hj fun x hx => OB.keepB (HAll.out x hx) fun k hk => hf1.block k ((HAll.out x hx).lt k hk).2 fun e => (by
  obtain ⟨cur, hcur⟩ := own_type (HAll.out x hx) hk
  exact typ_no hcur e HR1.out (by decide))
 rw [← hwS]
 clear hwS hf1 c00 c01 g12 fz1 htl hNK0 hNK1 hNKp
 by_cases hz : NT = 0
 ·subst hz
  have HT00 : Hid (tab = []) := Hj (List.eq_nil_of_length_eq_zero HNT.out.symm)
  go_loopg [50] 1 (fun gk s50 wr => s50 = .int .i64 0 ∧ wr = wS)
  case atStart => exact ⟨rfl, rfl⟩
  case round =>
   obtain ⟨rfl, hwr⟩ := hrel
   subst hwr
   have g22 := Kq 2 HRS.out
   have g33 := Kq 3 HRS.out
   simp at g22 g33
   have fzr : ∀ k, wr.frozen? ⟨gs, k, none⟩ = false := fun k => Kx HRS.out
   go_wp2
   go_ret
   have hF : Fr (fun k => k = gs ∨ k = gt) w (wr.setCell ⟨gs, 3, none⟩ (.int .i64 (base : Int))) := HFS.out.setCell (p := ⟨gs, 3, none⟩) (fun _ => .inl rfl) _
   have hE : OwnS (wr.setCell ⟨gs, 3, none⟩ (.int .i64 (base : Int))) 0 61 7 ev 0 [] := OwnS.kept HV.out.evs hF fun k hk e => by
    obtain ⟨cur, hcur⟩ := own_type HV.out.evs hk
    obtain ⟨p, hp, -⟩ := HV.out.tab
    exact e.elim (fun e => typ_no hcur e HV.out.cells (by decide)) fun e => typ_no hcur e hp (by decide)
   have hSV : SV (wr.setCell ⟨gs, 3, none⟩ (.int .i64 (base : Int))) (fun k => Z k ∨ (w.heap.size ≤ k ∧ k < (wr.setCell ⟨gs, 3, none⟩ (.int .i64 (base : Int))).heap.size)) gl gs gt sh ev [] [] (StM.at base tab) :=
    ⟨heap_setCell_same _ _ 3 _ _ (.int .i64 (base : Int)) HRS.out, HTS.out.fr ((Fr.refl (fun k => k = gs) wr).setCell (p := ⟨gs, 3, none⟩) (fun _ => rfl) _) HGG.out (fun b cs hb e => typ_no hb e HRS.out (by decide)), by rw [HT00.out]; rfl, fun x hx => (by cases hx), hE, rfl, fun y hy => (by cases hy), StM.at_ok HTab.out HBm.out, .inl HV.out.zs, .inl HV.out.zt, fun k hk => .inl (HV.out.ze k hk), fun x hx => (by cases hx), fun y hy => (by cases hy)⟩
   obtain ⟨r1, r2⟩ := HU.out _ _ _ _ _ _ _ (fun _ => False) hSV (hF.mono fun i _ e => e.elim (fun e => by rw [e]; exact HV.out.zs) fun e => by rw [e]; exact HV.out.zt) (fun k hk => hk.elim) (fun k hk => hk.elim .inl fun h => .inr (.inl h))
   exact ⟨rfl, r1.mono (fun k hk => hk.elim id False.elim) fun k hk => ext_in HSW.out.up HSW.out.hi HSW.out.bel.size hF.size hk, r2, fun p hp => by rw [HV.out.cell.1] at hp; injection hp with hp; subst hp; exact hSV.cell.1⟩
 ·obtain rfl : AE = some ⟨lg, lo + 2, none⟩ := HAE.out (by have := HNK.out; omega)
  clear hz
  go_loopg [7, 50] NT (fun gk s7 s50 wr => ∃ (j : Nat) (last : ByteArray) (shj : Code) (pj : List (ByteArray × (OV × ObM))), s50 = .int .i64 (j : Int) ∧ s7 = .string last ∧ j + gk = NT ∧ (∀ y, tab[j]? = some y → klt last y.1 = true) ∧ pj.map (fun x => (x.1, x.2.2)) = tab.take j ∧ wr.heap[gs]? = some (.cells #[.pointer (some ⟨gl, 0, none⟩), .pointer (some ⟨gt, 0, none⟩), .int .i64 (base : Int), .int .i64 0, ev] 85 (0, 0)) ∧ TabAt wr gt shj (pj.map fun x => (x.1, x.2.1)) ∧ (∀ x ∈ pj, IsO wr x.2.1 x.2.2 ∧ ∀ k, (sl x.2.1).ownBlock = some k → w.heap.size ≤ k) ∧
   OwnS wr 0 141 2 (.slice (some ⟨lg, lo, none⟩) NK lc) NK (((2, intB base, .slice A0 K k0) :: xr : List (Nat × List UInt8 × Value)).flatMap elc) ∧ (∀ x ∈ xr, OB wr 0 x.2.2 x.2.1) ∧ Fr (fun k => k = gs ∨ k = gt) w wr)
  case atStart => exact ⟨0, ⟨#[]⟩, sh, [], rfl, rfl, by omega, fun y hy => by rw [(HTab.out.each y (List.mem_of_getElem? hy)).1]; exact keyB_pos _ _ _, rfl, HRS.out, HTS.out, fun x hx => (by cases hx), HOwS.out, HAlS.out, HFS.out⟩
  case round =>
   obtain ⟨j, last, shj, pj, rfl, rfl, hj, hlast, hpj, hrow, htab, heach, hown, hall, hfr⟩ := hrel
   have HJ := Hj hj
   have HPj := Hj hpj
   have HRow := Hj hrow
   have HTb := Hj htab
   have HEach := Hj heach
   have HOwnR := Hj hown
   have HAllR := Hj hall
   have HFr := Hj hfr
   by_cases hlt : j < NT
   ·have hy : ∃ kk o, tab[j]? = some (kk, o) := ⟨_, _, List.getElem?_eq_getElem (by have := HNT.out; omega)⟩
    obtain ⟨kk, o, hy⟩ := hy
    have HY := Hj hy
    obtain ⟨hkk, hok, hv1, hv2⟩ := HTab.out.each _ (List.mem_of_getElem? hy)
    simp only at hkk hok hv1 hv2
    have hlk := hlast _ hy
    simp only at hlk
    have hxj : ∃ v, xr[j]? = some (48, (evK 1 o.kind o.ver o.space.data.toList o.name.data.toList o.data).flatten, v) := by
     have h1 := congrArg (fun l => l[j]?) HMap.out
     simp only [List.getElem?_map, hy, Option.map_some] at h1
     obtain ⟨x, hx, e⟩ := Option.map_eq_some_iff.1 h1
     obtain ⟨a, b, d⟩ := x
     injection e with e1 e2
     dsimp only at e1 e2
     subst e1
     subst e2
     exact ⟨d, hx⟩
    obtain ⟨vj, hxj⟩ := hxj
    obtain ⟨BJ, hBJ⟩ : ∃ b, b = (evK 1 o.kind o.ver o.space.data.toList o.name.data.toList o.data).flatten := ⟨_, rfl⟩
    rw [← hBJ] at hxj
    have hobj : OB wr 0 vj BJ := hall _ (List.mem_of_getElem? hxj)
    obtain ⟨Aj, kj, ej, q1, q2, q3⟩ := OB.form hobj
    subst ej
    obtain ⟨p1, p2, p3, p4, p5⟩ := hok.parts
    have hpd := hok.data
    have hvm := Kv hv2 HBm.out
    have hBl : BJ.length ≤ 10500 := by
     rw [hBJ]
     exact evK_len (by omega) (by omega) (by omega) (by rw [size_data]; omega) (by rw [size_data]; omega) (by omega)
    have hEV : elemB 48 BJ = evO (false, o) := by rw [hBJ]; rfl
    have hEl := evO_len (e := (false, o)) hok (Kv hv2 HBm.out)
    obtain ⟨EL, hEL⟩ : ∃ n, n = (evO (false, o)).length := ⟨_, rfl⟩
    obtain ⟨KJ, hKJ⟩ : ∃ n, n = BJ.length := ⟨_, rfl⟩
    rw [← hKJ] at hobj q1 q3
    have HPut : Hid (∀ W, RB W Aj KJ BJ → Calls Tryz.prog 76 #[.agg #[.int .i64 48, .slice Aj KJ kj]] W fun e w' => ∃ A' c', e = .returned (.tuple #[.slice A' EL c', .nilIface]) ∧ OB w' W.heap.size (.slice A' EL c') (evO (false, o)) ∧ Below W.heap.size W w') := Hj fun W hW => by
     have h4 := Put_tlv 48 Aj KJ kj BJ W (.inl rfl) (by decide) hW q1 q2 (by omega)
     rw [hEV, ← hEL] at h4
     exact h4
    have HRead : Hid (∀ W A3 k3, OB W wr.heap.size (.slice A3 EL k3) (evO (false, o)) → Calls Tryz.prog 34 #[.slice A3 EL k3] W fun en w' => ∃ A4 k4, en = .returned (.tuple #[.agg #[.int .i64 (o.ver : Int), .bool false, .int .i64 (o.kind : Int), .string o.space, .string o.name, .int .i64 (o.ver : Int), .slice A4 o.data.length k4], .nilIface]) ∧ OB w' W.heap.size (.slice A4 o.data.length k4) o.data ∧ Below W.heap.size W w') := Hj fun W A3 k3 hO => by
     obtain ⟨A', c', e', h1, h2, h3⟩ := OB.form hO
     injection e' with e1 e2 e3
     exact read_put A3 EL k3 o W (by rw [e1, e2]; exact h3) (by rw [e2, e3]; exact h1) (by rw [e3]; exact h2) hok hv1 (Kv hv2 HBm.out)
    have HKey : Hid (∀ W A c, Calls Tryz.prog 38 #[.agg #[.int .i64 (o.kind : Int), .string o.space, .string o.name, .int .i64 (o.ver : Int), .slice A o.data.length c]] W fun e w' => e = .returned (.string kk) ∧ Below W.heap.size W w') := Hj fun W A c => by
     rw [hkk]
     exact key_any ⟨(o.kind : Int), o.space, o.name, (o.ver : Int), A, o.data.length, c⟩ W (by show (o.kind : Int) ≤ _; omega) (by show o.space.size ≤ _; omega) (by show o.name.size ≤ _; omega)
    have HRB : Hid (∀ W, Below wr.heap.size wr W → RB W Aj KJ BJ) := Hj fun W hW => (q3.keep (Kz hW))
    have cj : wr.cell? ⟨lg, lo + 2 + j * 2, none⟩ = some (.int .i64 48) ∧ wr.cell? ⟨lg, lo + 2 + j * 2 + 1, none⟩ = some (.slice Aj KJ kj) := by
     obtain ⟨g', o', cap', e', -, -, hc⟩ := OwnS.cells hown (by rw [List.flatMap_cons]; simp [elc])
     injection e' with e1 e2 e3
     injection e1 with e1
     injection e1 with e4 e5
     rw [e4, e5]
     obtain ⟨h1, h2⟩ := elc_get ((2, intB base, .slice A0 K k0) :: xr) (j + 1) (48, BJ, .slice Aj BJ.length kj) (by rw [List.getElem?_cons_succ]; exact hxj)
     refine ⟨?_, ?_⟩
     ·rw [show o' + 2 + j * 2 = o' + 2 * (j + 1) by omega]; exact hc _ _ h1
     ·rw [show o' + 2 + j * 2 + 1 = o' + (2 * (j + 1) + 1) by omega, hKJ]; exact hc _ _ h2
    obtain ⟨cj1, cj2⟩ := cj
    have HEgt : Hid (∀ E, wr.heap.size ≤ E → E ≠ gt ∧ E ≠ gs) := Hj fun E hE => ⟨fun e => by have := htab.lt; omega, fun e => by have := (Cz hrow); omega⟩
    have hle : ¬ (base : Int) < (o.ver : Int) := by omega
    have hle2 : decide ((base : Int) < (o.ver : Int)) = false := decide_eq_false hle
    have hle3 : decide (base < o.ver) = false := decide_eq_false (by omega)
    have hle4 : o.ver ≤ base := hv2
    have hb2 : Op.bytesLess kk.toList last.toList = false := klin.asy hlk
    have hb3 : (kk.toList == last.toList) = false := beq_eq_false_iff_ne.2 fun e => by
     have := ne_of_lt hlk
     rw [e] at this
     simp at this
    have hb4 : ¬ kk.toList = last.toList := beq_eq_false_iff_ne.1 hb3
    have HRis : Hid (Rises klt (pj.map fun x => (x.1, x.2.1))) := Hj (by
     have h1 : Rises klt (tab.take j) := (show Rises klt (tab.take j ++ tab.drop j) by rw [List.take_append_drop]; exact HTab.out.ris).left
     rw [← hpj] at h1
     exact rises_map (fun y : OV × ObM => y.1) (rises_unmap (fun y : OV × ObM => y.2) h1))
    have HLen : Hid ((pj.map fun x => (x.1, x.2.1)).length ≤ 1000000000) := Hj (by
     have h1 := congrArg List.length hpj
     rw [List.length_map, List.length_take] at h1
     rw [List.length_map]
     have := HTl.out
     omega)
    have HOk := Hj hok
    have i0 : (0 : Int) ≤ (j : Int) := by omega
    have i1 : (j : Int) < (NT : Int) := by omega
    have i2 : (j : Int) ≤ 1048576 := by have := HTl.out; omega
    have HLt := Hj hlt
    clear hj hlast hpj hrow htab heach hown hall hfr hlt hy hkk hok hv1 hv2 hvm hlk hxj hBJ hobj q1 q2 q3 p1 p2 p3 p4 p5 hpd hBl hEV hEl hEL hKJ
    go_wp2_with (first
     | (go_at_call 76; go_loud (
       have hba := (Below.refl wr.heap.size wr).alloc Kj (.cells #[.int .i64 48, .slice Aj KJ kj] 141)
       (with_reducible refine (HPut.out _ (HRB.out _ hba)).mono ?_)
       rintro e w3 ⟨A3, k3, rfl, ho3, hb3⟩
       have HO3 : Hid (OB w3 wr.heap.size (.slice A3 EL k3) (evO (false, o))) := Hj (OB.mono ho3 hba.size)
       have HB3 : Hid (Below wr.heap.size wr w3) := Hj (hba.trans (hb3.mono hba.size))
       clear hba ho3 hb3))
     | (go_at_call 34; go_loud (
       (with_reducible refine (HRead.out w3 A3 k3 HO3.out).mono ?_)
       rintro e w4 ⟨A4, k4, rfl, ho4, hb4⟩
       have HO4 : Hid (OB w4 wr.heap.size (.slice A4 o.data.length k4) o.data) := Hj (OB.mono ho4 HB3.out.size)
       have HB4 : Hid (Below wr.heap.size wr w4) := Hj (HB3.out.trans (hb4.mono HB3.out.size))
       clear ho4 hb4))
     | (go_at_call 38; go_loud (
       obtain ⟨wE, hwE⟩ : ∃ W, W = w4.alloc (.cells #[.int .i64 (o.ver : Int), .bool false, .int .i64 (o.kind : Int), .string o.space, .string o.name, .int .i64 (o.ver : Int), .slice A4 o.data.length k4] 61) := ⟨_, rfl⟩
       obtain ⟨E, hE⟩ : ∃ E, E = w4.heap.size := ⟨_, rfl⟩
       have hbE := (Below.refl w4.heap.size w4).alloc Kj (.cells #[.int .i64 (o.ver : Int), .bool false, .int .i64 (o.kind : Int), .string o.space, .string o.name, .int .i64 (o.ver : Int), .slice A4 o.data.length k4] 61)
       have hrE : wE.heap[E]? = some (.cells #[.int .i64 (o.ver : Int), .bool false, .int .i64 (o.kind : Int), .string o.space, .string o.name, .int .i64 (o.ver : Int), .slice A4 o.data.length k4] 61 (0, 0)) := (by rw [hwE, hE]; exact heap_alloc_new w4 _)
       rw [← hwE] at hbE ⊢
       try rw [← hE]
       (with_reducible refine (HKey.out wE A4 k4).mono ?_)
       rintro e w5 ⟨rfl, hb5⟩
       have HEw : Hid (wr.heap.size ≤ E) := Hj (by rw [hE]; exact HB4.out.size)
       have HB5 : Hid (Below wr.heap.size wr w5) := Hj ((HB4.out.trans (hbE.mono HB4.out.size)).trans (hb5.mono (Kv HB4.out.size hbE.size)))
       have HO5 : Hid (OB w5 wr.heap.size (.slice A4 o.data.length k4) o.data) := Hj (OB.below (OB.below HO4.out hbE) hb5)
       have hRE5 := (hb5.block E (Cz hrE)).trans hrE
       have HRE5 := Hj hRE5
       have hG5 := (HB5.out.block gs (Cz HRow.out)).trans HRow.out
       have HG5 := Hj hG5
       have e50 := Kq 0 hRE5
       have e51 := Kq 1 hRE5
       have e52 := Kq 2 hRE5
       have e53 := Kq 3 hRE5
       have e54 := Kq 4 hRE5
       have e55 := Kq 5 hRE5
       have e56 := Kq 6 hRE5
       have g52 := Kq 2 hG5
       simp at e50 e51 e52 e53 e54 e55 e56 g52
       clear hwE hE hbE hrE hb5 hRE5 hG5))
     | fail)
    go_quiet (fail)
    obtain ⟨wd, hwd⟩ : ∃ W, W = w5.drewN nq := ⟨_, rfl⟩
    have hRd : wd.heap[E]? = some (.cells #[.int .i64 (o.ver : Int), .bool false, .int .i64 (o.kind : Int), .string o.space, .string o.name, .int .i64 (o.ver : Int), .slice A4 o.data.length k4] 61 (0, 0)) := by rw [hwd]; exact HRE5.out
    have d52 := Kq 2 hRd
    have d53 := Kq 3 hRd
    have d54 := Kq 4 hRd
    have d55 := Kq 5 hRd
    have d56 := Kq 6 hRd
    simp at d52 d53 d54 d55 d56
    rw [← hwd]
    have HWd := Hj hwd
    clear hRd hwd
    go_wp2_with (go_at_call 38; go_loud (
       (with_reducible refine (HKey.out wd A4 k4).mono ?_)
       rintro e w6 ⟨rfl, hb6⟩
       rw [HWd.out] at hb6
       have hb6' : Below w5.heap.size w5 w6 := ⟨hb6.os, hb6.tape, hb6.output, hb6.size, hb6.block⟩
       have HB6 : Hid (Below wr.heap.size wr w6) := Hj (HB5.out.trans (hb6'.mono HB5.out.size))
       have HO6 : Hid (OB w6 wr.heap.size (.slice A4 o.data.length k4) o.data) := Hj (OB.below HO5.out hb6')
       have HRE6 : Hid (w6.heap[E]? = some (.cells #[.int .i64 (o.ver : Int), .bool false, .int .i64 (o.kind : Int), .string o.space, .string o.name, .int .i64 (o.ver : Int), .slice A4 o.data.length k4] 61 (0, 0))) := Hj ((hb6'.block E (Cz HRE5.out)).trans HRE5.out)
       have HG6 : Hid (w6.heap[gs]? = some (.cells #[.pointer (some ⟨gl, 0, none⟩), .pointer (some ⟨gt, 0, none⟩), .int .i64 (base : Int), .int .i64 0, ev] 85 (0, 0))) := Hj ((HB6.out.block gs (Cz HRow.out)).trans HRow.out)
       clear hb6 hb6'))
    have HT6 : Hid (TabAt w6.drew gt shj (pj.map fun x => (x.1, x.2.1))) := Hj (HTb.out.below ⟨HB6.out.os, HB6.out.tape, HB6.out.output, HB6.out.size, HB6.out.block⟩)
    obtain ⟨hEgt, hEgs⟩ := HEgt.out E HEw.out
    have HEgt := Hj hEgt
    have HS6 : Hid (((fun w' => w'.cell? ⟨gs, 1, none⟩ = some (.pointer (some ⟨gt, 0, none⟩)) ∧ w'.cell? ⟨E, 2, none⟩ = some (.int .i64 (o.kind : Int)) ∧ w'.cell? ⟨E, 3, none⟩ = some (.string o.space) ∧ w'.cell? ⟨E, 4, none⟩ = some (.string o.name) ∧ w'.cell? ⟨E, 5, none⟩ = some (.int .i64 (o.ver : Int)) ∧ w'.cell? ⟨E, 6, none⟩ = some (.slice A4 o.data.length k4))) w6.drew) := Hj ⟨Kq 1 HG6.out, Kq 2 HRE6.out, Kq 3 HRE6.out, Kq 4 HRE6.out, Kq 5 HRE6.out, Kq 6 HRE6.out⟩
    clear e50 e51 e52 e53 e54 e55 e56 g52 d52 d53 d54 d55 d56 hEgt hEgs
    refine wp_region_noPanic ?_
    refine wp_region_held_drew (S := (fun w' => w'.cell? ⟨gs, 1, none⟩ = some (.pointer (some ⟨gt, 0, none⟩)) ∧ w'.cell? ⟨E, 2, none⟩ = some (.int .i64 (o.kind : Int)) ∧ w'.cell? ⟨E, 3, none⟩ = some (.string o.space) ∧ w'.cell? ⟨E, 4, none⟩ = some (.string o.name) ∧ w'.cell? ⟨E, 5, none⟩ = some (.int .i64 (o.ver : Int)) ∧ w'.cell? ⟨E, 6, none⟩ = some (.slice A4 o.data.length k4))) (by kernel_rfl) ?_ (fun hHeld => ?_)
    ·exact HS6.out
    refine tk 0 hHeld ?_
    try simp only [pa]
    refine tk 1 hHeld ?_
    try simp only [pa]
    refine tk 2 hHeld ?_
    try simp only [pa]
    refine tk 3 hHeld ?_
    try simp only [pa]
    refine tk 4 hHeld ?_
    try simp only [pa]
    refine tk 5 hHeld ?_
    try simp only [pa]
    refine tk 6 hHeld ?_
    try simp only [pa]
    refine rd1 7 rfl (fun K hK => ?_)
    go_simp
    refine (Put_T gt kk ⟨(o.kind : Int), o.space, o.name, (o.ver : Int), A4, o.data.length, k4⟩ shj _ w6.drew HT6.out HRis.out HLen.out).mono ?_
    rintro e w7 ⟨rfl, ht7, hf7⟩
    have HT7 := Hj ht7
    have HF7 : Hid (Fr (fun i => i = gt) wr w7) := Hj ((Fr.of_below (S := fun i => i = gt) HB6.out).trans ⟨hf7.os, hf7.tape, hf7.output, hf7.size, hf7.block⟩ (fun _ _ h => h))
    have HRE7 : Hid (w7.heap[E]? = some (.cells #[.int .i64 (o.ver : Int), .bool false, .int .i64 (o.kind : Int), .string o.space, .string o.name, .int .i64 (o.ver : Int), .slice A4 o.data.length k4] 61 (0, 0))) := Hj ((hf7.block E (Cz HRE6.out) (fun e => HEgt.out e)).trans HRE6.out)
    have HG7 : Hid (w7.heap[gs]? = some (.cells #[.pointer (some ⟨gl, 0, none⟩), .pointer (some ⟨gt, 0, none⟩), .int .i64 (base : Int), .int .i64 0, ev] 85 (0, 0))) := Hj ((hf7.block gs (Cz HG6.out) (fun e => HGG.out e.symm)).trans HG6.out)
    have HS7 : Hid (((fun w' => w'.cell? ⟨gs, 1, none⟩ = some (.pointer (some ⟨gt, 0, none⟩)) ∧ w'.cell? ⟨E, 2, none⟩ = some (.int .i64 (o.kind : Int)) ∧ w'.cell? ⟨E, 3, none⟩ = some (.string o.space) ∧ w'.cell? ⟨E, 4, none⟩ = some (.string o.name) ∧ w'.cell? ⟨E, 5, none⟩ = some (.int .i64 (o.ver : Int)) ∧ w'.cell? ⟨E, 6, none⟩ = some (.slice A4 o.data.length k4))) w7) := Hj ⟨Kq 1 HG7.out, Kq 2 HRE7.out, Kq 3 HRE7.out, Kq 4 HRE7.out, Kq 5 HRE7.out, Kq 6 HRE7.out⟩
    have HO7 : Hid (OB w7 wr.heap.size (.slice A4 o.data.length k4) o.data) := Hj (OB.keepB HO6.out fun k hk => hf7.block k (HO6.out.lt k hk).2 fun e => (by
     obtain ⟨cur, hcur⟩ := own_type HO6.out hk
     obtain ⟨p, hp, -⟩ := HT6.out
     exact typ_no hcur e hp (by decide)))
    clear ht7 hf7
    refine hK.out _ _ ?_ (fun hHeld => ?_)
    ·exact HS7.out
    clear hK K
    try simp only [pa]
    refine wpAnyH_done (by kernel_rfl) ?_ _
    refine NoPanic.normal ?_
    go_wp2
    go_roundg (gk - 1)
    case measure => have := HJ.out; have := HLt.out; omega
    case rel =>
     have hfull : Fr (fun k => k = gs ∨ k = gt) w w7 := HFr.out.trans (HF7.out.mono fun _ _ h => .inr h) fun _ _ h => h
     have hlts : ∀ x ∈ pj, klt x.1 kk = true := fun x hx => by
      have h1 : (x.1, x.2.2) ∈ tab.take j := by rw [← HPj.out]; exact List.mem_map.2 ⟨x, hx, rfl⟩
      obtain ⟨h2, h3⟩ := List.getElem?_eq_some_iff.1 HY.out
      have h4 : tab = tab.take j ++ (kk, o) :: tab.drop (j + 1) := by
       have h5 := (List.take_append_drop j tab).symm
       rw [List.drop_eq_getElem_cons h2, h3] at h5
       exact h5
      have h6 := HTab.out.ris
      rw [h4] at h6
      exact h6.below _ h1
     refine ⟨j + 1, kk, putS klt kk shj (pj.map fun x => (x.1, x.2.1)), pj ++ [(kk, (⟨(o.kind : Int), o.space, o.name, (o.ver : Int), A4, o.data.length, k4⟩, o))], by go_num, rfl, by have := HJ.out; have := HLt.out; omega, fun y hy => ?_, ?_, HG7.out, ?_, fun x hx => ?_, ?_, fun x hx => ?_, hfull⟩
     ·have h1 := HTab.out.ris
      have h2 := List.pairwise_iff_getElem.1 h1
      obtain ⟨h3, h4⟩ := List.getElem?_eq_some_iff.1 HY.out
      obtain ⟨h5, h6⟩ := List.getElem?_eq_some_iff.1 hy
      have h7 := h2 j (j + 1) h3 h5 (Nat.lt_succ_self j)
      rw [h4, h6] at h7
      exact h7
     ·obtain ⟨h2, h3⟩ := List.getElem?_eq_some_iff.1 HY.out
      rw [List.map_append, HPj.out, List.take_succ_eq_append_getElem h2, h3]
      rfl
     ·have h1 := HT7.out
      rw [ins_last klin (fun e he => by
       obtain ⟨x, hx, rfl⟩ := List.mem_map.1 he
       exact hlts x hx)] at h1
      rw [List.map_append]
      exact h1
     ·rcases List.mem_append.1 hx with hx | hx
      ·obtain ⟨h1, h2⟩ := HEach.out x hx
       refine ⟨h1.fr HF7.out fun k hk e => ?_, h2⟩
       obtain ⟨cur, hcur⟩ := own_type h1.data hk
       obtain ⟨p, hp, -⟩ := HTb.out
       exact typ_no hcur e hp (by decide)
      ·rw [List.mem_singleton.1 hx]
       exact ⟨⟨rfl, rfl, rfl, rfl, rfl, OB.mono HO7.out (Nat.zero_le _)⟩, fun k hk => Kv HFr.out.size (OwnS.lt HO7.out k hk).1⟩
     ·refine OwnS.kept HOwnR.out HF7.out fun k hk e => ?_
      obtain ⟨cur, hcur⟩ := own_type HOwnR.out hk
      obtain ⟨p, hp, -⟩ := HTb.out
      exact typ_no hcur e hp (by decide)
     ·refine OB.keepB (HAllR.out x hx) fun k hk => HF7.out.block k ((HAllR.out x hx).lt k hk).2 fun e => ?_
      obtain ⟨cur, hcur⟩ := own_type (HAllR.out x hx) hk
      obtain ⟨p, hp, -⟩ := HTb.out
      exact typ_no hcur e hp (by decide)
   ·have hjn : j = NT := by omega
    have HTT : Hid (pj.map (fun x => (x.1, x.2.2)) = tab) := Hj (by rw [hpj, hjn, HNT.out, List.take_length])
    have g22 := Kq 2 hrow
    have g33 := Kq 3 hrow
    simp at g22 g33
    have fzr : ∀ k, wr.frozen? ⟨gs, k, none⟩ = false := fun k => Kx hrow
    have q5 : ¬ (j : Int) < (NT : Int) := by omega
    clear hj hlast hpj hrow htab heach hown hall hfr hlt hjn
    go_wp2
    go_ret
    have hF : Fr (fun k => k = gs ∨ k = gt) w (wr.setCell ⟨gs, 3, none⟩ (.int .i64 (base : Int))) := HFr.out.setCell (p := ⟨gs, 3, none⟩) (fun _ => .inl rfl) _
    have hG : Fr (fun k => k = gs) wr (wr.setCell ⟨gs, 3, none⟩ (.int .i64 (base : Int))) := (Fr.refl (fun k => k = gs) wr).setCell (p := ⟨gs, 3, none⟩) (fun _ => rfl) _
    have hE : OwnS (wr.setCell ⟨gs, 3, none⟩ (.int .i64 (base : Int))) 0 61 7 ev 0 [] := OwnS.kept HV.out.evs hF fun k hk e => by
     obtain ⟨cur, hcur⟩ := own_type HV.out.evs hk
     obtain ⟨p, hp, -⟩ := HV.out.tab
     exact e.elim (fun e => typ_no hcur e HV.out.cells (by decide)) fun e => typ_no hcur e hp (by decide)
    have hSV : SV (wr.setCell ⟨gs, 3, none⟩ (.int .i64 (base : Int))) (fun k => Z k ∨ (w.heap.size ≤ k ∧ k < (wr.setCell ⟨gs, 3, none⟩ (.int .i64 (base : Int))).heap.size)) gl gs gt shj ev pj [] (StM.at base tab) :=
     ⟨heap_setCell_same _ _ 3 _ _ (.int .i64 (base : Int)) HRow.out, HTb.out.fr hG HGG.out (fun b cs hb e => typ_no hb e HRow.out (by decide)), HTT.out.symm, fun x hx => ((HEach.out x hx).1.fr hG fun k hk e => (by
      obtain ⟨cur, hcur⟩ := own_type (HEach.out x hx).1.data hk
      exact typ_no hcur e HRow.out (by decide))), hE, rfl, fun y hy => (by cases hy), StM.at_ok HTab.out HBm.out, .inl HV.out.zs, .inl HV.out.zt, fun k hk => .inl (HV.out.ze k hk), fun x hx k hk => .inr ⟨(HEach.out x hx).2 k hk, Nat.lt_of_lt_of_le ((HEach.out x hx).1.data.lt k hk).2 hG.size⟩, fun y hy => (by cases hy)⟩
    obtain ⟨r1, r2⟩ := HU.out _ _ _ _ _ _ _ (fun _ => False) hSV (hF.mono fun i _ e => e.elim (fun e => by rw [e]; exact HV.out.zs) fun e => by rw [e]; exact HV.out.zt) (fun k hk => hk.elim) (fun k hk => hk.elim .inl fun h => .inr (.inl h))
    exact ⟨rfl, r1.mono (fun k hk => hk.elim id False.elim) fun k hk => ext_in HSW.out.up HSW.out.hi HSW.out.bel.size hF.size hk, r2, fun p hp => by rw [HV.out.cell.1] at hp; injection hp with hp; subst hp; exact hSV.cell.1⟩
end
end Go.Proofs.YtfmagnpmjlppiaaGreatDoor
