/- Layer 20 (store): text. -/
import Derived.Test.YtfmagnpmjlppiaaGreatDoorStS
import Derived.Test.YtfmagnpmjlppiaaGreatDoorStP
import Derived.Test.YtfmagnpmjlppiaaGreatDoorTabSO
import Derived.Test.YtfmagnpmjlppiaaGreatDoorTlvB
import Derived.Test.YtfmagnpmjlppiaaGreatDoorApl
import Derived.Test.YtfmagnpmjlppiaaGreatDoorErrs
namespace Go.Proofs.YtfmagnpmjlppiaaGreatDoor
open Go.RowKit SO

theorem Join_nil (b c : Nat) (w : World) (c0 : w.cell? ⟨b, 0, none⟩ = some .nilIface) (c1 : w.cell? ⟨b, 1, none⟩ = some .nilIface) :
  Calls Tryz.prog 94 #[.slice (some ⟨b, 0, none⟩) 2 c] w fun e w' => e = .returned .nilIface ∧ w = w' := by
 go_enter Tryz.func94, Tryz.ntmps94
 go_wp2
 go_loopg [3, 11] 2 (fun gk s3 s11 wr => ∃ i : Nat, s11 = .int .i64 (i : Int) ∧ s3 = .int .i64 0 ∧ i + gk = 2 ∧ wr = w)
 case atStart => exact ⟨0, rfl, rfl, rfl, rfl⟩
 case round =>
  obtain ⟨i, rfl, rfl, hi, rfl⟩ := hrel
  rcases (show i = 0 ∨ i = 1 ∨ i = 2 by omega) with rfl | rfl | rfl
  ·go_wp2
   go_roundg (gk - 1)
   case measure => omega
   case rel => exact ⟨1, rfl, rfl, by omega, rfl⟩
  ·go_wp2
   go_roundg (gk - 1)
   case measure => omega
   case rel => exact ⟨2, rfl, rfl, by omega, rfl⟩
  ·go_wp2
   go_ret
   exact ⟨rfl, rfl⟩
theorem look_at {κ ν : Type} {lt : κ → κ → Bool} (Ln : Lin lt) {l : List (κ × ν)} (hr : Rises lt l) {i : Nat} {k : κ} {v : ν} (h : l[i]? = some (k, v)) : look lt k l = some v := by
 obtain ⟨hi, e⟩ := List.getElem?_eq_some_iff.1 h
 have e2 : l = l.take i ++ (k, v) :: l.drop (i + 1) := by
  have h2 := (List.take_append_drop i l).symm
  rw [List.drop_eq_getElem_cons hi, e] at h2
  exact h2
 rw [e2] at hr ⊢
 exact look_here Ln hr
theorem snap_len {rev : Nat} {tab : List (ByteArray × ObM)} (h : TabOk rev tab) (hr : rev ≤ 1099511627776) : (snapT rev tab).length ≤ 13 + 10504 * tab.length := by
 have h1 : (elemB 2 (intB rev)).length ≤ 13 := elemB_lenle 2 (m := 9) (intB_len (by omega)) (by omega)
 have h2 : ∀ l : List (ByteArray × ObM), (∀ x ∈ l, x.2.Ok ∧ x.2.ver ≤ rev) → (l.flatMap fun x => evO (false, x.2)).length ≤ 10504 * l.length := by
  intro l
  induction l with
  | nil => intro _; simp
  | cons x l ih =>
   intro hx
   have h3 := ih fun y hy => hx y (List.mem_cons_of_mem _ hy)
   have h4 := evO_len (e := (false, x.2)) (hx x (by simp)).1 (by have := (hx x (by simp)).2; show x.2.ver ≤ _; omega)
   rw [List.flatMap_cons, List.length_append, List.length_cons]
   omega
 have h3 := h2 tab fun x hx => ⟨(h.each x hx).2.1, (h.each x hx).2.2.2⟩
 unfold snapT
 rw [List.length_append]
 omega
section
variable {w w0 : World} {Q : Nat → Prop} {g gs : Nat} {m : DM} {L : LM} {M : StM}
set_option maxHeartbeats 4000000 in
set_option maxRecDepth 100000 in
theorem text_any (h : SW w0 w Q g m gs L M) (hl : M.tab.length ≤ 90) :
  Calls Tryz.prog 49 #[.pointer (some ⟨gs, 0, none⟩)] w fun e w' => ∃ A c, e = .returned (.tuple #[.slice A (snapT M.rev M.tab).length c, .nilIface]) ∧ OB w' w.heap.size (.slice A (snapT M.rev M.tab).length c) (snapT M.rev M.tab) ∧ Below w.heap.size w w' := by
 obtain ⟨Z, gl, gt, sh, ev, xs, ys, hV, -, -⟩ := h.use
 have hok := hV.ok
 have hxl : xs.length ≤ 90 := by have := congrArg List.length hV.tabM; rw [List.length_map] at this; omega
 have HC : Hid (∀ W, Below w.heap.size w W → W.cell? ⟨gs, 1, none⟩ = some (.pointer (some ⟨gt, 0, none⟩))) := Hj fun W hW => (hV.below hW).cell.2.1
 have HTab : Hid (∀ W, Below w.heap.size w W → TabAt W gt sh (xs.map fun x => (x.1, x.2.1))) := Hj fun W hW => (hV.below hW).tab
 have HRis := Hj hV.ris
 have HIs : Hid (∀ W, Below w.heap.size w W → ∀ x ∈ xs, IsO W x.2.1 x.2.2) := Hj fun W hW => (hV.below hW).each
 have HOk : Hid (∀ x ∈ xs, x.2.2.Ok ∧ x.2.2.ver ≤ 1099511627776) := Hj fun x hx => by
  have := hok.tab.each (x.1, x.2.2) (by rw [hV.tabM]; exact List.mem_map.2 ⟨x, hx, rfl⟩)
  have hm := hok.most
  exact ⟨this.2.1, by have h4 := this.2.2.2; simp only at h4; omega⟩
 have HTM := Hj hV.tabM
 have HXL := Hj hxl
 have HSL : Hid ((snapT M.rev M.tab).length ≤ 1000000) := Hj (by have := snap_len hok.tab hok.most; omega)
 have c2 : w.cell? ⟨gs, 2, none⟩ = some (.int .i64 (M.rev : Int)) := hV.cell.2.2.1
 have hrm := hok.most
 have HPW := Hj (Put_whole M.rev w (by omega))
 have HPL : Hid ((intB M.rev).length ≤ 9) := Hj (intB_len (by omega))
 obtain ⟨K, hK⟩ : ∃ K, K = (intB M.rev).length := ⟨_, rfl⟩
 rw [← hK] at HPW
 have HKE := Hj hK
 have hp9 := HPL.out
 obtain ⟨B0, hB0⟩ : ∃ b, b = elemB 2 (intB M.rev) := ⟨_, rfl⟩
 obtain ⟨E0, hE0⟩ : ∃ n, n = B0.length := ⟨_, rfl⟩
 have HPut : Hid (∀ (W : World) (A : Option Addr) (k : Nat), OB W w.heap.size (.slice A K k) (intB M.rev) → Calls Tryz.prog 76 #[.agg #[.int .i64 2, .slice A K k]] W fun e w' => ∃ A' c', e = .returned (.tuple #[.slice A' E0 c', .nilIface]) ∧ OB w' W.heap.size (.slice A' E0 c') B0 ∧ Below W.heap.size W w') := Hj fun W A k h => by
  obtain ⟨A', c', e', h1, h2, h3⟩ := OB.form h
  injection e' with e1 e2 e3
  have h4 := Put_tlv 2 A K k (intB M.rev) W (.inr (by decide)) (by omega) (by rw [e1, e2]; exact h3) (by rw [e2, e3]; exact h1) (by rw [e3]; exact h2) (by omega)
  rw [← hB0, ← hE0] at h4
  exact h4
 have HE0 := Hj hE0
 have HB0 := Hj hB0
 have HBe : Hid (snapT M.rev M.tab = B0 ++ M.tab.flatMap fun x => evO (false, x.2)) := Hj (by rw [hB0]; rfl)
 obtain ⟨NX, hNX⟩ : ∃ n, n = xs.length := ⟨_, rfl⟩
 have HNX := Hj hNX
 have HKeys : Hid (∀ W, Below w.heap.size w W → Calls Tryz.prog 93 #[.pointer (some ⟨gt, 0, none⟩)] W fun e w' => ∃ A c, e = .returned (.slice A NX c) ∧ OwnS w' 0 9 1 (.slice A NX c) NX (xs.map fun x => .string x.1) ∧ Below W.heap.size W w') := Hj fun W hW => by
  refine (Keys_T gt sh _ W (HTab.out W hW) (by rw [List.length_map]; omega)).mono ?_
  rintro e w' ⟨kv, rfl, hrow, hb⟩
  rw [List.length_map, List.map_map, ← hNX] at hrow
  have ho := OwnS.of_own hrow
  obtain ⟨A, c, rfl, -, -⟩ := ho.form
  exact ⟨A, c, rfl, OwnS.mono ho fun _ _ => Nat.zero_le _, hb⟩
 have hnx9 : NX ≤ 90 := by omega
 have HN9 := Hj hnx9
 clear h hV hok hl hxl hrm hK hp9 hB0 hE0 hNX hnx9
 by_cases hx0 : NX = 0
 ·have HX0 := Hj hx0
  have HTab0 : Hid (snapT M.rev M.tab = B0) := Hj (by
   have e : xs = [] := List.eq_nil_of_length_eq_zero (by rw [← HNX.out]; exact hx0)
   rw [HBe.out, HTM.out, e]; simp)
  have HLen0 : Hid ((snapT M.rev M.tab).length = E0) := Hj (by rw [HTab0.out, HE0.out])
  subst hx0
  go_enter Tryz.func49, Tryz.ntmps49
  go_wp2_with (first
   | (go_at_call 92; go_loud ((with_reducible refine HPW.out.mono ?_); rintro e w1 ⟨A1, k1, rfl, ho1, hb1⟩; have HO1 := Hj ho1; have HB1 := Hj hb1; clear ho1 hb1))
   | (go_at_call 76; go_loud ((with_reducible refine (HPut.out w1 A1 k1 HO1.out).mono ?_); rintro e w2 ⟨A2, k2, rfl, ho2, hb2⟩; have HO2 := Hj ho2; have HB2 : Hid (Below w.heap.size w w2) := Hj (HB1.out.trans (hb2.mono HB1.out.size)); have hgt2 := HC.out w2 HB2.out; clear ho2 hb2))
   | (go_at_call 93; go_loud ((with_reducible refine (HKeys.out w2 HB2.out).mono ?_); rintro e w3 ⟨KA, k3, rfl, hk3, hb3⟩; have HB3 : Hid (Below w.heap.size w w3) := Hj (HB2.out.trans (hb3.mono HB2.out.size)); have HO3 : Hid (OB w3 w.heap.size (.slice A2 E0 k2) B0) := Hj (OB.mono (OB.below HO2.out hb3) HB1.out.size); clear hk3 hb3))
   | fail)
  go_loopg [4, 5, 28] 1 (fun gk s4 s5 s28 wr => s28 = .int .i64 0 ∧ s5 = .nilIface ∧ s4 = .slice A2 E0 k2 ∧ wr = w3)
  case atStart => exact ⟨rfl, rfl, rfl, rfl⟩
  case round =>
   obtain ⟨rfl, rfl, rfl, rfl⟩ := hrel
   go_wp2
   go_ret2
   refine ⟨A2, k2, by rw [HLen0.out]; rfl, ?_, HB3.out⟩
   rw [HLen0.out, HTab0.out]
   exact HO3.out
 ·have hx1 : 0 < NX := Nat.pos_of_ne_zero hx0
  have HX1 := Hj hx1
  clear hx0 hx1
  go_enter Tryz.func49, Tryz.ntmps49
  go_wp2_with (first
   | (go_at_call 92; go_loud ((with_reducible refine HPW.out.mono ?_); rintro e w1 ⟨A1, k1, rfl, ho1, hb1⟩; have HO1 := Hj ho1; have HB1 := Hj hb1; clear ho1 hb1))
   | (go_at_call 76; go_loud ((with_reducible refine (HPut.out w1 A1 k1 HO1.out).mono ?_); rintro e w2 ⟨A2, k2, rfl, ho2, hb2⟩; have HO2 := Hj ho2; have HB2 : Hid (Below w.heap.size w w2) := Hj (HB1.out.trans (hb2.mono HB1.out.size)); have hgt2 := HC.out w2 HB2.out; clear ho2 hb2))
   | (go_at_call 93; go_loud ((with_reducible refine (HKeys.out w2 HB2.out).mono ?_); rintro e w3 ⟨KA, k3, rfl, hk3, hb3⟩; obtain ⟨kg, ko, kcap, ek, -, -, -⟩ := OwnS.cells hk3 (by rw [List.length_map, ← HNX.out]; exact HX1.out); injection ek with ek1 ek2 ek3; subst ek1; have HK3 := Hj hk3; clear ek2 ek3; have HB3 : Hid (Below w.heap.size w w3) := Hj (HB2.out.trans (hb3.mono HB2.out.size)); have HO3 : Hid (OB w3 w.heap.size (.slice A2 E0 k2) B0) := Hj (OB.mono (OB.below HO2.out hb3) HB1.out.size); clear hk3 hb3))
   | fail)
  go_loopg [4, 5, 28] NX (fun gk s4 s5 s28 wr => ∃ i : Nat, s28 = .int .i64 (i : Int) ∧ s5 = .nilIface ∧ i + gk = NX ∧ OB wr w.heap.size s4 (B0 ++ (M.tab.take i).flatMap fun x => evO (false, x.2)) ∧ OwnS wr 0 9 1 (.slice (some ⟨kg, ko, none⟩) NX k3) NX (xs.map fun x => .string x.1) ∧ Below w.heap.size w wr)
  case atStart => exact ⟨0, rfl, rfl, by omega, by simp only [List.take_zero, List.flatMap_nil, List.append_nil]; exact HO3.out, HK3.out, HB3.out⟩
  case round =>
   obtain ⟨i, rfl, rfl, hi, hob, hkeys, hbel⟩ := hrel
   have HI := Hj hi
   have HOB := Hj hob
   have HKeysR := Hj hkeys
   have HBel := Hj hbel
   obtain ⟨Ao, co, eo, -, -, -⟩ := hob.form
   obtain ⟨F, hF⟩ : ∃ F, F = (B0 ++ (M.tab.take i).flatMap fun x => evO (false, x.2)) := ⟨_, rfl⟩
   rw [← hF] at HOB eo
   have HFE := Hj hF
   have hFl : F.length ≤ 1000000 := by
    have h1 := HSL.out
    rw [HBe.out] at h1
    rw [hF]
    have h2 : ((M.tab.take i).flatMap fun x => evO (false, x.2)).length ≤ (M.tab.flatMap fun x => evO (false, x.2)).length := by
     conv => rhs; rw [← List.take_append_drop i M.tab, List.flatMap_append, List.length_append]
     omega
    rw [List.length_append] at h1 ⊢
    omega
   have HFl := Hj hFl
   obtain ⟨FL, hFL⟩ : ∃ n, n = F.length := ⟨_, rfl⟩
   rw [← hFL] at eo
   have HFLe := Hj hFL
   by_cases hlt : i < NX
   ·have hx : ∃ k v o, xs[i]? = some (k, (v, o)) := by
     have h1 : i < xs.length := by have := HNX.out; omega
     exact ⟨_, _, _, List.getElem?_eq_getElem h1⟩
    obtain ⟨k, v, o, hx⟩ := hx
    have HXI := Hj hx
    have hmem : (k, (v, o)) ∈ xs := List.mem_of_getElem? hx
    have hck : wr.cell? ⟨kg, ko + i, none⟩ = some (.string k) := by
     obtain ⟨g', o', cap', e', -, -, hc⟩ := OwnS.cells hkeys (by rw [List.length_map, ← HNX.out]; omega)
     injection e' with e1 e2 e3
     injection e1 with e1
     injection e1 with e4 e5
     rw [e4, e5]
     exact hc i _ (by rw [List.getElem?_map, hx]; rfl)
    have hgt := HC.out wr hbel
    have hlk : look klt k (xs.map fun x => (x.1, x.2.1)) = some v := look_at klin HRis.out (i := i) (by rw [List.getElem?_map, hx]; rfl)
    have HGet := Hj (Get_some gt k v sh _ wr (HTab.out wr hbel) HRis.out hlk)
    have hp := HOk.out _ hmem
    have hIs := HIs.out wr hbel _ hmem
    simp only at hp hIs
    have HIsv : Hid (∀ W, Below w.heap.size w W → IsO W v o) := Hj fun W hW => HIs.out W hW _ hmem
    obtain ⟨p1, p2, p3, p4, p5⟩ := hp.1.parts
    have hpd := hp.1.data
    have hver := hIs.ver
    have hEvL := evO_len (e := (false, o)) hp.1 hp.2
    obtain ⟨EV, hEV⟩ : ∃ b, b = evO (false, o) := ⟨_, rfl⟩
    obtain ⟨EL, hEL⟩ : ∃ n, n = EV.length := ⟨_, rfl⟩
    rw [← hEV] at hEvL
    have HBy : Hid (∀ W, Below w.heap.size w W → Calls Tryz.prog 88 #[.agg #[.int .i64 v.ver, .bool false, .int .i64 v.kind, .string v.space, .string v.name, .int .i64 v.ver, .slice v.A v.n v.c]] W fun e w' => ∃ A c, e = .returned (.tuple #[.slice A EL c, .nilIface]) ∧ OB w' W.heap.size (.slice A EL c) EV ∧ Below W.heap.size W w') := Hj fun W hW => by
     have hI := HIsv.out W hW
     have h5 := bytes_put o.ver o.kind v o.data W hI.kind (by omega) (by omega) (by rw [hI.space]; omega) (by rw [hI.name]; omega) hI.rb (by rw [hI.num]; omega) hI.cap.1 hI.cap.2
     unfold evV at h5
     rw [← hver, hI.space, hI.name] at h5
     rw [hI.space, hI.name]
     have e5 : evB 1 o.kind o.ver o.space.data.toList o.name.data.toList o.data = EV := by rw [hEV]; rfl
     rw [e5, ← hEL] at h5
     exact h5
    have hFlat : B0 ++ ((M.tab.take (i + 1)).flatMap fun x => evO (false, x.2)) = F ++ EV := by
     have h1 : M.tab[i]? = some (k, o) := by rw [HTM.out, List.getElem?_map, hx]; rfl
     obtain ⟨h2, h3⟩ := List.getElem?_eq_some_iff.1 h1
     rw [List.take_succ_eq_append_getElem h2, h3, List.flatMap_append, hF, List.append_assoc, hEV]
     simp
    have HFlat := Hj hFlat
    have HELe := Hj hEL
    have HEvL : Hid (EV.length ≤ 10504) := Hj hEvL
    subst eo
    have i0 : (0 : Int) ≤ (i : Int) := by omega
    have i1 : (i : Int) < (NX : Int) := by omega
    have i2 : (i : Int) ≤ 90 := by have := HN9.out; omega
    have HLT := Hj hlt
    clear hi hob hkeys hbel hF hFl hFL hx hmem hlk hp hIs p1 p2 p3 p4 p5 hpd hver hEvL hEV hEL hFlat hlt
    go_wp2_with (first
     | (go_at_call 37; go_loud ((with_reducible refine HGet.out.mono ?_); rintro e w4 ⟨rfl, hb4⟩; have HB4 := Hj hb4; clear hb4))
     | (go_at_call 88; go_loud (
       have hbw4 : Below w.heap.size w (w4.alloc (.cells #[.int .i64 v.kind, .string v.space, .string v.name, .int .i64 v.ver, .slice v.A v.n v.c] 26)) := (HBel.out.trans (HB4.out.mono HBel.out.size)).alloc (Kv HBel.out.size HB4.out.size) _
       (with_reducible refine (HBy.out _ hbw4).mono ?_)
       rintro e w5 ⟨A5, k5, rfl, ho5, hb5⟩
       have HO5 : Hid (OB w5 w.heap.size (.slice A5 EL k5) EV) := Hj (OB.mono ho5 hbw4.size)
       have HB5 : Hid (Below wr.heap.size wr w5) := Hj ((HB4.out.alloc HB4.out.size _).trans (hb5.mono (HB4.out.alloc HB4.out.size _).size))
       clear hbw4 ho5 hb5))
     | (go_at_call 94; go_loud (
       obtain ⟨w6, hw6⟩ : ∃ W, W = w5.alloc (.cells #[.nilIface, .nilIface] 33) := ⟨_, rfl⟩
       have hr6 := heap_alloc_new w5 (.cells #[.nilIface, .nilIface] 33)
       have hb6 := (Below.refl w5.heap.size w5).alloc Kj (.cells #[.nilIface, .nilIface] 33)
       rw [← hw6] at hr6 hb6 ⊢
       have HB6 : Hid (Below wr.heap.size wr w6) := Hj (HB5.out.trans (hb6.mono HB5.out.size))
       have HO6 : Hid (OB w6 w.heap.size (.slice A5 EL k5) EV) := Hj (OB.below HO5.out hb6)
       (with_reducible refine (Join_nil _ _ w6 (Kq 0 hr6) (Kq 1 hr6)).mono ?_)
       rintro e w' ⟨rfl, rfl⟩
       clear hw6 hr6 hb6))
     | (at_builtin; go_loud (
       have ho := OB.below HOB.out HB6.out
       have hrb : RB w6 A5 EL EV := (by
        obtain ⟨A', c', e', -, -, h3⟩ := OB.form HO6.out
        injection e' with e1 e2 e3
        rw [e1, e2]; exact h3)
       have ho' : OB w6 w.heap.size (.slice Ao FL co) F := ho
       refine wpList_append_b rfl (.tmp 53) (.tmp 54) 24 rfl ho' rfl (RB.src Tryz.underlying24 hrb) rfl (by have := HFl.out; have := HEvL.out; omega) (HBel.out.trans (HB6.out.mono HBel.out.size)).size ?_
       intro v7 w7 hown7 hgr7 hat7
       have HO7 := Hj hown7
       have HB7 : Hid (Below w.heap.size w w7) := Hj (below_append (HBel.out.trans (HB6.out.mono HBel.out.size)) hgr7 ho' Kj (HBel.out.trans (HB6.out.mono HBel.out.size)).size)
       have HK7 : Hid (OwnS w7 0 9 1 (.slice (some ⟨kg, ko, none⟩) NX k3) NX (xs.map fun x => .string x.1)) := Hj (by
        have h6 := OwnS.below HKeysR.out HB6.out
        refine OwnS.kept h6 (Fr.of_grown hgr7) fun q hq e => ?_
        obtain ⟨cur, hcur⟩ := own_type h6 hq
        obtain ⟨cur', hcur'⟩ := own_type ho' e.symm
        exact absurd (types_ne hcur hcur') (by decide))
       clear hown7 hgr7 hat7 ho ho' hrb))
     | fail)
    go_roundg (gk - 1)
    case measure => have := HI.out; have := HLT.out; omega
    case rel => exact ⟨i + 1, by go_num, rfl, by have := HI.out; have := HLT.out; omega, by rw [HFlat.out]; exact HO7.out, HK7.out, HB7.out⟩
   ·have hin : i = NX := by omega
    have HEq : Hid (snapT M.rev M.tab = F) := Hj (by
     rw [HBe.out, hF, List.take_of_length_le]
     rw [HTM.out, List.length_map, ← HNX.out]; omega)
    have HEqL : Hid ((snapT M.rev M.tab).length = FL) := Hj (by rw [HEq.out, hFL])
    have q5 : ¬ (i : Int) < (NX : Int) := by omega
    subst eo
    clear hi hob hkeys hbel hF hFl hFL hin hlt
    go_wp2
    go_ret2
    refine ⟨Ao, co, by rw [HEqL.out]; rfl, ?_, HBel.out⟩
    rw [HEqL.out, HEq.out]
    exact HOB.out
end
end Go.Proofs.YtfmagnpmjlppiaaGreatDoor

/- Layer 20 (store): Compact; small laws of errors. -/
namespace Go.Proofs.YtfmagnpmjlppiaaGreatDoor
open Go.RowKit SO
theorem errOf_d (ea : Nat → Addr) (n : Nat) : errOf ea n = dErr ea n := by
 cases n with
 | zero => rfl
 | succ n => rfl
theorem DM.Is.logOk {m : DM} {A : Nat → List UInt8} {L : LM} (h : m.Is A) (hR : Reads A L) : L.Ok :=
 hR.ok (by rw [← h.sure 0 (by decide)]; exact h.ok.len _ (by decide)) (by rw [← h.sure 1 (by decide)]; exact h.ok.len _ (by decide)) (by rw [← h.sure 2 (by decide)]; exact h.ok.len _ (by decide))
theorem dErr_form (ea : Nat → Addr) {n : Nat} (h : n ≠ 0) : dErr ea n = .iface 338 (.pointer (some (ea n))) := by
 cases n with
 | zero => exact absurd rfl h
 | succ n => rfl
set_option maxRecDepth 100000 in
/-- errors.Is of nil. -/
theorem is_nil (b : Addr) (w : World) :
  Calls Tryz.prog 46 #[.nilIface, .iface 338 (.pointer (some b))] w fun e w' => e = .returned (.bool false) ∧ w = w' := by
 have heq := run_eql_iface_nil_left (P := Tryz.prog) (w := w) 338 (.pointer (some b)) Tryz.underlying33
 go_enter Tryz.func46, Tryz.ntmps46
 go_wp2
 go_ret
 exact ⟨rfl, rfl⟩
section
variable {w w0 : World} {Q : Nat → Prop} {g gs : Nat} {m : DM} {L : LM} {M : StM} {ea : Nat → Addr}
/-- The store behind a snapshot. -/
theorem SW.packed {w' : World} {m' : DM} {L' : LM} (h : SW w0 w Q g m' gs L' M) (hw : ∀ gl gt ev, w.heap[gs]? = some (.cells #[.pointer (some ⟨gl, 0, none⟩), .pointer (some ⟨gt, 0, none⟩), .int .i64 (M.rev : Int), .int .i64 (M.base : Int), ev] 85 (0, 0)) → w'.heap[gs]? = some (.cells #[.pointer (some ⟨gl, 0, none⟩), .pointer (some ⟨gt, 0, none⟩), .int .i64 (M.rev : Int), .int .i64 (M.rev : Int), .slice none 0 0] 85 (0, 0)))
  (hf : Fr (fun k => k = gs) w w') : SW w0 w' (ext Q w w') g m' gs L' M.fresh ∧ Fr Q w w' := by
 obtain ⟨Z, gl, gt, sh, ev, xs, ys, hV, hZ, hU⟩ := h.use
 have hne : ¬ gt = gs := fun e => by
  obtain ⟨p, hp, -⟩ := hV.tab
  exact typ_no hp e hV.cells (by decide)
 have hs : SV w' Z gl gs gt sh (.slice none 0 0) xs [] M.fresh :=
  ⟨hw gl gt ev hV.cells, hV.tab.fr hf hne fun b cs hb e => typ_no hb e hV.cells (by decide), hV.tabM, fun x hx => (hV.each x hx).fr hf fun k hk e => (by
   obtain ⟨cur, hcur⟩ := own_type (hV.each x hx).data hk
   exact typ_no hcur e hV.cells (by decide)), OwnS.nil _ _ _ _, rfl, fun y hy => (by cases hy), StM.at_ok hV.ok.tab hV.ok.most, hV.zs, hV.zt, fun k hk => (by cases hk), hV.zx, fun y hy => (by cases hy)⟩
 obtain ⟨h1, h2⟩ := hU w' Z sh _ xs [] M.fresh (fun _ => False) hs (hf.mono fun i _ e => by rw [e]; exact hV.zs) (fun k hk => hk.elim) fun k hk => .inl hk
 exact ⟨h1.mono (fun k hk => hk.elim id False.elim) fun k hk => ext_in h.up h.hi h.bel.size hf.size hk, h2⟩

set_option maxHeartbeats 4000000 in
set_option maxRecDepth 100000 in
theorem Compact_st (h : SW w0 w Q g m gs L M) (hE : EW w0 ea) (hok : m.Ok) (hL : L.Ok) (hw : m.waits.length ≤ 1000) (hl : M.tab.length ≤ 90) :
  Calls Tryz.prog 19 #[.pointer (some ⟨gs, 0, none⟩)] w fun e w' => e = .returned (dErr ea (L.cpE m (snapT M.rev M.tab))) ∧
   SW w0 w' (ext Q w w') g (L.cpM m (snapT M.rev M.tab)) gs (L.cp m (snapT M.rev M.tab)) (if L.cpE m (snapT M.rev M.tab) = 0 then M.fresh else M) ∧ Fr Q w w' := by
 have HTx := Hj (text_any h hl)
 have HSL : Hid ((snapT M.rev M.tab).length ≤ 1000000) := Hj (by have := snap_len h.ok.tab h.ok.most; omega)
 obtain ⟨t, ht⟩ : ∃ t, t = snapT M.rev M.tab := ⟨_, rfl⟩
 rw [← ht] at HTx HSL ⊢
 obtain ⟨TL, hTL⟩ : ∃ n, n = t.length := ⟨_, rfl⟩
 rw [← hTL] at HTx HSL
 obtain ⟨E, hEE⟩ : ∃ n, n = L.cpE m t := ⟨_, rfl⟩
 rw [← hEE]
 have HCp : Hid (∀ (w1 : World) (A1 : Option Addr) (k1 : Nat), Below w.heap.size w w1 → OB w1 w.heap.size (.slice A1 TL k1) t → ∃ gl, w1.cell? ⟨gs, 0, none⟩ = some (.pointer (some ⟨gl, 0, none⟩)) ∧ Calls Tryz.prog 50 #[.pointer (some ⟨gl, 0, none⟩), .slice A1 TL k1] w1 fun e w' => e = .returned (dErr ea E) ∧ SW w0 w' (ext Q w w') g (L.cpM m t) gs (L.cp m t) M ∧ Fr Q w w') := Hj fun w1 A1 k1 hb1 ho1 => by
  obtain ⟨S, gl, hdw, hc0, -, hcl⟩ := (h.below hb1).log
  obtain ⟨A', c', e', -, -, h3⟩ := OB.form ho1
  injection e' with e1 e2 e3
  refine ⟨gl, hc0, (Compact_any A1 TL k1 t hdw hE hok hL (by rw [e1, e2]; exact h3) HSL.out hw).mono ?_⟩
  rintro e w' ⟨rfl, hdw2, hf2⟩
  have h2 := h.behind hb1 (hcl _ _ _ hdw2 hf2)
  exact ⟨by rw [hEE], h2.1, h2.2⟩
 have HSW := Hj h
 clear h hE hok hL hw hl ht hTL hEE
 by_cases h0 : E = 0
 ·subst h0
  rw [if_pos rfl]
  go_enter Tryz.func19, Tryz.ntmps19
  go_wp2_with (first
   | (go_at_call 49; go_loud ((with_reducible refine HTx.out.mono ?_); rintro e w1 ⟨A1, k1, rfl, ho1, hb1⟩; obtain ⟨gl, hc0, hcp⟩ := HCp.out w1 A1 k1 hb1 ho1; have HCp1 := Hj hcp; clear hcp ho1 hb1))
   | (go_at_call 50; go_loud (
     (with_reducible refine HCp1.out.mono ?_)
     rintro e w2 ⟨rfl, hsw2, hf2⟩
     rw [dErr_zero]
     obtain ⟨Z2, gl2, gt2, sh2, ev2, xs2, ys2, hV2, -, -⟩ := hsw2.use
     obtain ⟨-, -, q2, q3, q4⟩ := hV2.cell
     have fz := hV2.fz
     have HS2 := Hj hsw2
     have HF2 := Hj hf2
     clear hsw2 hf2 hV2))
   | fail)
  go_ret
  have hF : Fr (fun k => k = gs) w2 ((w2.setCell ⟨gs, 3, none⟩ (.int .i64 (M.rev : Int))).setCell ⟨gs, 4, none⟩ (.slice none 0 0)) := ((Fr.refl (fun k => k = gs) w2).setCell (p := ⟨gs, 3, none⟩) (fun _ => rfl) _).setCell (p := ⟨gs, 4, none⟩) (fun _ => rfl) _
  have hP := HS2.out.packed (fun gl gt ev hr => heap_setCell_same _ _ 4 _ _ (.slice none 0 0) (heap_setCell_same _ _ 3 _ _ (.int .i64 (M.rev : Int)) hr)) hF
  obtain ⟨r1, r2⟩ := HSW.out.then HF2.out hP
  exact ⟨rfl, r1, r2⟩
 ·rw [if_neg h0]
  have hd := dErr_form ea h0

  rw [hd] at HCp ⊢
  clear hd h0
  go_enter Tryz.func19, Tryz.ntmps19
  go_wp2_with (first
   | (go_at_call 49; go_loud ((with_reducible refine HTx.out.mono ?_); rintro e w1 ⟨A1, k1, rfl, ho1, hb1⟩; obtain ⟨gl, hc0, hcp⟩ := HCp.out w1 A1 k1 hb1 ho1; have HCp1 := Hj hcp; clear hcp ho1 hb1))
   | (go_at_call 50; go_loud (
     (with_reducible refine HCp1.out.mono ?_)
     rintro e w2 ⟨rfl, hsw2, hf2⟩
     have HS2 := Hj hsw2
     have HF2 := Hj hf2
     clear hsw2 hf2))
   | fail)
  go_ret
  exact ⟨rfl, HS2.out, HF2.out⟩
end
end Go.Proofs.YtfmagnpmjlppiaaGreatDoor
