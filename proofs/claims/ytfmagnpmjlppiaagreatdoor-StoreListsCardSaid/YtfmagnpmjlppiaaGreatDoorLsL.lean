/- StoreLists: all lists. -/
import Derived.Test.YtfmagnpmjlppiaaGreatDoorMapI
import Derived.Test.YtfmagnpmjlppiaaGreatDoorStC
import Derived.Test.YtfmagnpmjlppiaaGreatDoorDiskS
namespace Go.Proofs.YtfmagnpmjlppiaaGreatDoor
open Go.RowKit SO
set_option maxRecDepth 100000 in
/-- StoreLists' frame. -/
def FS (f : Nat → Value) : Act := ⟨List.toArray (f 0 :: f 1 :: f 2 :: f 3 :: f 4 :: f 5 :: f 6 :: f 7 :: f 8 :: f 9 :: f 10 :: f 11 :: f 12 :: f 13 :: f 14 :: f 15 :: f 16 :: f 17 :: f 18 :: f 19 :: f 20 :: f 21 :: f 22 :: f 23 :: f 24 :: f 25 :: f 26 :: f 27 :: f 28 :: f 29 :: f 30 :: f 31 :: f 32 :: f 33 :: f 34 :: f 35 :: f 36 :: f 37 :: f 38 :: f 39 :: f 40 :: f 41 :: f 42 :: f 43 :: f 44 :: f 45 :: f 46 :: f 47 :: f 48 :: f 49 :: f 50 :: f 51 :: f 52 :: f 53 :: f 54 :: f 55 :: f 56 :: f 57 :: f 58 :: f 59 :: f 60 :: f 61 :: f 62 :: f 63 :: f 64 :: f 65 :: f 66 :: f 67 :: f 68 :: f 69 :: f 70 :: f 71 :: f 72 :: f 73 :: f 74 :: f 75 :: f 76 :: f 77 :: f 78 :: f 79 :: f 80 :: f 81 :: f 82 :: f 83 :: f 84 :: f 85 :: f 86 :: f 87 :: f 88 :: f 89 :: f 90 :: f 91 :: f 92 :: f 93 :: f 94 :: f 95 :: f 96 :: f 97 :: f 98 :: f 99 :: f 100 :: f 101 :: f 102 :: f 103 :: f 104 :: f 105 :: f 106 :: f 107 :: f 108 :: f 109 :: f 110 :: f 111 :: f 112 :: f 113 :: f 114 :: f 115 :: f 116 :: f 117 :: f 118 :: f 119 :: f 120 :: f 121 :: f 122 :: f 123 :: f 124 :: f 125 :: f 126 :: f 127 :: f 128 :: f 129 :: f 130 :: f 131 :: f 132 :: f 133 :: f 134 :: f 135 :: f 136 :: f 137 :: f 138 :: f 139 :: f 140 :: f 141 :: f 142 :: f 143 :: f 144 :: f 145 :: f 146 :: f 147 :: f 148 :: f 149 :: f 150 :: f 151 :: f 152 :: f 153 :: f 154 :: f 155 :: f 156 :: f 157 :: f 158 :: f 159 :: f 160 :: f 161 :: f 162 :: f 163 :: f 164 :: f 165 :: f 166 :: f 167 :: f 168 :: f 169 :: f 170 :: f 171 :: f 172 :: f 173 :: f 174 :: f 175 :: f 176 :: f 177 :: f 178 :: f 179 :: f 180 :: f 181 :: f 182 :: f 183 :: f 184 :: f 185 :: f 186 :: f 187 :: f 188 :: f 189 :: f 190 :: f 191 :: f 192 :: f 193 :: f 194 :: f 195 :: f 196 :: f 197 :: f 198 :: f 199 :: f 200 :: f 201 :: f 202 :: f 203 :: f 204 :: f 205 :: f 206 :: f 207 :: f 208 :: f 209 :: f 210 :: []), []⟩
def slotS (a : Act) (i : Nat) : Value := a.tmps.toList.getD i undef
def IsS (a : Act) : Prop := a = FS (slotS a)
section
variable {P : Program} {ops : Array Oper} {X : Exit → Act → World → Prop} {md : Region.Mode} {S : World → Prop}
/-- As tk, for an operation under a guard. -/
theorem tkg (i : Nat) {oi : Oper} {v : Value} {fuel : Nat} {listed : Array Bool} {a : Act} {w : World} (hi : ops[i]? = some oi) (hS : S w)
 (h : wpAnyH P md ops X S fuel (listed.setIfInBounds i true) (a.put oi.dst v) w)
 (hs : Region.noSelect ops = true := by kernel_rfl) (hf : Region.free md ops listed i = true := by kernel_rfl) (hr : (Region.ready md ops listed).contains i = true := by kernel_rfl)
 (hQ : ∀ c a w, X (.panic c) (a.put oi.dst v) w → X (.panic c) a w := by exact fun _ _ _ h => h)
 (hw : Region.wanted oi (yielded ops a.tmps) = true := by first | rfl | kernel_rfl)
 (hy : ∀ w, S w → (execOp a.eval oi).run P w = .ok (.value v) w := by (intro w hSw; (try dsimp only at hSw); go_simp; first | done | (with_reducible rfl))) : wpAnyH P md ops X S (fuel + 1) listed a w :=
 wpAnyH_take hi hs hf hr hQ (Or.inl ⟨hw, hy⟩) hS h
end
set_option maxHeartbeats 16000000 in
set_option maxRecDepth 100000 in
theorem lists_loop {w2 wa w6 : World} {Q : Nat → Prop} {g gs Bm : Nat} {m : DM} {L : LM} {M : StM} (fr : Act) (X : Exit → Act → World → Prop) (hfr : IsS fr) (h7 : slotS fr 7 = .pointer (some ⟨gs, 0, none⟩)) (h13 : slotS fr 13 = .map (some Bm)) (h14 : slotS fr 14 = .int .i64 1)
  (hSW : SW w2 wa Q g m gs L M) (hF : M.Ok ∧ VN M.tab ∧ M.rev ≤ 1000 ∧ M.tab.length ≤ 90 ∧ M.evs.length ≤ 100000 ∧ M.rev = M.base + M.evs.length) (hcnt : ∀ (K : Nat) (S : ByteArray), K ≤ 7 → No47 S → cntM M (K : Int) S ≤ 32) (him0 : IM w6 Bm []) (hum : wa.heap.size ≤ Bm) (hb6 : Below wa.heap.size wa w6)
  (hX : ∀ (fr' : Act) (w' : World), IsS fr' → slotS fr' 1 = slotS fr 1 → slotS fr' 7 = .pointer (some ⟨gs, 0, none⟩) → Below wa.heap.size wa w' → X (.exit 3) fr' w') :
  Code.wp Tryz.prog (.loop (lpC Tryz.f4.body 1)) X fr w6 := by
 have HX := Hj hX
 have HSW := Hj hSW
 have HF := Hj hF
 have HCnt := Hj hcnt
 have HIM0 := Hj him0
 have HUm := Hj hum
 have HB6 := Hj hb6
 clear hX hSW hF hcnt him0 hum hb6
 unfold IsS at hfr
 generalize slotS fr = f at *
 subst hfr
 unfold FS
 rw [h7, h13, h14]
 clear h7 h13 h14
 conv => arg 2; arg 1; whnf
 go_loopg [14] 7 (fun gk s14 wk => ∃ (K : Nat) (V : List Int), s14 = .int .i64 (K : Int) ∧ K + gk = 8 ∧ 1 ≤ K ∧ IM wk Bm V ∧ Seen M V (Bef M K 0 0) ∧ Below wa.heap.size wa wk)
 case atStart => exact ⟨1, [], rfl, rfl, Nat.le_refl _, HIM0.out, fun x hx => (by cases hx), HB6.out⟩
 case round =>
  obtain ⟨K, V, rfl, hK8, hK1, him, hseen, hbk⟩ := hrel
  obtain ⟨wk, rfl⟩ : ∃ W, W = wr := ⟨_, rfl⟩
  obtain ⟨gK, rfl⟩ : ∃ x, x = gk := ⟨_, rfl⟩
  clear HIM0 HB6
  have HIM := Hj him
  have HSeen := Hj hseen
  have HBk := Hj hbk
  clear him hseen hbk
  by_cases hK : K ≤ 7
  ·have HK : Hid (gK - 1 < gK ∧ K + 1 + (gK - 1) = 8 ∧ 1 ≤ K ∧ K ≤ 7) := Hj ⟨by omega, by omega, hK1, hK⟩
   have k1 : (K : Int) ≤ 7 := by omega
   have hwK : wrap64 ((K : Int) + 1) = (K : Int) + 1 := by unfold wrap64; omega
   have HWK := Hj hwK
   clear hK8 hK1 hK hwK
   go_wp2
   obtain ⟨ws, hws⟩ : ∃ W, W = wk.alloc (.cells #[.string ⟨#[]⟩, .string ⟨#[97]⟩, .string ⟨#[98]⟩, .string ⟨#[115, 104, 111, 112]⟩] 9) := ⟨_, rfl⟩
   obtain ⟨Bs, hBs⟩ : ∃ B, B = wk.heap.size := ⟨_, rfl⟩
   have hbs := (Below.refl wk.heap.size wk).alloc Kj (.cells #[.string ⟨#[]⟩, .string ⟨#[97]⟩, .string ⟨#[98]⟩, .string ⟨#[115, 104, 111, 112]⟩] 9)
   have hrs := heap_alloc_new wk (.cells #[.string ⟨#[]⟩, .string ⟨#[97]⟩, .string ⟨#[98]⟩, .string ⟨#[115, 104, 111, 112]⟩] 9)
   rw [← hws] at hbs hrs
   rw [← hBs] at hrs
   rw [← hws, ← hBs]
   have HIMs := Hj (HIM.out.below hbs)
   have HBs : Hid (Below wa.heap.size wa ws) := Hj (HBk.out.trans (hbs.mono HBk.out.size))
   have HRs := Hj hrs
   clear hws hBs hbs hrs HIM HBk
   go_loopg [99] 4 (fun gs2 s99 wp => ∃ (p : Nat) (V : List Int), s99 = .int .i64 (p : Int) ∧ p + gs2 = 4 ∧ IM wp Bm V ∧ Seen M V (Bef M K p 0) ∧ Below wa.heap.size wa wp ∧ wp.heap[Bs]? = some (.cells #[.string ⟨#[]⟩, .string ⟨#[97]⟩, .string ⟨#[98]⟩, .string ⟨#[115, 104, 111, 112]⟩] 9 (0, 0)))
   case atStart => exact ⟨0, V, rfl, rfl, HIMs.out, HSeen.out, HBs.out, HRs.out⟩
   case round =>
    obtain ⟨p, V, rfl, hp4, him, hseen, hbp, hrp⟩ := hrel
    obtain ⟨wp, rfl⟩ : ∃ W, W = wr := ⟨_, rfl⟩
    obtain ⟨gs2, rfl⟩ : ∃ x, x = gk := ⟨_, rfl⟩
    clear HIMs HSeen HBs HRs
    have HIM := Hj him
    have HSeen := Hj hseen
    have HBp := Hj hbp
    have HRp := Hj hrp
    clear him hseen hbp
    by_cases hp : p < 4
    ·obtain ⟨S, hS⟩ := sps_at p hp
     obtain ⟨hS47, hSz⟩ := sps_no47 p S hS
     have cS : wp.cell? ⟨Bs, p, none⟩ = some (.string S) := sps_cell hrp hS
     have HP : Hid (gs2 - 1 < gs2 ∧ p + 1 + (gs2 - 1) = 4) := Hj ⟨by omega, by omega⟩
     have HS := Hj hS
     have HSz := Hj hSz
     have HNo := Hj hS47
     have p0 : (0 : Int) ≤ (p : Int) := by omega
     have p1 : (p : Int) < 4 := by omega
     have hwp : wrap64 ((p : Int) + 1) = (p : Int) + 1 := by unfold wrap64; omega
     have HWP := Hj hwp
     have HSt : Hid (∀ W, Below wa.heap.size wa W → SW w2 W Q g m gs L M) := Hj fun W hW => HSW.out.below hW
     have HLs : Hid (Calls Tryz.prog 20 #[.pointer (some ⟨gs, 0, none⟩), .int .i64 (K : Int), .string S] wp fun e w' => ∃ v os, e = .returned v ∧ OL w' wp.heap.size v os ∧ os.length = (span klt (strB (rowL (K : Int) S)) (strB (toL (K : Int) S)) M.tab).length ∧ Objs w' wp.heap.size os (span klt (strB (rowL (K : Int) S)) (strB (toL (K : Int) S)) M.tab) ∧ Below wp.heap.size wp w') := Hj (List_any (K : Int) S (HSt.out wp HBp.out) (by have := HK.out.2.2.2; omega) hSz (Kv HF.out.2.2.2.1 (by decide)))
     clear hS hS47 hSz hp4 hp hwp hrp
     go_wp2_with (first
      | (go_at_call 20; go_loud ((with_reducible refine HLs.out.mono ?_); rintro e wl ⟨vl, os, rfl, hol, hol2, hobj, hbl⟩; obtain ⟨Al, cl, rfl, hcl1, hcl2⟩ := OwnS.form hol; obtain ⟨N, hN⟩ : ∃ N, N = os.length := ⟨_, rfl⟩; have HE5 : Hid (Value.slice Al os.length cl = Value.slice Al N cl) := Hj (by rw [hN]); rw [HE5.out]; have HOL := Hj hol; have HN2 : Hid (N = (span klt (strB (rowL (K : Int) S)) (strB (toL (K : Int) S)) M.tab).length) := Hj (hN.trans hol2); have HObj := Hj hobj; have HBl : Hid (Below wa.heap.size wa wl) := Hj (HBp.out.trans (hbl.mono HBp.out.size)); have HIMl := Hj (HIM.out.below hbl); have HRl := Hj ((hbl.block Bs (Cz HRp.out)).trans HRp.out); have HNe : Hid (Bs ≠ Bm) := Hj (im_ne HIMl.out HRl.out); have HNl : Hid (N ≤ 90) := Hj (by rw [hN, hol2]; exact Kv (List.length_filter_le _ _) HF.out.2.2.2.1); rw [← hN] at hcl1; clear hol hol2 hobj hbl hN))
      | fail)
     clear cS HLs HIM
     go_loopg [17, 108] N (fun gj s17 s108 wj => ∃ (j : Nat) (V : List Int) (last : ByteArray), s17 = .string last ∧ s108 = .int .i64 (j : Int) ∧ j + gj = N ∧ IM wj Bm V ∧ Seen M V (Bef M K p j) ∧ Fr (fun k => k = Bm) wl wj ∧ ((j = 0 ∧ last = ⟨#[]⟩) ∨ ∃ y, 0 < j ∧ (span klt (strB (rowL (K : Int) S)) (strB (toL (K : Int) S)) M.tab)[j - 1]? = some y ∧ last = y.2.name))
     case atStart => exact ⟨0, V, ⟨#[]⟩, rfl, rfl, by omega, HIMl.out, HSeen.out, Fr.refl _ _, .inl ⟨rfl, rfl⟩⟩
     case round =>
      obtain ⟨j, V, last, rfl, rfl, hjN, him, hseen, hfr, hlast⟩ := hrel
      obtain ⟨wj, rfl⟩ : ∃ W, W = wr := ⟨_, rfl⟩
      obtain ⟨gj, rfl⟩ : ∃ x, x = gk := ⟨_, rfl⟩
      clear HSeen
      have HFj := Hj hfr
      have HBj : Hid (Below wa.heap.size wa wj) := Hj (HBl.out.trans (hfr.below HBl.out.size fun i _ e => by rw [e]; exact HUm.out))
      by_cases hj : j < N
      ·obtain ⟨x, hx⟩ : ∃ x, (span klt (strB (rowL (K : Int) S)) (strB (toL (K : Int) S)) M.tab)[j]? = some x := ⟨_, List.getElem?_eq_getElem (by rw [← HN2.out]; exact hj)⟩
       obtain ⟨f1, f2, f3, f4, f5, f6, f7, f8⟩ := row_one HF.out.1 HF.out.2.1 HK.out.2.2.2 HS.out hx hseen hlast
       obtain ⟨v, hov, hiso, -⟩ := HObj.out j x hx
       obtain ⟨lb, lo, rfl, g0, g1, g2, g3, g4⟩ := list_cells HOL.out hov hfr HIMl.out
       have q0 : (v.kind != (K : Int)) = false := by rw [hiso.kind, f1]; simp
       have q1 : (v.space.toList != S.toList) = false := by rw [hiso.space, f2]; simp
       have q1' : v.space.toList = S.toList := by rw [hiso.space, f2]
       have q2 : Op.bytesLess v.name.toList last.toList = false := by rw [hiso.name]; exact klin.asy f3
       have q2' : (v.name.toList == last.toList) = false := by rw [hiso.name]; have h := ne_of_lt f3; rw [beq_eq_false_iff_ne] at h ⊢; exact fun e => h e.symm
       have q3 : decide (v.ver < 1) = false := decide_eq_false (by rw [hiso.ver]; omega)
       have q4 : decide ((M.rev : Int) < v.ver) = false := decide_eq_false (by rw [hiso.ver]; omega)
       have q3' : ¬ v.ver < 1 := of_decide_eq_false q3
       have q4' : ¬ (M.rev : Int) < v.ver := of_decide_eq_false q4
       have HRt : Hid ((namB v.kind v.space v.name && decide (v.n ≤ 8192)) = true) := Hj (by rw [hiso.kind, hiso.space, hiso.name, f7.named, hiso.num, decide_eq_true f7.data]; rfl)
       have hvn : v.ver ∉ V := by rw [hiso.ver]; exact f4
       obtain ⟨wx, hwx⟩ : ∃ W, W = wj.alloc (.cells #[.int .i64 v.kind, .string v.space, .string v.name, .int .i64 v.ver, .slice v.A v.n v.c] 26) := ⟨_, rfl⟩
       obtain ⟨BX, hBX⟩ : ∃ B, B = wj.heap.size := ⟨_, rfl⟩
       have hbx := (Below.refl wj.heap.size wj).alloc Kj (.cells #[.int .i64 v.kind, .string v.space, .string v.name, .int .i64 v.ver, .slice v.A v.n v.c] 26)
       have hrx := heap_alloc_new wj (.cells #[.int .i64 v.kind, .string v.space, .string v.name, .int .i64 v.ver, .slice v.A v.n v.c] 26)
       rw [← hwx] at hbx hrx
       rw [← hBX] at hrx
       have HIMx := Hj (him.below hbx)
       have HVn := Hj hvn
       have HRx := Hj hrx
       have HBx : Hid (Below wj.heap.size wj wx) := Hj hbx
       have HSx : Hid (∀ W, Below wx.heap.size wx W → (fun w' => w'.cell? ⟨BX, 0, none⟩ = some (.int .i64 v.kind) ∧ w'.cell? ⟨BX, 1, none⟩ = some (.string v.space) ∧ w'.cell? ⟨BX, 2, none⟩ = some (.string v.name) ∧ w'.cell? ⟨BX, 3, none⟩ = some (.int .i64 v.ver) ∧ w'.cell? ⟨BX, 4, none⟩ = some (.slice v.A v.n v.c) ∧ (Instr.lookup 51 (.map (some Bm)) (.int .i64 v.ver) false).run Tryz.prog w' = .ok (.bool false) w') W) := Hj fun W hW => by
        obtain ⟨u0, u1, u2, u3, u4⟩ := cells5 ((hW.block BX (Cz HRx.out)).trans HRx.out)
        exact ⟨u0, u1, u2, u3, u4, run_look_i map_ib Tryz.underlying3 (HIMx.out.below hW) zero_bool v.ver HVn.out⟩
       have HRev : Hid (∀ W, Below wa.heap.size wa W → Calls Tryz.prog 17 #[.pointer (some ⟨gs, 0, none⟩)] W fun e w' => e = .returned (.int .i64 (M.rev : Int)) ∧ W = w') := Hj fun W hW => Rev_any (HSt.out W hW)
       have HJ : Hid (gj - 1 < gj ∧ j + 1 + (gj - 1) = N) := Hj ⟨by omega, by omega⟩
       have HWX := Hj (And.intro hwx hBX)
       have HSn : Hid (Seen M (V ++ [v.ver]) (Bef M K p (j + 1))) := Hj (by rw [hiso.ver]; exact f8)
       have HNm : Hid (v.name = x.2.name ∧ (span klt (strB (rowL (K : Int) S)) (strB (toL (K : Int) S)) M.tab)[j]? = some x) := Hj ⟨hiso.name, hx⟩
       have HUx : Hid (wj.heap.size ≤ BX) := Hj (Nat.le_of_eq hBX.symm)
       have j0 : (0 : Int) ≤ (j : Int) := by omega
       have j1 : (j : Int) < (N : Int) := by omega
       have hwj : wrap64 ((j : Int) + 1) = (j : Int) + 1 := by have := HNl.out; unfold wrap64; omega
       clear him hseen hlast hx f1 f2 f3 f4 f5 f6 f7 f8 hov hiso hvn hwx hBX hbx hrx hfr hj hjN
       go_wp2
       rw [← HWX.out.1, ← HWX.out.2]
       clear g0 g1 g2 g3 g4 HWX
       refine wp_region_noPanic ?_
       refine wp_region_held_drew (S := (fun w' => w'.cell? ⟨BX, 0, none⟩ = some (.int .i64 v.kind) ∧ w'.cell? ⟨BX, 1, none⟩ = some (.string v.space) ∧ w'.cell? ⟨BX, 2, none⟩ = some (.string v.name) ∧ w'.cell? ⟨BX, 3, none⟩ = some (.int .i64 v.ver) ∧ w'.cell? ⟨BX, 4, none⟩ = some (.slice v.A v.n v.c) ∧ (Instr.lookup 51 (.map (some Bm)) (.int .i64 v.ver) false).run Tryz.prog w' = .ok (.bool false) w')) (by kernel_rfl) ?_ (fun hHeld => ?_)
       ·exact HSx.out wx.drew ⟨rfl, rfl, rfl, Nat.le_refl _, fun _ _ => rfl⟩
       refine tk 0 hHeld ?_
       try simp only [pa]
       refine tk 1 hHeld ?_
       try simp only [pa]
       refine tk 2 hHeld ?_
       try simp only [pa]
       refine tk 3 hHeld ?_
       try simp only [pa]
       refine tk 4 hHeld ?_
       try simp only [pa]
       refine tkg 5 rfl hHeld ?_
       try simp only [pa]
       refine tkg 6 rfl hHeld ?_
       try simp only [pa]
       refine tkg 7 rfl hHeld ?_
       try simp only [pa]
       refine tkg 8 rfl hHeld ?_
       try simp only [pa]
       refine tk 9 hHeld ?_
       try simp only [pa]
       refine tk 10 hHeld ?_
       try simp only [pa]
       refine tkg 11 rfl hHeld ?_
       try simp only [pa]
       refine tkg 12 rfl hHeld ?_
       try simp only [pa]
       refine tkg 13 rfl hHeld ?_
       try simp only [pa]
       refine tkg 14 rfl hHeld ?_
       try simp only [pa]
       refine tk 15 hHeld ?_
       try simp only [pa]
       refine tk 16 hHeld ?_
       try simp only [pa]
       refine tkg 17 rfl hHeld ?_
       try simp only [pa]
       refine tkg 18 rfl hHeld ?_
       try simp only [pa]
       refine tkg 19 rfl hHeld ?_
       try simp only [pa]
       refine tkg 20 rfl hHeld ?_
       try simp only [pa]
       refine tk 21 hHeld ?_
       try simp only [pa]
       refine tk 22 hHeld ?_
       try simp only [pa]
       refine tkg 23 rfl hHeld ?_
       try simp only [pa]
       refine tkg 24 rfl hHeld ?_
       try simp only [pa]
       refine tkg 25 rfl hHeld ?_
       try simp only [pa]
       refine tk 26 hHeld ?_
       try simp only [pa]
       refine tk 27 hHeld ?_
       try simp only [pa]
       refine tkg 28 rfl hHeld ?_
       try simp only [pa]
       refine tkg 29 rfl hHeld ?_
       try simp only [pa]
       refine tkg 30 rfl hHeld ?_
       try simp only [pa]
       refine rd1 31 rfl (fun K hK => ?_)
       go_simp
       refine (HRev.out wx.drew (by have h := HBj.out.trans (HBx.out.mono HBj.out.size); exact ⟨h.os, h.tape, h.output, h.size, h.block⟩)).mono ?_
       rintro e w' ⟨rfl, rfl⟩
       refine hK.out _ _ ?_ (fun hHeld => ?_)
       ·exact hHeld
       clear hK
       try simp only [pa]
       refine tkg 32 rfl hHeld ?_
       try simp only [pa]
       refine tk 33 hHeld ?_
       try simp only [pa]
       refine tk 34 hHeld ?_
       try simp only [pa]
       refine tkg 35 rfl hHeld ?_
       try simp only [pa]
       refine rd1 36 rfl (fun K hK => ?_)
       go_simp
       refine (Right_any v wx.drew).mono ?_
       rintro e wz ⟨rfl, hbz⟩
       rw [HRt.out]
       have HBz : Hid (Below wx.heap.size wx wz) := Hj ⟨hbz.os, hbz.tape, hbz.output, hbz.size, hbz.block⟩
       have HSz := Hj (HSx.out wz HBz.out)
       clear hbz
       refine hK.out _ _ ?_ (fun hHeld => ?_)
       ·exact HSz.out
       clear hK
       try simp only [pa]
       refine tkg 37 rfl hHeld ?_
       try simp only [pa]
       refine tk 38 hHeld ?_
       try simp only [pa]
       refine wpAnyH_done (by kernel_rfl) ?_ _
       refine NoPanic.normal ?_
       obtain ⟨-, -, u2, u3, -, -⟩ := HSz.out
       obtain ⟨wm, hput, himm, hfrm⟩ := run_put_i (P := Tryz.prog) map_ib Tryz.underlying3 (HIMx.out.below HBz.out) v.ver HVn.out
       have HIMm := Hj himm
       have HFm := Hj hfrm
       clear himm hfrm q0 q1 q1' q2 q2' q3 q4 q3' q4'
       go_wp2
       go_roundg (gj - 1)
       case measure => exact HJ.out.1
       case rel => exact ⟨j + 1, V ++ [v.ver], v.name, rfl, by go_num, HJ.out.2, HIMm.out, HSn.out, HFj.out.trans ((Fr.of_below (HBx.out.trans (HBz.out.mono HBx.out.size))).trans HFm.out fun i _ h => h) fun i _ h => h, .inr ⟨x, Nat.succ_pos _, HNm.out.2, HNm.out.1⟩⟩
      ·obtain rfl : j = N := by omega
       have HCt : Hid (∀ W, Below wa.heap.size wa W → Calls Tryz.prog 22 #[.pointer (some ⟨gs, 0, none⟩), .int .i64 (K : Int), .string S] W fun e w' => e = .returned (.int .i64 (cntM M (K : Int) S)) ∧ Below W.heap.size W w') := Hj fun W hW => Count_any (K : Int) S (HSt.out W hW) (by have := HK.out.2.2.2; omega) HSz.out (Kv HF.out.2.2.2.1 (by decide))
       have hcn : ¬ (32 : Int) < cntM M (K : Int) S := by have := HCnt.out K S HK.out.2.2.2 HNo.out; omega
       generalize cntM M (K : Int) S = ct at *
       have HIMj := Hj him
       have HSj : Hid (Seen M V (Bef M K (p + 1) 0)) := Hj (hseen.mono (bef_row HF.out.1 HK.out.2.2.2 HS.out))
       have HRj : Hid (wj.heap[Bs]? = some (.cells #[.string ⟨#[]⟩, .string ⟨#[97]⟩, .string ⟨#[98]⟩, .string ⟨#[115, 104, 111, 112]⟩] 9 (0, 0))) := Hj ((hfr.block Bs (Cz HRl.out) HNe.out).trans HRl.out)
       have hwp := HWP.out
       clear him hseen hfr hlast hj hjN
       go_wp2_with (first
        | (go_at_call 22; go_loud ((with_reducible refine (HCt.out wj HBj.out).mono ?_); rintro e wq ⟨rfl, hbq⟩; have HBq := Hj hbq; clear hbq))
        | fail)
       go_roundg (gs2 - 1)
       case measure => exact HP.out.1
       case rel => exact ⟨p + 1, V, by go_num, HP.out.2, HIMj.out.below HBq.out, HSj.out, HBj.out.trans (HBq.out.mono HBj.out.size), (HBq.out.block Bs (Cz HRj.out)).trans HRj.out⟩
    ·obtain rfl : p = 4 := by omega
     have hwK := HWK.out
     have HSk : Hid (Seen M V (Bef M (K + 1) 0 0)) := Hj (HSeen.out.mono fun e h => bef_kind e h)
     clear hp hp4 hrp
     go_wp2
     go_roundg (gK - 1)
     case measure => exact HK.out.1
     case rel => exact ⟨K + 1, V, by go_num, HK.out.2.1, Nat.succ_le_succ (Nat.zero_le _), HIM.out, HSk.out, HBp.out⟩
  ·obtain rfl : K = 8 := by omega
   clear HIM HSeen hK8 hK1 hK
   go_wp2
   exact HX.out _ _ rfl rfl rfl HBk.out
end Go.Proofs.YtfmagnpmjlppiaaGreatDoor

/- StoreLists: its walk. -/
namespace Go.Proofs.YtfmagnpmjlppiaaGreatDoor
open Go.RowKit SO

theorem loop_ints {i n k : Nat} (h : i < n) (hn : n ≤ 40) (hk : i + k = n) : (0 : Int) ≤ (i : Int) ∧ (i : Int) < (n : Int) ∧ (i : Int) ≤ 40 ∧ k - 1 < k ∧ i + 1 + (k - 1) = n ∧ i ≤ 40 ∧ wrap64 ((i : Int) + 1) = (i : Int) + 1 :=
 ⟨by omega, by omega, by omega, by omega, by omega, by omega, by unfold wrap64; omega⟩
theorem ev_ints {i nz a R gi : Nat} (hi : i < nz) (hz : nz = R - a) (hr : a ≤ R ∧ R ≤ 1000) (hin : i + gi = nz) : (0 : Int) ≤ (i : Int) ∧ (i : Int) < (nz : Int) ∧ wrap64 ((i : Int) + 1) = (i : Int) + 1 ∧ wrap64 ((a : Int) + 1 + (i : Int)) = (a : Int) + 1 + (i : Int) ∧ IntKind.i64.wrap ((a : Int) + 1 + (i : Int)) = (a : Int) + 1 + (i : Int) ∧ gi - 1 < gi ∧ i + 1 + (gi - 1) = nz :=
 ⟨by omega, by omega, by unfold wrap64; omega, by unfold wrap64; omega, IntWalk.i64_in _ (by omega), by omega, by omega⟩
theorem ev_fin {nz a R : Nat} (hz : nz = R - a) (hr : a ≤ R ∧ R ≤ 1000) : ((nz : Int) == (R : Int) - (a : Int)) = true := by rw [beq_iff_eq]; omega
theorem ev_end {i nz gi : Nat} (hi : ¬ i < nz) (hin : i + gi = nz) : i = nz := by omega
set_option maxHeartbeats 16000000 in
set_option maxRecDepth 100000 in
theorem StoreLists_any (A : Option Addr) (n c : Nat) (l : List Act20) (after : Int) (w : World) (hl : RActs20 w A n l) (hn : n ≤ maxLen) {ea : Nat → Addr} (hE : EW w ea) (hR : Errs w ea) :
  Calls Tryz.prog 4 #[.slice A n c, .int .i64 after] w fun e w' => e = .returned (.bool true) ∧ Below w.heap.size w w' := by
 have HL := Hj hl
 have HE := Hj hE
 have HRR := Hj hR
 have HAl : Hid (Calls Tryz.prog 6 #[] w fun e w' => e = .returned (.bool true) ∧ Below w.heap.size w w') := Hj (alive20_any w hE hR)
 have HLG : Hid (∀ W, Keeps w W → Calls Tryz.prog 7 #[.slice A n c] W fun e w' => e = .returned (.bool (longS l)) ∧ Below W.heap.size W w') := Hj fun W k => long20_any A n c l W (hl.keep k) hn
 clear hE hR hl
 cases hlg : longS l with
 | true =>
  rw [hlg] at HLG
  clear hlg
  go_enter Tryz.func4, Tryz.ntmps4
  go_wp2_with (first
   | (go_at_call 6; go_loud ((with_reducible refine HAl.out.mono ?_); rintro e w1 ⟨rfl, hb1⟩; have B1 := Hj hb1; clear hb1))
   | (go_at_call 7; go_loud ((with_reducible refine (HLG.out w1 (Kz B1.out)).mono ?_); rintro e w2 ⟨rfl, hb2⟩; have B2 := Hj hb2; clear hb2))
   | fail)
  go_ret
  exact ⟨rfl, B1.out.trans (B2.out.mono B1.out.size)⟩
 | false =>
 rw [hlg] at HLG
 have HM : Hid (n ≤ 40 ∧ ∀ a ∈ l, a.o.space.size ≤ 1000 ∧ a.o.name.size ≤ 1000) := Hj (by
  unfold longS at hlg
  rw [Bool.or_eq_false_iff, decide_eq_false_iff_not, HL.out.1] at hlg
  refine ⟨by omega, fun a ha => ?_⟩
  have h2 := List.any_eq_false.1 hlg.2 a ha
  unfold over20 at h2
  simp only [Bool.or_eq_true, decide_eq_true_eq, not_or] at h2
  exact ⟨by omega, by omega⟩)
 clear hlg
 have hlive := live0 60000 (by decide) (by decide)
 have hfound := fun L' hR => Live.found (L' := L') hlive on0 hR
 have hrd : Reads (fun i => (⟨60000, fun _ => [], [], false, 0, false⟩ : DM).b (3 + i)) ⟨0, 1, [], [], false⟩ := on0.reads
 obtain ⟨-, -, -, -, hlo, hop, hom⟩ := hfound _ hrd
 have ht0 : Tells ⟨0, 1, [], [], false⟩ st0 := tells0 rfl rfl
 have hlen5 : ((⟨60000, fun _ => [], [], false, 0, false⟩ : DM).b 5).length ≤ 1048576 := Nat.zero_le _
 have hwz : (⟨60000, fun _ => [], [], false, 0, false⟩ : DM).waits = [] := rfl
 have hgz : (⟨60000, fun _ => [], [], false, 0, false⟩ : DM).gone = false := rfl
 have HNew : Hid (∀ W, Calls Tryz.prog 8 #[.int .i64 60000] W fun e w' => e = .returned (.tuple #[.pointer (some ⟨W.heap.size, 0, none⟩), .nilIface]) ∧ DS W w' W.heap.size ⟨60000, fun _ => [], [], false, 0, false⟩) := Hj fun W => New_S 60000 (Below.refl _ _) (by decide) (by decide)
 have HP0 : Hid (LInv ⟨60000, fun _ => [], [], false, 0, false⟩ ⟨0, 1, [], [], false⟩ st0 0) := Hj ⟨⟨0, Nat.le_refl _, ⟨⟨fun _ => [], is0S 60000 (by decide) (by decide), on0⟩, rfl, ht0, rfl, Nat.le_refl _⟩⟩, rfl, List.Pairwise.nil, fun K S _ _ => by rw [cnt_span]; show (0 : Int) ≤ 32; decide⟩
 obtain ⟨m0, hm0⟩ : ∃ m : DM, m = ⟨60000, fun _ => [], [], false, 0, false⟩ := ⟨_, rfl⟩
 obtain ⟨L0, hL0⟩ : ∃ L : LM, L = ⟨0, 1, [], [], false⟩ := ⟨_, rfl⟩
 have hd0 : L0.dead = false := by rw [hL0]
 have htx : L0.text.length ≤ 1048576 := by rw [hL0]; decide
 rw [← hm0] at HNew HP0 hlive hrd hop hom hlen5 hwz hgz
 rw [← hL0] at HP0 hrd hlo hop hom ht0
 have HOp : Hid (∀ W0 W g, EW W0 ea → DS W0 W g m0 → Calls Tryz.prog 9 #[.pointer (some ⟨g, 0, none⟩)] W fun e w' => ∃ gs Q, e = .returned (.tuple #[.pointer (some ⟨gs, 0, none⟩), .nilIface]) ∧ SW W0 w' Q g m0 gs L0 st0) := Hj fun W0 W g hE2 hs => (Open_st hs.dd hE2 hlive.ok (by rw [hwz]; exact Nat.zero_le _) hgz hrd hd0 hlo hlen5 ht0 ⟨by decide, by decide⟩ htx hop).mono fun e w' => by
  rintro ⟨gs, Q, rfl, hsw, -, -⟩
  rw [hom] at hsw
  exact ⟨gs, Q, rfl, hsw⟩
 clear hfound hlive hrd hlo hop hom ht0 hlen5 hwz hgz hm0 hL0 hd0 htx
 go_enter Tryz.func4, Tryz.ntmps4
 go_wp2_with (first
  | (go_at_call 6; go_loud ((with_reducible refine HAl.out.mono ?_); rintro e w1 ⟨rfl, hb1⟩; have B1 := Hj hb1; clear hb1))
  | (go_at_call 7; go_loud ((with_reducible refine (HLG.out w1 (Kz B1.out)).mono ?_); rintro e w2 ⟨rfl, hb2⟩; have B2 := Hj (B1.out.trans (hb2.mono B1.out.size)); have HE2 := Hj (HE.out.below B2.out); have HR2 := Hj (HRR.out.below B2.out); clear hb2))
  | (go_at_call 8; go_loud ((with_reducible refine (HNew.out w2).mono ?_); rintro e w3 ⟨rfl, hs3⟩; have S3 := Hj hs3; clear hs3))
  | (go_at_call 9; go_loud ((with_reducible refine (HOp.out w2 w3 w2.heap.size HE2.out S3.out).mono ?_); rintro e w4 ⟨gs, Q4, rfl, hs4⟩; have S4 := Hj hs4; clear hs4))
  | fail)
 clear HOp HNew HAl HLG S3
 go_loopg [42] n (fun gk s42 wr => ∃ (i : Nat) (Q : Nat → Prop) (m : DM) (L : LM) (M : StM), s42 = .int .i64 (i : Int) ∧ i + gk = n ∧ LInv m L M i ∧ SW w2 wr Q w2.heap.size m gs L M)
 case atStart => exact ⟨0, _, m0, L0, st0, rfl, by omega, HP0.out, S4.out⟩
 case round =>
  obtain ⟨i, Q, m, L, M, rfl, hik, hpi, hsw⟩ := hrel
  clear HP0 S4
  by_cases hi : i < n
  ·skip
   obtain ⟨b, o, rfl, x, hx, hao, z1, z2⟩ := acts_at HL.out HM.out.2 i hi
   obtain ⟨k0, k1, k2, g1, g2, hi40, hwi⟩ := loop_ints hi HM.out.1 hik
   obtain ⟨c0, c1, c2, c3, c4, c5, c6, c7, c8, c9⟩ := hx.keep (Kz (B2.out.trans (hsw.bel.mono B2.out.size)))
   have HOKx : Hid (RB w2 x.o.A x.o.n x.bs ∧ x.o.kind ≤ 9223372036854775807 ∧ x.o.space.size ≤ 1000 ∧ x.o.name.size ≤ 1000) := Hj ⟨hao.rb.keep (Kz B2.out), hao.kind, z1, z2⟩
   have HG : Hid (gk - 1 < gk ∧ i + 1 + (gk - 1) = n ∧ i ≤ 40) := Hj ⟨g1, g2, hi40⟩
   have HWI := Hj hwi
   have HPI := Hj hpi
   have HSW := Hj hsw
   obtain ⟨wB, BA, BO, hwB, hBA, hBO, hBO2, hbB, hrA, hrO⟩ := two_boxes wr #[.int .i64 x.kind, .int .i64 x.n, .int .i64 x.torn, .int .u64 x.scat, .int .i64 x.o.kind, .string x.o.space, .string x.o.name, .int .i64 x.o.ver, .slice x.o.A x.o.n x.o.c, .bool x.now] #[.int .i64 x.o.kind, .string x.o.space, .string x.o.name, .int .i64 x.o.ver, .slice x.o.A x.o.n x.o.c] 28 26
   have HBB := Hj hbB
   have HRA := Hj hrA
   have HRO := Hj hrO
   have HUp : Hid (wr.heap.size ≤ BA ∧ wr.heap.size ≤ BO ∧ BA ≠ BO) := Hj (by rw [hBA, hBO]; exact ⟨Nat.le_refl _, Nat.le_succ _, Nat.ne_of_lt (Nat.lt_succ_self _)⟩)
   have HWB2 := Hj (And.intro hwB (And.intro hBA (And.intro hBO hBO2)))
   have HGet : Hid (Calls Tryz.prog 11 #[.pointer (some ⟨gs, 0, none⟩), .int .i64 x.o.kind, .string x.o.space, .string x.o.name] wB fun e w' => ∃ (v : OV) (fnd : Bool), e = .returned (.tuple #[.agg #[.int .i64 v.kind, .string v.space, .string v.name, .int .i64 v.ver, .slice v.A v.n v.c], .bool fnd]) ∧ Below wB.heap.size wB w') := Hj ((Get_st x.o.kind x.o.space x.o.name (hsw.below hbB) hao.kind z1 z2).mono fun e w' => by
    rintro ⟨v, rfl, -, hb⟩
    exact ⟨v, _, rfl, hb⟩)
   clear hik hpi hsw hi hx hao z1 z2 hbB hrA hrO hwB hBA hBO hBO2 g1 g2 hwi hi40
   go_upto_if 59 with (first
    | (go_at_call 11; go_loud (rw [← HWB2.out.1, ← HWB2.out.2.2.1, ← HWB2.out.2.1]; (with_reducible refine HGet.out.mono ?_); rintro e w3 ⟨v, fnd, rfl, hb3⟩; have B3 := Hj hb3; clear hb3))
    | fail)
   clear HGet HWB2
   obtain ⟨w5, hw5⟩ : ∃ W, W = w3.alloc (.cells #[.int .i64 v.kind, .string v.space, .string v.name, .int .i64 v.ver, .slice v.A v.n v.c] 26) := ⟨_, rfl⟩
   obtain ⟨BV, hBV⟩ : ∃ B, B = w3.heap.size := ⟨_, rfl⟩
   have hb5 : Below wB.heap.size wB w5 := by rw [hw5]; exact B3.out.alloc B3.out.size _
   have r3 : w5.cell? ⟨BV, 3, none⟩ = some (.int .i64 v.ver) := by rw [hw5, hBV]; exact Kq 3 (heap_alloc_new w3 _)
   have hro5 := (hb5.block BO (Cz HRO.out)).trans HRO.out
   have hra5 := (hb5.block BA (Cz HRA.out)).trans HRA.out
   have d3 : w5.cell? ⟨BO, 3, none⟩ = some (.int .i64 x.o.ver) := Kq 3 hro5
   have fx : ∀ k, w5.frozen? ⟨BO, k, none⟩ = false := fun k => Kx hro5
   have HB5 : Hid (Below wr.heap.size wr w5) := Hj (HBB.out.trans (hb5.mono HBB.out.size))
   have HRO5 := Hj hro5
   have HRA5 := Hj hra5
   rw [← hw5, ← hBV]
   clear hw5 hBV hb5 hro5 hra5 HRO HRA HBB
   go_cut [] from 43 to 91 (fun wc => ∃ vv : Int, Below wr.heap.size wr wc ∧ wc.heap[BO]? = some (.cells #[.int .i64 x.o.kind, .string x.o.space, .string x.o.name, .int .i64 vv, .slice x.o.A x.o.n x.o.c] 26 (0, 0)) ∧ wc.heap[BA]? = some (.cells #[.int .i64 x.kind, .int .i64 x.n, .int .i64 x.torn, .int .u64 x.scat, .int .i64 x.o.kind, .string x.o.space, .string x.o.name, .int .i64 x.o.ver, .slice x.o.A x.o.n x.o.c, .bool x.now] 28 (0, 0)))
   case first =>
    cases fnd with
    | true =>
     go_wp2_with fail
     go_meet
     exact ⟨v.ver, HB5.out.setCell HUp.out.2.1 _, heap_setCell_same _ _ 3 _ _ _ HRO5.out, (heap_setCell_other _ _ BA _ HUp.out.2.2).trans HRA5.out⟩
    | false =>
     go_wp2_with fail
     go_meet
     exact ⟨x.o.ver, HB5.out, HRO5.out, HRA5.out⟩
   case rest =>
   clear r3 d3 fx HRO5 HRA5 HB5 B3
   obtain ⟨vv, hbc, hro, hra⟩ := hcut
   obtain ⟨wy, rfl⟩ : ∃ W, W = wc := ⟨_, rfl⟩
   have HBC := Hj hbc
   have y0 : wy.cell? ⟨BA, 0, none⟩ = some (.int .i64 x.kind) := Kq 0 hra
   obtain ⟨v0, v1, v2, v3, v4⟩ := VB.of_row (v := ⟨x.o.kind, x.o.space, x.o.name, vv, x.o.A, x.o.n, x.o.c⟩) hro
   dsimp only at v0 v1 v2 v3 v4
   clear hbc hro hra
   by_cases q0 : x.kind = 0
   ·have e0 : (x.kind == 0) = true := by rw [q0]; rfl
    clear q0
    go_wp2_with (first
     | (go_at_call 12; go_loud ((with_reducible refine (cre_L ⟨x.o.kind, x.o.space, x.o.name, vv, x.o.A, x.o.n, x.o.c⟩ x.bs (HSW.out.below HBC.out) HPI.out HG.out.2.2 HR2.out HE2.out HOKx.out.1 HOKx.out.2.1 HOKx.out.2.2.1 HOKx.out.2.2.2).mono ?_); rintro e wd ⟨xa, ya, Q', M', L', m', rfl, ho, hs⟩; have HO := Hj ho; have HS := Hj hs; clear ho hs))
     | fail)
    go_roundg (gk - 1)
    case measure => exact HG.out.1
    case rel => exact ⟨i + 1, Q', m', L', M', by go_num, HG.out.2.1, HO.out, HS.out⟩
   ·have e0 : (x.kind == 0) = false := beq_eq_false_iff_ne.2 q0
    by_cases q2 : x.kind = 2
    ·have e2 : (x.kind == 2) = true := by rw [q2]; rfl
     clear q0 q2
     go_wp2_with (first
      | (go_at_call 13; go_loud ((with_reducible refine (del_L ⟨x.o.kind, x.o.space, x.o.name, vv, x.o.A, x.o.n, x.o.c⟩ (HSW.out.below HBC.out) HPI.out HG.out.2.2 HR2.out HE2.out HOKx.out.2.1 HOKx.out.2.2.1 HOKx.out.2.2.2).mono ?_); rintro e wd ⟨xa, ya, Q', M', L', m', rfl, ho, hs⟩; have HO := Hj ho; have HS := Hj hs; clear ho hs))
      | fail)
     go_roundg (gk - 1)
     case measure => exact HG.out.1
     case rel => exact ⟨i + 1, Q', m', L', M', by go_num, HG.out.2.1, HO.out, HS.out⟩
    ·have e2 : (x.kind == 2) = false := beq_eq_false_iff_ne.2 q2
     by_cases q3 : x.kind = 3
     ·have e3 : (x.kind == 3) = true := by rw [q3]; rfl
      clear q0 q2 q3
      go_wp2_with (first
       | (go_at_call 19; go_loud ((with_reducible refine (cmp_L (HSW.out.below HBC.out) HPI.out HG.out.2.2 HE2.out).mono ?_); rintro e wd ⟨xa, Q', M', L', m', rfl, ho, hs⟩; have HO := Hj ho; have HS := Hj hs; clear ho hs))
       | fail)
      go_roundg (gk - 1)
      case measure => exact HG.out.1
      case rel => exact ⟨i + 1, Q', m', L', M', by go_num, HG.out.2.1, HO.out, HS.out⟩
     ·have e3 : (x.kind == 3) = false := beq_eq_false_iff_ne.2 q3
      clear q0 q2 q3
      go_wp2_with (first
       | (go_at_call 14; go_loud ((with_reducible refine (upd_L ⟨x.o.kind, x.o.space, x.o.name, vv, x.o.A, x.o.n, x.o.c⟩ x.bs (HSW.out.below HBC.out) HPI.out HG.out.2.2 HR2.out HE2.out HOKx.out.1 HOKx.out.2.1 HOKx.out.2.2.1 HOKx.out.2.2.2).mono ?_); rintro e wd ⟨xa, ya, Q', M', L', m', rfl, ho, hs⟩; have HO := Hj ho; have HS := Hj hs; clear ho hs))
       | fail)
      go_roundg (gk - 1)
      case measure => exact HG.out.1
      case rel => exact ⟨i + 1, Q', m', L', M', by go_num, HG.out.2.1, HO.out, HS.out⟩
  ·obtain rfl : i = n := by omega
   have HPI : Hid (LInv m L M 40) := Hj (hpi.mono HM.out.1)
   have HSW := Hj hsw
   clear hpi hsw hi hik
   have HF : Hid (M.Ok ∧ VN M.tab ∧ M.rev ≤ 1000 ∧ M.tab.length ≤ 90 ∧ M.evs.length ≤ 100000 ∧ M.rev = M.base + M.evs.length) := Hj (by
    obtain ⟨-, -, -, o4, o5, o6⟩ := HPI.out.facts Kj
    obtain ⟨T, hT, hI⟩ := HPI.out.pi
    exact ⟨hI.tells.ok, HPI.out.vn, by rw [hI.rev]; omega, o5, o6, hI.tells.ok.num⟩)
   obtain ⟨wa, rfl⟩ : ∃ W, W = wr := ⟨_, rfl⟩
   have hmm := @run_makeMap Tryz.prog
   go_wp2
   obtain ⟨w6, hw6⟩ : ∃ W, W = wa.alloc (.map #[] 0) := ⟨_, rfl⟩
   obtain ⟨Bm, hBm⟩ : ∃ B, B = wa.heap.size := ⟨_, rfl⟩
   have hb6 := (Below.refl wa.heap.size wa).alloc Kj (.map #[] 0)
   have hm6 := heap_alloc_new wa (.map #[] 0)
   rw [← hw6] at hb6 hm6
   rw [← hBm] at hm6
   rw [← hw6, ← hBm]
   have HB6 := Hj hb6
   have HIM0 : Hid (IM w6 Bm []) := Hj ⟨#[], 0, hm6, rfl⟩
   have HUm : Hid (wa.heap.size ≤ Bm) := Hj (Nat.le_of_eq hBm.symm)
   clear hw6 hBm hb6 hm6 hmm
   refine lists_loop (w2 := w2) (wa := wa) (M := M) _ _ rfl rfl rfl rfl HSW.out HF.out HPI.out.cnt HIM0.out HUm.out HB6.out ?_
   clear HIM0 HUm HB6 HPI
   intro fr1 wk hfr h1 h7 hbk
   have HBk := Hj hbk
   unfold IsS at hfr
   generalize slotS fr1 = f at *
   subst hfr
   unfold FS
   replace h1 : f 1 = .int .i64 after := h1
   rw [h1, h7]
   clear h1 h7 hbk
   have HStk := Hj (HSW.out.below HBk.out)
   have HFin : Hid (∀ W, Below wk.heap.size wk W → Below w.heap.size w W) := Hj fun W hW => B2.out.trans ((HSW.out.bel.trans ((HBk.out.trans (hW.mono HBk.out.size)).mono HSW.out.bel.size)).mono B2.out.size)
   by_cases hA : after < (M.base : Int)
   ·have HEv : Hid (Calls Tryz.prog 23 #[.pointer (some ⟨gs, 0, none⟩), .int .i64 after] wk fun e w' => ∃ E, e = .returned (.tuple #[.slice none 0 0, .iface 338 (.pointer (some (ea E)))]) ∧ Below wk.heap.size wk w') := Hj (by
     by_cases h0 : after < 0
     ·refine (Events_bad after HStk.out HR2.out (.inl h0)).mono ?_
      rintro e w' ⟨rfl, hb⟩
      exact ⟨1, by rw [dErr_form ea (by decide)], hb⟩
     ·refine (Events_stale after HStk.out HR2.out (by omega) (by have := HF.out.2.2.2.2.2; omega) hA).mono ?_
      rintro e w' ⟨rfl, hb⟩
      exact ⟨20, by rw [dErr_form ea (by decide)], hb⟩)
    have HBs2 : Hid (∀ W, Below wk.heap.size wk W → Calls Tryz.prog 24 #[.pointer (some ⟨gs, 0, none⟩)] W fun e w' => e = .returned (.int .i64 (M.base : Int)) ∧ W = w') := Hj fun W hW => Base_any (HStk.out.below hW)
    go_wp2_with (first
     | (go_at_call 23; go_loud ((with_reducible refine HEv.out.mono ?_); rintro e we ⟨E, rfl, hbe⟩; have HBe := Hj hbe; clear hbe))
     | (go_at_call 24; go_loud ((with_reducible refine (HBs2.out we HBe.out).mono ?_); rintro e w' ⟨rfl, rfl⟩))
     | fail)
    go_ret
    exact ⟨rfl, HFin.out _ HBe.out⟩
   ·by_cases hR : (M.rev : Int) < after
    ·have HEv : Hid (Calls Tryz.prog 23 #[.pointer (some ⟨gs, 0, none⟩), .int .i64 after] wk fun e w' => ∃ E, e = .returned (.tuple #[.slice none 0 0, .iface 338 (.pointer (some (ea E)))]) ∧ Below wk.heap.size wk w') := Hj (by
      refine (Events_bad after HStk.out HR2.out (.inr hR)).mono ?_
      rintro e w' ⟨rfl, hb⟩
      exact ⟨1, by rw [dErr_form ea (by decide)], hb⟩)
     have HBs2 : Hid (∀ W, Below wk.heap.size wk W → Calls Tryz.prog 24 #[.pointer (some ⟨gs, 0, none⟩)] W fun e w' => e = .returned (.int .i64 (M.base : Int)) ∧ W = w') := Hj fun W hW => Base_any (HStk.out.below hW)
     have HRv2 : Hid (∀ W, Below wk.heap.size wk W → Calls Tryz.prog 17 #[.pointer (some ⟨gs, 0, none⟩)] W fun e w' => e = .returned (.int .i64 (M.rev : Int)) ∧ W = w') := Hj fun W hW => Rev_any (HStk.out.below hW)
     go_wp2_with (first
      | (go_at_call 23; go_loud ((with_reducible refine HEv.out.mono ?_); rintro e we ⟨E, rfl, hbe⟩; have HBe := Hj hbe; clear hbe))
      | (go_at_call 24; go_loud ((with_reducible refine (HBs2.out we HBe.out).mono ?_); rintro e w' ⟨rfl, rfl⟩))
      | (go_at_call 17; go_loud ((with_reducible refine (HRv2.out we HBe.out).mono ?_); rintro e w' ⟨rfl, rfl⟩))
      | fail)
     go_ret
     exact ⟨rfl, HFin.out _ HBe.out⟩
    ·obtain ⟨a, ha⟩ : ∃ a : Nat, after = (a : Int) := ⟨after.toNat, by omega⟩
     subst ha
     have hbase : M.base ≤ a := by omega
     have hrev : a ≤ M.rev := by omega
     have hsum := HF.out.2.2.2.2.2
     have hr1000 := HF.out.2.2.1
     have HEv : Hid (Calls Tryz.prog 23 #[.pointer (some ⟨gs, 0, none⟩), .int .i64 (a : Int)] wk fun e w' => ∃ v zs, e = .returned (.tuple #[v, .nilIface]) ∧ EL w' wk.heap.size v zs ∧ zs.length = M.rev - a ∧ (∀ (i : Nat) (y : Bool × (OV × ObM)), zs[i]? = some y → (y.2.2.ver : Int) = (a : Int) + 1 + (i : Int) ∧ y.2.1.ver = (y.2.2.ver : Int)) ∧ Below wk.heap.size wk w') := Hj (by
      refine (Events_good (a : Int) HStk.out (by omega) (by omega) (by omega) HF.out.2.2.2.2.1 (by omega)).mono ?_
      rintro e w' ⟨v, zs, rfl, hel, hmap, hiso, hb⟩
      rw [show ((a : Int)).toNat = a from rfl] at hmap
      have hlen := congrArg List.length hmap
      rw [List.length_map, List.length_drop] at hlen
      refine ⟨v, zs, rfl, hel, by omega, fun i y hy => ?_, hb⟩
      have h1 : (zs.map fun y => (y.1, y.2.2))[i]? = some (y.1, y.2.2) := by rw [List.getElem?_map, hy]; rfl
      rw [hmap, List.getElem?_drop] at h1
      have h2 := (HF.out.1.evs _ _ h1).1
      have h3 := (hiso y (List.mem_iff_getElem?.2 ⟨i, hy⟩)).ver
      simp only at h2
      exact ⟨by omega, h3⟩)
     have HRv2 : Hid (∀ W, Below wk.heap.size wk W → Calls Tryz.prog 17 #[.pointer (some ⟨gs, 0, none⟩)] W fun e w' => e = .returned (.int .i64 (M.rev : Int)) ∧ W = w') := Hj fun W hW => Rev_any (HStk.out.below hW)
     obtain ⟨R, hRe⟩ : ∃ R, R = M.rev := ⟨_, rfl⟩
     rw [← hRe] at HEv HRv2 hrev hr1000
     have hw1 : wrap64 ((a : Int) + 1) = (a : Int) + 1 := by unfold wrap64; omega
     have hw1' : IntKind.i64.wrap ((a : Int) + 1) = (a : Int) + 1 := IntWalk.i64_in _ (by omega)
     have hw2 : wrap64 ((R : Int) - (a : Int)) = (R : Int) - (a : Int) := by unfold wrap64; omega
     have hw2' : IntKind.i64.wrap ((R : Int) - (a : Int)) = (R : Int) - (a : Int) := IntWalk.i64_in _ (by omega)
     have HW := Hj (And.intro hrev hr1000)
     clear hA hR hbase hrev hsum hr1000 hRe
     go_wp2_with (first
      | (go_at_call 23; go_loud ((with_reducible refine HEv.out.mono ?_); rintro e we ⟨ve, zs, rfl, hel, hzl, hzs, hbe⟩; obtain ⟨Az, cz, rfl, hcz1, hcz2⟩ := OwnS.form hel; obtain ⟨nz, hnz⟩ : ∃ nz, nz = zs.length := ⟨_, rfl⟩; have HEz : Hid (Value.slice Az zs.length cz = Value.slice Az nz cz) := Hj (by rw [hnz]); rw [HEz.out]; have HBe := Hj hbe; have HEL := Hj hel; have HZ := Hj hzs; have HNz : Hid (nz = zs.length ∧ nz = R - a) := Hj ⟨hnz, hnz.trans hzl⟩; rw [← hnz] at hcz1; clear hbe hel hzs hzl hnz))
      | fail)
     go_loopg [183] nz (fun gi s183 wi => ∃ i : Nat, s183 = .int .i64 (i : Int) ∧ i + gi = nz ∧ Below we.heap.size we wi)
     case atStart => exact ⟨0, rfl, by omega, Below.refl _ _⟩
     case round =>
      obtain ⟨i, rfl, hin, hbi⟩ := hrel
      obtain ⟨wi, rfl⟩ : ∃ W, W = wr := ⟨_, rfl⟩
      obtain ⟨gi, rfl⟩ : ∃ x, x = gk := ⟨_, rfl⟩
      have HBi := Hj hbi
      by_cases hi : i < nz
      ·obtain ⟨y, hy⟩ : ∃ y, zs[i]? = some y := ⟨_, List.getElem?_eq_getElem (by rw [← HNz.out.1]; exact hi)⟩
       obtain ⟨z1, z2⟩ := HZ.out i y hy
       obtain ⟨lg, lo, rfl, k0, k1, k2, k3, k4, k5, k6⟩ := evs_cells HEL.out hy
       replace k0 := Kz hbi _ _ k0
       replace k1 := Kz hbi _ _ k1
       replace k2 := Kz hbi _ _ k2
       replace k3 := Kz hbi _ _ k3
       replace k4 := Kz hbi _ _ k4
       replace k5 := Kz hbi _ _ k5
       replace k6 := Kz hbi _ _ k6
       rw [z2] at k5
       rw [z1] at k0 k5
       obtain ⟨i0, i1, hwi, hw3, hw3', hi1, hi2⟩ := ev_ints hi HNz.out.2 HW.out hin
       have HI : Hid (gi - 1 < gi ∧ i + 1 + (gi - 1) = nz) := Hj ⟨hi1, hi2⟩
       clear hbi hy z1 z2 hin hi hi1 hi2
       go_wp2
       go_roundg (gi - 1)
       case measure => exact HI.out.1
       case rel => exact ⟨i + 1, by go_num, HI.out.2, HBi.out.alloc HBi.out.size _⟩
      ·obtain rfl : i = nz := ev_end hi hin
       have hfin := ev_fin HNz.out.2 HW.out
       clear hbi hi hin
       go_wp2_with (first
        | (go_at_call 17; go_loud ((with_reducible refine (HRv2.out wi (HBe.out.trans (HBi.out.mono HBe.out.size))).mono ?_); rintro e w' ⟨rfl, rfl⟩))
        | fail)
       go_ret
       exact ⟨rfl, HFin.out _ (HBe.out.trans (HBi.out.mono HBe.out.size))⟩
end Go.Proofs.YtfmagnpmjlppiaaGreatDoor

/- StoreLists: its contract over whatever can be read. -/
namespace Go.Proofs.YtfmagnpmjlppiaaGreatDoor
open Go.RowKit Go.ChangeShapes Go.WideShapes Go.ChangeAt Go.Deep

set_option maxRecDepth 100000 in
theorem storeLists_contract {H : Type} {enc : TypeId × Value → H} {W : World} {base : Nat} {args : Array Value} {ds : List (DataW H)} {p : List MemPlace}
  (hval : ∀ (j : Nat) t v, Tryz.f4.params[j]? = some t → args[j]? = some v → Value.okWide Tryz.prog W .any base t v)
  (hA : DataW.TrodAll enc Tryz.prog W 0 (fun _ => true) true Tryz.f4.params.toList args.toList ds p) (hL : laidMetH Tryz.prog Rows.storeListsRow.laid W) :
  Calls Tryz.prog 4 args W fun e w' => e = .returned (.bool true) ∧ Below W.heap.size W w' := by
 rw [Tryz.params4] at hA hval
 obtain ⟨v0, v1, d0, d1, p0, p1, rfl, rfl, rfl, ⟨f0, h0⟩, ⟨f1, h1⟩⟩ := trodAll_two hA
 obtain ⟨a0, n0, c0, rfl⟩ := okWide_slice Tryz.underlying22 (hval 0 _ v0 rfl rfl)
 obtain ⟨after, rfl⟩ := okWide_int Tryz.underlying3 (hval 1 _ v1 rfl rfl)
 obtain ⟨B, m, d, l, e', ha, hc', hm'⟩ := open_acts20 h0
 obtain ⟨ea, he⟩ := Errs.of_laid hL (by kernel_rfl) (by kernel_rfl)
 have hs := ShaTabs.of_laid hL (by kernel_rfl) (by simp [Rows.storeListsRow]) (by simp [Rows.storeListsRow])
 rw [e']
 exact StoreLists_any B m d l after W ha (Kv hc' hm') (EW.of_errs he hs) he
end Go.Proofs.YtfmagnpmjlppiaaGreatDoor
