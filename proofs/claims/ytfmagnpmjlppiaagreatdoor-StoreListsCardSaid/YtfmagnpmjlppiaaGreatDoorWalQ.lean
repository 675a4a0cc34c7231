/- Layer 18 (wal): load. -/
import Derived.Test.YtfmagnpmjlppiaaGreatDoorWalG
import Derived.Deep.LoopGhost
namespace Go.Proofs.YtfmagnpmjlppiaaGreatDoor
open Go.RowKit

section
variable {w w1 w' w0 : World} {S P : Nat → Prop} {gl g : Nat} {m : DM} {L L' : LM} {ea : Nat → Addr} {tv rv : Value} {ws : List (List UInt8 × Value)}
/-- Memory made first, then the log. -/
theorem DW.useB (h : DW w0 w S g m gl L) (hb1 : Below w.heap.size w w1) : ∃ P tv rv ws, LogV w1 P gl g L tv rv ws ∧ (∀ k, P k → S k) ∧ ∀ w' L', LogAt w' (ext P w w') gl g L' → Fr P w1 w' → DW w0 w' (ext S w w') g m gl L' ∧ Fr S w w' := by
 obtain ⟨⟨O, P, ⟨bv, wv, xs, h1⟩, ⟨tv, rv, ws, h2⟩, h3, h4, h5⟩, hu, hh, hb⟩ := h
 refine ⟨P, tv, rv, ws, h2.below hb1, h4, fun w' L' k1 k2 => ?_⟩
 have hF : Fr S w w' := (Fr.of_below (S := S) hb1).trans k2 fun k _ hk => h4 k hk
 have hsz := hF.size
 refine ⟨⟨⟨O, ext P w w', ⟨bv, wv, xs, (h1.below hb1).frW k2 h5⟩, k1, fun k hk => .inl (h3 k hk), fun k hk => hk.imp (h4 k) id, fun k hk hp => ?_⟩, ext_up0 hu hb.size, ext_hi hh hsz, hb.trans (hF.below hb.size fun k _ hk => hu k hk)⟩, hF⟩
 rcases hp with hp | hp
 ·exact h5 k hk hp
 ·have := hh k (h3 k hk); omega
theorem Read_W (a : Nat) (ha : a < 3) (h : DW w0 w S g m gl L) (hok : m.Ok) (hg : m.gone = false) : Calls Tryz.prog 115 #[.pointer (some ⟨g, 0, none⟩), .int .i64 (a : Int)] w fun e w' => ∃ A c, e = .returned (.tuple #[.slice A (m.b (3 + a)).length c, .nilIface]) ∧ (m.b (3 + a)).length ≤ c ∧ c ≤ maxLen ∧ OB w' w.heap.size (.slice A (m.b (3 + a)).length c) (m.b (3 + a)) ∧ Below w.heap.size w w' := by
 obtain ⟨O, ⟨bv, wv, xs, h1⟩, _⟩ := h.disk
 refine (Read_in a ha h1 hg (hok.len (3 + a) (by omega))).mono ?_
 rintro e w' ⟨v, rfl, hv, hb⟩
 obtain ⟨A, c, rfl, h1, h2, _⟩ := hv.form
 exact ⟨A, c, rfl, h1, h2, hv, hb⟩
theorem OB.rbl {w : World} {b n : Nat} {A : Option Addr} {c : Nat} {l : List UInt8} (h : OB w b (.slice A n c) l) : RB w A n l := by
 obtain ⟨A', c', e, _, _, hr⟩ := h.form
 injection e with e1 e2 e3
 subst e1
 rw [e2]
 exact hr

/-- What a slot's bytes do to what is known. -/
def stepP (L : LM) (i : Nat) (b : List UInt8) : LM :=
 match goodB b with
 | some (g, t) => if L.gen < g then ⟨g, i, t, [], false⟩ else L
 | none => L
theorem stepP_none {L : LM} {i : Nat} {b : List UInt8} (h : goodB b = none) : stepP L i b = L := by unfold stepP; rw [h]
theorem stepP_old {L : LM} {i g : Nat} {b t : List UInt8} (h : goodB b = some (g, t)) (hg : ¬ L.gen < g) : stepP L i b = L := by unfold stepP; rw [h]; simp only; rw [if_neg hg]
theorem stepP_new {L : LM} {i g : Nat} {b t : List UInt8} (h : goodB b = some (g, t)) (hg : L.gen < g) : stepP L i b = ⟨g, i, t, [], false⟩ := by unfold stepP; rw [h]; simp only; rw [if_pos hg]
/-- Behind so many slots. -/
def pickN (m : DM) : Nat → LM
 | 0 => ⟨0, 1, [], [], false⟩
 | i + 1 => stepP (pickN m i) i (m.b (3 + i))
theorem stepP_rest (L : LM) (i : Nat) (b : List UInt8) (hr : L.recs = []) (hd : L.dead = false) : (stepP L i b).recs = [] ∧ (stepP L i b).dead = false := by
 unfold stepP
 split
 ·split
  ·exact ⟨rfl, rfl⟩
  ·exact ⟨hr, hd⟩
 ·exact ⟨hr, hd⟩
theorem pickN_rest (m : DM) : ∀ i, (pickN m i).recs = [] ∧ (pickN m i).dead = false
 | 0 => ⟨rfl, rfl⟩
 | i + 1 => stepP_rest _ _ _ (pickN_rest m i).1 (pickN_rest m i).2
theorem pickN_gen (m : DM) : ∀ i, (pickN m i).gen ≤ 2147483647
 | 0 => by show 0 ≤ _; omega
 | i + 1 => by
  show (stepP (pickN m i) i (m.b (3 + i))).gen ≤ _
  unfold stepP
  split
  ·rename_i g t hg
   split
   ·exact (goodB_some hg).2.1
   ·exact pickN_gen m i
  ·exact pickN_gen m i
theorem pickN_two (m : DM) : pickB (m.b 3) (m.b 4) = ((pickN m 2).gen, (pickN m 2).slot, (pickN m 2).text) := by
 show _ = ((stepP (stepP ⟨0, 1, [], [], false⟩ 0 (m.b 3)) 1 (m.b 4)).gen, _, _)
 unfold pickB pickN pickN pickN
 cases h0 : goodB (m.b 3) with
 | none =>
  rw [stepP_none h0]
  cases h1 : goodB (m.b 4) with
  | none => rw [stepP_none h1]
  | some y =>
   obtain ⟨g, t⟩ := y
   have hg : 0 < g := (goodB_some h1).1
   rw [stepP_new h1 hg]
   simp only
   rw [if_pos hg]
 | some x =>
  obtain ⟨g, t⟩ := x
  have hg : 0 < g := (goodB_some h0).1
  rw [stepP_new h0 hg]
  cases h1 : goodB (m.b 4) with
  | none => rw [stepP_none h1]
  | some y =>
   obtain ⟨g', t'⟩ := y
   simp only
   by_cases hgg : g < g'
   ·rw [stepP_new h1 hgg, if_pos hgg]
   ·rw [stepP_old h1 hgg, if_neg hgg]

/-- The log with another snapshot. -/
theorem LogV.snap {v : Value} {text : List UInt8} {w3 : World} (h : LogV w3 P gl g L tv rv ws) (G s : Nat) (ho : OB w3 w.heap.size v text) (hlt : ∀ k, v.ownBlock = some k → k < w3.heap.size) :
  LogAt (((w3.setCell ⟨gl, 1, none⟩ (.int .i64 (G : Int))).setCell ⟨gl, 2, none⟩ (.int .i64 (s : Int))).setCell ⟨gl, 3, none⟩ v) (ext P w (((w3.setCell ⟨gl, 1, none⟩ (.int .i64 (G : Int))).setCell ⟨gl, 2, none⟩ (.int .i64 (s : Int))).setCell ⟨gl, 3, none⟩ v)) gl g ⟨G, s, text, L.recs, L.dead⟩ ∧
   Fr P w3 (((w3.setCell ⟨gl, 1, none⟩ (.int .i64 (G : Int))).setCell ⟨gl, 2, none⟩ (.int .i64 (s : Int))).setCell ⟨gl, 3, none⟩ v) := by
 have hF : Fr (fun k => k = gl) w3 (((w3.setCell ⟨gl, 1, none⟩ (.int .i64 (G : Int))).setCell ⟨gl, 2, none⟩ (.int .i64 (s : Int))).setCell ⟨gl, 3, none⟩ v) :=
  (((Fr.refl (fun k => k = gl) w3).setCell (p := ⟨gl, 1, none⟩) (fun _ => rfl) _).setCell (p := ⟨gl, 2, none⟩) (fun _ => rfl) _).setCell (p := ⟨gl, 3, none⟩) (fun _ => rfl) _
 refine ⟨⟨v, rv, ws, ?_, (OwnS.kept ho hF fun k hk e => ?_).mono fun _ _ => Nat.zero_le _, OwnS.kept h.recs hF fun k hk e => h.rne (by rw [← e]; exact hk), h.eq, fun x hx => OwnS.kept (h.each x hx) hF fun k hk e => h.xne hx (by rw [← e]; exact hk), .inl h.ownG, fun k hk => .inr ⟨(OB.lt ho k hk).1, Nat.lt_of_lt_of_le (hlt k hk) hF.size⟩, fun k hk => .inl (h.ownR k hk), fun x hx k hk => .inl (h.ownX x hx k hk)⟩, hF.mono fun k _ e => by subst e; exact h.ownG⟩
 ·exact heap_setCell_same _ _ _ _ _ _ (heap_setCell_same _ _ _ _ _ _ (heap_setCell_same _ _ _ _ _ _ h.cells))
 ·subst e
  obtain ⟨cur, hc⟩ := own_type ho hk
  exact absurd (types_ne hc h.cells) (by decide)
end
end Go.Proofs.YtfmagnpmjlppiaaGreatDoor

/- Layer 18 (wal): load. -/
namespace Go.Proofs.YtfmagnpmjlppiaaGreatDoor
open Go.RowKit

/-- b[E:], whatever the room. -/
theorem run_tail {w : World} {A : Option Addr} {n c E : Nat} {l : List UInt8} (hb : RB w A n l) (hnc : n ≤ c) (hE : E ≤ n) :
  ∃ AE, (∀ W, (Instr.slice 24 (.slice A n c) (some (.int .i64 (E : Int))) none none).run Tryz.prog W = .ok (.slice AE (n - E) (c - E)) W) ∧ RB w AE (n - E) (l.drop E) := by
 have ht' : Tryz.prog.underlying 24 = some (.slice (Tryz.prog.elem 24)) := by simp [Program.elem, Tryz.underlying24]
 have he : Tryz.prog.elem 24 = 5 := by simp [Program.elem, Tryz.underlying24]
 have hz : ∀ w, (Go.sizeOf 5).run Tryz.prog w = .ok 1 w := fun w => by
  obtain ⟨i0, hi, hz0, hz1, hz2⟩ := info_parts info_u8
  simp [sizeOf, typeInfo, hi, hz1]
 have hl := hb.1
 refine ⟨if c = E then A else A.map (·.add E), fun W => ?_, ?_⟩
 ·rw [run_slice_l W 24 _ _ _ ht' .i64 _ (by omega) (by omega), he, hz]
  simp [Result.andThen, sliced]
 ·refine ⟨by rw [List.length_drop]; omega, fun h0 => ?_⟩
  obtain ⟨b, o, rfl, _⟩ := hb.2 (by omega)
  have hs := hb.subW E (n - E) (by omega)
  rw [show (l.drop E).take (n - E) = l.drop E from List.take_of_length_le (by rw [List.length_drop]; omega)] at hs
  rw [if_neg (by omega)]
  obtain ⟨b', o', e, hc⟩ := hs.2 h0
  refine ⟨b', o', ?_, hc⟩
  rw [← e]
  simp [addr_add]

section
variable {w w1 w' w0 : World} {S P : Nat → Prop} {gl g : Nat} {m : DM} {L L' : LM} {ea : Nat → Addr} {tv rv : Value} {ws : List (List UInt8 × Value)}
set_option maxHeartbeats 4000000 in
set_option maxRecDepth 100000 in
theorem load_any (h : DW w0 w S g m gl ⟨0, 0, [], [], false⟩) (hE : EW w0 ea) (hok : m.Ok) (hg : m.gone = false) :
  Calls Tryz.prog 70 #[.pointer (some ⟨gl, 0, none⟩)] w fun e w' => e = .returned .nilIface ∧ ∃ L, Reads (fun i => m.b (3 + i)) L ∧ L.dead = false ∧ DW w0 w' (ext S w w') g m gl L ∧ Fr S w w' := by
 have HE := Hj hE
 have HOK := Hj hok
 have HG := Hj hg
 have HD := Hj h
 have c2 : w.cell? ⟨gl, 2, none⟩ = some (.int .i64 0) := h.at.2.2.1
 have f2 := h.fz 2
 have HS0 : Hid (DW w0 (w.setCell ⟨gl, 2, none⟩ (.int .i64 1)) (ext S w (w.setCell ⟨gl, 2, none⟩ (.int .i64 1))) g m gl (pickN m 0) ∧ Fr S w (w.setCell ⟨gl, 2, none⟩ (.int .i64 1))) := Hj (by
  obtain ⟨P, tv, rv, ws, hV, hPS, hU⟩ := h.useL
  have hF : Fr (fun k => k = gl) w (w.setCell ⟨gl, 2, none⟩ (.int .i64 1)) := (Fr.refl (fun k => k = gl) w).setCell (p := ⟨gl, 2, none⟩) (fun _ => rfl) _
  exact hU _ _ ⟨_, _, _, (hV.turn (L' := pickN m 0) hF (heap_setCell_same _ _ _ _ _ _ hV.cells) rfl rfl).mono fun _ _ hk => Or.inl hk⟩ (hF.mono fun k _ e => by subst e; exact hV.ownG))
 clear h hE hok hg
 go_enter Tryz.func70, Tryz.ntmps70
 go_wp2
 go_loopg [16] 2 (fun gk s16 wr => ∃ (i : Nat), s16 = .int .i64 (i : Int) ∧ i + gk = 2 ∧ DW w0 wr (ext S w wr) g m gl (pickN m i) ∧ Fr S w wr)
 case atStart => exact ⟨0, rfl, rfl, HS0.out.1, HS0.out.2⟩
 case round =>
  obtain ⟨i, rfl, hik, hD, hF⟩ := hrel
  have D := Hj hD
  have F := Hj hF
  clear hD hF
  by_cases hi : i < 2
  ·obtain ⟨l, hl⟩ : ∃ l, l = m.b (3 + i) := ⟨_, rfl⟩
   have hlen := HOK.out.len (3 + i) (by omega)
   rw [← hl] at hlen
   have i0 : (0 : Int) ≤ (i : Int) := by omega
   have i1 : (i : Int) < 2 := by omega
   have c0 := D.out.at.1
   have HRd : Hid (Calls Tryz.prog 115 #[.pointer (some ⟨g, 0, none⟩), .int .i64 (i : Int)] wr fun e w' => ∃ A c, e = .returned (.tuple #[.slice A l.length c, .nilIface]) ∧ l.length ≤ c ∧ c ≤ maxLen ∧ OB w' wr.heap.size (.slice A l.length c) l ∧ Below wr.heap.size wr w') := Hj (by rw [hl]; exact Read_W i (by omega) D.out HOK.out HG.out)
   have HGo : Hid (∀ W A c, Below wr.heap.size wr W → RB W A l.length l → l.length ≤ c → Calls Tryz.prog 116 #[.int .i64 (i : Int), .slice A l.length c] W fun e w' => ∃ (gv sv : Int) (A' : Option Addr) (n' c' : Nat) (ok : Bool), e = .returned (.tuple #[.agg #[.int .i64 gv, .int .i64 sv, .slice A' n' c'], .bool ok]) ∧ Below W.heap.size W w' ∧
     (∀ g t, goodB l = some (g, t) → ok = true ∧ gv = (g : Int) ∧ sv = (i : Int) ∧ OB w' W.heap.size (.slice A' n' c') t) ∧ (goodB l = none → ok = false)) := Hj fun W A c hW hr hc => good_any (i : Int) A _ c l W hr hc (by omega) (HE.out.sha.keep (Kz (D.out.bel.trans (hW.mono D.out.bel.size))))
   have HST : Hid (pickN m (i + 1) = stepP (pickN m i) i l) := Hj (by rw [hl]; rfl)
   have HSI : Hid (i < 2) := Hj hi
   clear hl hlen
   cases hgd : goodB l with
   | none =>
    have HGN := Hj hgd
    clear hgd
    go_wp2_with (first
     | (go_at_call 115; go_loud ((with_reducible refine HRd.out.mono ?_); rintro e w1 ⟨A1, c1, rfl, hlc, hcm, ho1, hb1⟩; have B1 := Hj hb1; have O1 := Hj ho1; have HLC := Hj (And.intro hlc hcm); clear hb1 ho1 hlc hcm))
     | (go_at_call 116; go_loud ((with_reducible refine (HGo.out w1 A1 c1 B1.out O1.out.rbl HLC.out.1).mono ?_); rintro e w2 ⟨gv, sv, A2, n2, c2, ok, rfl, hb2, h21, h22⟩; have B2 : Hid (Below wr.heap.size wr w2) := Hj (B1.out.trans (hb2.mono B1.out.size)); have hok2 := h22 HGN.out; subst hok2; clear hb2 h21 h22))
     | fail)
    refine wp_region_quiet_lit (by kernel_rfl) (by kernel_rfl) ?_
    repeat (any_goals (first | go_big_quiet_step (fail) | quiet_step (fail)))
    refine wpQuiet_nil ?_
    intro _ hw'
    obtain ⟨nq, hw''⟩ := hw'
    subst hw''
    go_wp2
    go_roundg (gk - 1)
    case measure => omega
    case rel =>
     have BX : Below wr.heap.size wr ((w2.alloc (.cells #[.int .i64 gv, .int .i64 sv, .slice A2 n2 c2] 130)).drewN nq) := below_drewN (B2.out.alloc B2.out.size _) _
     refine ⟨i + 1, by go_num, by omega, ?_⟩
     rw [HST.out, stepP_none HGN.out]
     exact DW.then F.out (DW.behind D.out.bel.size BX (D.out.below BX).same)
   | some x =>
    obtain ⟨g', t'⟩ := x
    have HGN := Hj hgd
    clear hgd
    have cg := D.out.at.2.1
    obtain ⟨G0, hG0⟩ : ∃ G, G = (pickN m i).gen := ⟨_, rfl⟩
    rw [← hG0] at cg
    by_cases hgg : G0 < g'
    ·have q1 : decide ((g' : Int) > (G0 : Int)) = true := decide_eq_true (by omega)
     have q1' : decide ((G0 : Int) < (g' : Int)) = true := decide_eq_true (by omega)
     have qn : decide (G0 < g') = true := decide_eq_true hgg
     have HGG : Hid ((pickN m i).gen < g') := Hj (by rw [← hG0]; exact hgg)
     clear hgg hG0
     go_wp2_with (first
      | (go_at_call 115; go_loud ((with_reducible refine HRd.out.mono ?_); rintro e w1 ⟨A1, c1, rfl, hlc, hcm, ho1, hb1⟩; have B1 := Hj hb1; have O1 := Hj ho1; have HLC := Hj (And.intro hlc hcm); clear hb1 ho1 hlc hcm))
      | (go_at_call 116; go_loud ((with_reducible refine (HGo.out w1 A1 c1 B1.out O1.out.rbl HLC.out.1).mono ?_); rintro e w2 ⟨gv, sv, A2, n2, c2, ok, rfl, hb2, h21, h22⟩; have B2 : Hid (Below wr.heap.size wr w2) := Hj (B1.out.trans (hb2.mono B1.out.size)); obtain ⟨rfl, rfl, rfl, ho2⟩ := h21 _ _ HGN.out; have O2 := Hj ho2; clear ho2; clear hb2 h21 h22))
      | fail)
     have kc : ∀ o, (w2.alloc o).cell? ⟨gl, 1, none⟩ = some (.int .i64 (G0 : Int)) := fun o => Kz (B2.out.alloc B2.out.size o) _ _ cg
     refine wp_region_quiet_lit (by kernel_rfl) (by kernel_rfl) ?_
     repeat (any_goals (first | go_big_quiet_step (fail) | quiet_step (fail)))
     refine wpQuiet_nil ?_
     intro _ hw'
     obtain ⟨nq, hw''⟩ := hw'
     subst hw''
     have BX : Below wr.heap.size wr ((w2.alloc (.cells #[.int .i64 (g' : Int), .int .i64 (i : Int), .slice A2 n2 c2] 130)).drewN nq) := below_drewN (B2.out.alloc B2.out.size _) _
     obtain ⟨P, tv, rv, ws, hV, hPS, hU⟩ := D.out.useB BX
     have HV := Hj hV
     have HU := Hj hU
     have OX : OB ((w2.alloc (.cells #[.int .i64 (g' : Int), .int .i64 (i : Int), .slice A2 n2 c2] 130)).drewN nq) wr.heap.size (.slice A2 n2 c2) t' := (O2.out.mono B1.out.size).alloc _
     have HOX := Hj OX
     have p1 : (w2.alloc (.cells #[.int .i64 (g' : Int), .int .i64 (i : Int), .slice A2 n2 c2] 130)).cell? ⟨gl, 1, none⟩ = some (.int .i64 ((pickN m i).gen : Int)) := hV.cell 1
     have p2 : (w2.alloc (.cells #[.int .i64 (g' : Int), .int .i64 (i : Int), .slice A2 n2 c2] 130)).cell? ⟨gl, 2, none⟩ = some (.int .i64 ((pickN m i).slot : Int)) := hV.cell 2
     have p3 : (w2.alloc (.cells #[.int .i64 (g' : Int), .int .i64 (i : Int), .slice A2 n2 c2] 130)).cell? ⟨gl, 3, none⟩ = some tv := hV.cell 3
     have r1 : (w2.alloc (.cells #[.int .i64 (g' : Int), .int .i64 (i : Int), .slice A2 n2 c2] 130)).frozen? ⟨gl, 1, none⟩ = false := hV.free 1
     have r2 : (w2.alloc (.cells #[.int .i64 (g' : Int), .int .i64 (i : Int), .slice A2 n2 c2] 130)).frozen? ⟨gl, 2, none⟩ = false := hV.free 2
     have r3 : (w2.alloc (.cells #[.int .i64 (g' : Int), .int .i64 (i : Int), .slice A2 n2 c2] 130)).frozen? ⟨gl, 3, none⟩ = false := hV.free 3
     clear hV hPS hU OX BX
     go_wp2
     go_roundg (gk - 1)
     case measure => omega
     case rel =>
      refine ⟨i + 1, by go_num, by omega, ?_⟩
      have Y := HV.out.snap (w := wr) g' i HOX.out (fun k hk => (OB.lt HOX.out k hk).2)
      have Z := HU.out _ _ Y.1 Y.2
      rw [(pickN_rest m i).1, (pickN_rest m i).2] at Z
      rw [HST.out, stepP_new HGN.out HGG.out]
      exact DW.then F.out Z
    ·have q1 : decide ((g' : Int) > (G0 : Int)) = false := decide_eq_false (by omega)
     have q1' : decide ((G0 : Int) < (g' : Int)) = false := decide_eq_false (by omega)
     have qn : decide (G0 < g') = false := decide_eq_false hgg
     have HGG : Hid (¬ (pickN m i).gen < g') := Hj (by rw [← hG0]; exact hgg)
     clear hgg hG0
     go_wp2_with (first
      | (go_at_call 115; go_loud ((with_reducible refine HRd.out.mono ?_); rintro e w1 ⟨A1, c1, rfl, hlc, hcm, ho1, hb1⟩; have B1 := Hj hb1; have O1 := Hj ho1; have HLC := Hj (And.intro hlc hcm); clear hb1 ho1 hlc hcm))
      | (go_at_call 116; go_loud ((with_reducible refine (HGo.out w1 A1 c1 B1.out O1.out.rbl HLC.out.1).mono ?_); rintro e w2 ⟨gv, sv, A2, n2, c2, ok, rfl, hb2, h21, h22⟩; have B2 : Hid (Below wr.heap.size wr w2) := Hj (B1.out.trans (hb2.mono B1.out.size)); obtain ⟨rfl, rfl, rfl, ho2⟩ := h21 _ _ HGN.out; have O2 := Hj ho2; clear ho2; clear hb2 h21 h22))
      | fail)
     have kc : ∀ o, (w2.alloc o).cell? ⟨gl, 1, none⟩ = some (.int .i64 (G0 : Int)) := fun o => Kz (B2.out.alloc B2.out.size o) _ _ cg
     refine wp_region_quiet_lit (by kernel_rfl) (by kernel_rfl) ?_
     repeat (any_goals (first | go_big_quiet_step (fail) | quiet_step (fail)))
     refine wpQuiet_nil ?_
     intro _ hw'
     obtain ⟨nq, hw''⟩ := hw'
     subst hw''
     go_wp2
     go_roundg (gk - 1)
     case measure => omega
     case rel =>
      have BX : Below wr.heap.size wr ((w2.alloc (.cells #[.int .i64 (g' : Int), .int .i64 (i : Int), .slice A2 n2 c2] 130)).drewN nq) := below_drewN (B2.out.alloc B2.out.size _) _
      refine ⟨i + 1, by go_num, by omega, ?_⟩
      rw [HST.out, stepP_old HGN.out HGG.out]
      exact DW.then F.out (DW.behind D.out.bel.size BX (D.out.below BX).same)
  ·obtain rfl : i = 2 := by omega
   have HPK := Hj (pickN_two m)
   obtain ⟨G, hG⟩ : ∃ G, G = (pickN m 2).gen := ⟨_, rfl⟩
   obtain ⟨sl, hsl⟩ : ∃ G, G = (pickN m 2).slot := ⟨_, rfl⟩
   obtain ⟨tx, htx⟩ : ∃ G, G = (pickN m 2).text := ⟨_, rfl⟩
   have hGle := pickN_gen m 2
   have hL2 : pickN m 2 = ⟨G, sl, tx, [], false⟩ := by rw [hG, hsl, htx]; cases hp : pickN m 2; have h1 := (pickN_rest m 2).1; have h2 := (pickN_rest m 2).2; rw [hp] at h1 h2; simp only at h1 h2; rw [h1, h2]
   rw [← hG, ← hsl, ← htx] at HPK
   rw [← hG] at hGle
   rw [hL2] at D
   clear hG hsl htx hL2
   obtain ⟨l, hl⟩ : ∃ l, l = m.b 5 := ⟨_, rfl⟩
   have hlen := HOK.out.len 5 (by omega)
   rw [← hl] at hlen
   have HLE := Hj hl
   have c0 := D.out.at.1
   have HRd : Hid (Calls Tryz.prog 115 #[.pointer (some ⟨g, 0, none⟩), .int .i64 2] wr fun e w' => ∃ A c, e = .returned (.tuple #[.slice A l.length c, .nilIface]) ∧ l.length ≤ c ∧ c ≤ maxLen ∧ OB w' wr.heap.size (.slice A l.length c) l ∧ Below wr.heap.size wr w') := Hj (by rw [hl]; exact Read_W 2 (by omega) D.out HOK.out HG.out)
   clear hl hik
   go_wp2_with (first
    | (go_at_call 115; go_loud ((with_reducible refine HRd.out.mono ?_); rintro e wb ⟨A1, c1, rfl, hlc, hcm, ho1, hb1⟩; have B1 := Hj hb1; have O1 := Hj ho1; have HLC := Hj (And.intro hlc hcm); clear hb1 ho1 hlc hcm))
    | fail)
   have hup := Hj D.out.hi
   have DB := Hj (D.out.below B1.out)
   obtain ⟨S2, hS2⟩ : ∃ S2, S2 = ext S w wr := ⟨_, rfl⟩
   have HS2 := Hj hS2
   rw [← hS2] at DB hup
   have OF : Hid (Off S2 A1) := Hj fun p e hs => by
    subst e
    have := (OB.lt O1.out p.block (by rfl)).1
    have := hup.out _ hs
    omega
   have RB1 := Hj O1.out.rbl
   clear hS2
   go_loopg [10] l.length (fun gk s10 w3 => ∃ (rs : List (List UInt8)) (r : List UInt8), r.length = gk ∧ l = recsB G 0 rs ++ r ∧ Shorts rs ∧ DW w0 w3 (ext S2 wb w3) g m gl ⟨G, sl, tx, rs, false⟩ ∧ Fr S2 wb w3)
   case atStart => exact ⟨[], l, rfl, rfl, fun x hx => (by cases hx), DB.out.same.1, DB.out.same.2⟩
   case round =>
    obtain ⟨rs, r, hrl, hrec, hsh, hD3, hF3⟩ := hrel
    have D3 := Hj hD3
    have F3 := Hj hF3
    have hle : l.length = endOf rs + r.length := by rw [hrec, List.length_append, recsB_length]
    have hge := endOf_ge rs
    have HREC := Hj hrec
    have HSH := Hj hsh
    clear hD3 hF3 hrec hsh
    obtain ⟨E, hE⟩ : ∃ E, E = endOf rs := ⟨_, rfl⟩
    obtain ⟨P, tv, rv, ws, hV, hPS, hU⟩ := D3.out.useL
    have HV := Hj hV
    have HU := Hj hU
    obtain ⟨AV, cV, eV, _, _⟩ := hV.recs.form
    subst eV
    have hwn : ws.length = rs.length := hV.num
    have k1 : wr.cell? ⟨gl, 1, none⟩ = some (.int .i64 (G : Int)) := hV.cell 1
    have k4 : wr.cell? ⟨gl, 4, none⟩ = some (.slice AV ws.length cV) := hV.cell 4
    have k5 : wr.cell? ⟨gl, 5, none⟩ = some (.int .i64 (E : Int)) := by rw [hE]; exact hV.cell 5
    have R3 := Hj (RB1.out.fr F3.out OF.out)
    have HWN := Hj hwn
    have HEE := Hj hE
    rw [← hE] at hle hge
    clear hV hPS hU hwn hE
    have e0 : (0 : Int) ≤ (E : Int) := by omega
    have e1 : (E : Int) ≤ (l.length : Int) := by omega
    have e2 : (l.length : Int) ≤ (c1 : Int) := by have := HLC.out.1; omega
    have e3 : (E : Int) ≤ (c1 : Int) := by omega
    have HNx : Hid (∀ W A k, Below wr.heap.size wr W → RB W A r.length r → r.length ≤ k → k ≤ maxLen → Calls Tryz.prog 117 #[.slice A r.length k, .int .i64 (G : Int), .int .i64 (ws.length : Int)] W fun e w' => ∃ v ok, e = .returned (.tuple #[v, .bool ok]) ∧ Below W.heap.size W w' ∧ (∀ t, nextB r G rs.length = some t → ok = true ∧ ∃ A' c', v = .slice A' t.length c' ∧ t.length ≤ c' ∧ c' ≤ maxLen ∧ RB W A' t.length t) ∧ (nextB r G rs.length = none → ok = false)) := Hj fun W A k hW hr hrk hk => by
     rw [HWN.out]
     exact next_any G rs.length A r.length k r W hr hrk hk (by omega) (by omega) (by omega) (HE.out.sha.keep (Kz (D3.out.bel.trans (hW.mono D3.out.bel.size))))
    have HDR : Hid (l.drop E = r) := Hj (by rw [HREC.out, HEE.out, ← recsB_length G rs 0, List.drop_left])
    have qE : l.length - E = r.length := by omega
    obtain ⟨AE, hsl, hrE⟩ := run_tail R3.out HLC.out.1 (E := E) (by omega)
    rw [qE] at hsl hrE
    rw [HDR.out] at hrE
    obtain ⟨cE, hcE⟩ : ∃ cE, cE = c1 - E := ⟨_, rfl⟩
    have HCE : Hid (r.length ≤ cE ∧ cE ≤ maxLen) := Hj (by have := HLC.out; omega)
    rw [← hcE] at hsl
    have RE := Hj hrE
    have HRL := Hj hrl
    have HLEN := Hj hle
    have QE := Hj qE
    clear hrE hcE hrl hle qE
    have HK : Hid (∀ W, Below wr.heap.size wr W → W.cell? ⟨gl, 1, none⟩ = some (.int .i64 (G : Int)) ∧ W.cell? ⟨gl, 4, none⟩ = some (.slice AV ws.length cV) ∧ W.cell? ⟨gl, 5, none⟩ = some (.int .i64 (E : Int))) := Hj fun W hW =>
     ⟨Kz hW _ _ k1, Kz hW _ _ k4, Kz hW _ _ k5⟩
    cases hnx : nextB r G rs.length with
    | none =>
     have HNN := Hj hnx
     clear hnx
     go_wp2_with fail
     go_region_held3 (fun w' => w'.cell? ⟨gl, 1, none⟩ = some (.int .i64 (G : Int)) ∧ w'.cell? ⟨gl, 4, none⟩ = some (.slice AV ws.length cV) ∧ w'.cell? ⟨gl, 5, none⟩ = some (.int .i64 (E : Int))) (first | exact ⟨by assumption, by assumption, by assumption⟩ | go_keep)
      (first
       | (go_at_call 117; go_loud ((with_reducible refine (HNx.out wr.drew AE cE (below_d1 (Below.refl _ _)) (RE.out.keep (Keeps.drew wr)) HCE.out.1 HCE.out.2).mono ?_); rintro e w2 ⟨v2, ok2, rfl, hb2, h21, h22⟩; obtain rfl := h22 HNN.out; have B2 : Hid (Below wr.heap.size wr w2) := Hj (Below.undrewW hb2); obtain ⟨x1, x4, x5⟩ := HK.out w2 B2.out; clear hb2 h21 h22))
       | fail)
     all_goals
      go_wp2
      go_ret
      refine ⟨rfl, ⟨G, sl, tx, rs, false⟩, ⟨HPK.out, ⟨r, ?_, HNN.out⟩, HSH.out⟩, rfl, ?_⟩
      ·show m.b 5 = _
       rw [← HLE.out]
       exact HREC.out
      ·have Z := DW.then F3.out (DW.behind D3.out.bel.size B2.out (D3.out.below B2.out).same)
       rw [HS2.out] at Z
       exact DW.then F.out (DW.behind D.out.bel.size B1.out Z)
    | some t =>
     have HNN := Hj hnx
     have hnt := nextB_some hnx
     have ht0 := hnt.1
     have HNT := Hj hnt
     have HCl : Hid (∀ W A n, RB W A t.length t → Calls Tryz.prog 78 #[.slice A t.length n] W fun e w' => ∃ A' cap, e = .returned (.slice A' t.length cap) ∧ OB w' W.heap.size (.slice A' t.length cap) t ∧ Below W.heap.size W w') := Hj fun W A n h => Clone_any A t.length n t W h (by omega)
     clear hnx hnt
     go_wp2_with fail
     go_region_held3 (fun w' => w'.cell? ⟨gl, 1, none⟩ = some (.int .i64 (G : Int)) ∧ w'.cell? ⟨gl, 4, none⟩ = some (.slice AV ws.length cV) ∧ w'.cell? ⟨gl, 5, none⟩ = some (.int .i64 (E : Int))) (first | exact ⟨by assumption, by assumption, by assumption⟩ | go_keep)
      (first
       | (go_at_call 117; go_loud ((with_reducible refine (HNx.out wr.drew AE cE (below_d1 (Below.refl _ _)) (RE.out.keep (Keeps.drew wr)) HCE.out.1 HCE.out.2).mono ?_); rintro e w2 ⟨v2, ok2, rfl, hb2, h21, h22⟩; obtain ⟨rfl, A2, c2, rfl, -, -, hr2⟩ := h21 t HNN.out; have R2 := Hj (hr2.keep (Kz hb2)); clear hr2; have B2 : Hid (Below wr.heap.size wr w2) := Hj (Below.undrewW hb2); obtain ⟨x1, x4, x5⟩ := HK.out w2 B2.out; clear hb2 h21 h22))
       | fail)
     all_goals
      go_wp2_with fail
      have hwn : ws.length ≤ 1000000 := by rw [HWN.out]; have := HLEN.out; omega
      have cA : w2.cell? ⟨gl, 4, none⟩ = some (.slice AV ws.length cV) := x4
      have cE' : w2.cell? ⟨gl, 5, none⟩ = some (.int .i64 (E : Int)) := x5
      clear x1 x4 x5
      have hq : ((endOf rs + (20 + t.length) : Nat) : Int) = (E : Int) + (20 + (t.length : Int)) := by rw [← HEE.out]; omega
      have HQ := Hj hq
      have hE1 : (E : Int) ≤ 1048576 := by omega
      have hT1 : (t.length : Int) ≤ 16384 := by omega
      clear hq
      go_region_law (first
       | (refine step_append_r rfl (.tmp 90) (.tmp 93) (by rfl) (HV.out.recs.below B6.out) (by rfl) (Src.one w5 _ A5 t.length k5' 1 (fun _ _ h => h)) (by rfl) hwn ?_; intro v7 w7 hown7 hgr7 hat7; obtain ⟨A7, c7, rfl, -, -⟩ := OwnS.form hown7; have hp7 := push_facts HV.out B6.out hgr7 hat7; have m4 : w7.cell? ⟨gl, 4, none⟩ = some (.slice AV ws.length cV) := Kq 4 hp7.1; have m5 : w7.cell? ⟨gl, 5, none⟩ = some (.int .i64 (E : Int)) := by { rw [HEE.out]; exact Kq 5 hp7.1 }; have f4 : w7.frozen? ⟨gl, 4, none⟩ = false := Kx hp7.1; have f5 : w7.frozen? ⟨gl, 5, none⟩ = false := Kx hp7.1; have X7 := Hj (push_done HV.out B6.out hgr7 hat7 hown7 O6.out); clear hp7 hown7 hgr7 hat7)
       | (go_simp; go_at_call 78; go_loud ((with_reducible refine (HCl.out w2.drew A2 c2 (R2.out.keep (Keeps.drew w2))).mono ?_); rintro e w5 ⟨A5, k5', rfl, ho5, hb5⟩; have B5 : Hid (Below w2.heap.size w2 w5) := Hj (Below.undrewW hb5); have ck := Kz B5.out _ _ cA; have D6 := (Below.refl w5.heap.size w5).alloc Kj (.cells #[.slice A5 t.length k5'] 24); have ck2 := Kz D6 _ _ ck; have B6 := Hj ((B2.out.trans (B5.out.mono B2.out.size)).trans (D6.mono (Kv B2.out.size B5.out.size))); have O6 := Hj (((show OB w5 w2.heap.size _ _ from ho5).below D6).mono B2.out.size); clear ho5 hb5 D6)))
      all_goals
       go_wp2
       obtain ⟨-, -, -, r', hr'⟩ := HNT.out
       have HR' := Hj hr'
       have hlr : r.length = 20 + t.length + r'.length := by rw [hr', List.length_append, recB_length]
       have HLR := Hj hlr
       clear hr' hlr
       go_roundg r'.length
       case measure => have := HLR.out; have := HRL.out; omega
       case rel =>
        refine ⟨rs ++ [t], r', rfl, ?_, HSH.out.snoc ht0, ?_⟩
        ·rw [HREC.out, HR'.out, recsB_snoc, Nat.zero_add, List.append_assoc]
        ·have Y := HU.out _ _ X7.out.1 X7.out.2
         rw [HQ.out] at Y
         exact DW.then F3.out Y
end
end Go.Proofs.YtfmagnpmjlppiaaGreatDoor
