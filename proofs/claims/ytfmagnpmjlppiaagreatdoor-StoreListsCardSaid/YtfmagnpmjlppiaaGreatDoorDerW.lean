/- Layer 8 (der): the writer, where it goes through: a list of plain elements. -/
import Derived.Test.YtfmagnpmjlppiaaGreatDoorTlvB
import Derived.Test.YtfmagnpmjlppiaaGreatDoorWalG
import Derived.Deep.RegionLaw
import Derived.Test.YtfmagnpmjlppiaaGreatDoorErrs
namespace Go.Proofs.YtfmagnpmjlppiaaGreatDoor
open Go.RowKit

/-- A cell of an owned row is set. -/
theorem OwnS.setAt {w : World} {B g o n cap k e size : Nat} {xs : List Value} (y : Value) (h : OwnS w B e size (.slice (some ⟨g, o, none⟩) n cap) n xs) (_hk : k < xs.length) :
  w.frozen? ⟨g, o + k, none⟩ = false ∧ OwnS (w.setCell ⟨g, o + k, none⟩ y) B e size (.slice (some ⟨g, o, none⟩) n cap) n (xs.set k y) := by
 obtain ⟨h1, h2⟩ := h
 rcases h2 with ⟨h2, _⟩ | ⟨g', o', cap', cur, h2, h3, h4, h5, h6, h7, h8⟩
 ·cases h2
 ·injection h2 with e1 e2 e3
  injection e1 with e1
  injection e1 with e4 e5
  subst e4; subst e5; subst e3
  refine ⟨Kx h4, by rw [List.length_set]; exact h1, .inr ⟨_, _, _, _, rfl, h3, heap_setCell_same _ _ _ _ _ _ h4, h5, h6, by simpa using h7, ?_⟩⟩
  rw [Array.toList_setIfInBounds, List.drop_set, if_neg (by omega), List.take_set, h8, Nat.add_sub_cancel_left]

theorem info_frm : (Tryz.prog.info? 255).map (fun i => (i.zero, i.size, i.bytes)) = some (some (.agg #[.int .i64 0, .slice none 0 0]), 2, 32) := by kernel_rfl
theorem wpList_append_f {ops : Array Oper} {rest : List Oper} {o : Oper} {a : Act} {w : World} {Q : Exit → Act → World → Prop} (hgd : o.guard = none) (s x : Operand)
  (ho : o.op = .call { callee := .builtin .append, args := #[s, x], argTypes := #[197, 197] })
  {base : Nat} {v : Value} {n : Nat} {xs : List Value} (hown : OwnS w base 255 2 v n xs) (hs : a.eval s = v)
  {xv : Value} {news : List Value} (hsrc : Src Tryz.prog 2 197 xv 1 news w) (hx : a.eval x = xv) (hbytes : n ≤ 1000000) (hbase : base ≤ w.heap.size)
  (h : ∀ v' w', OwnS w' base 255 2 v' (n + 1) (xs ++ news) → w.grownBy w' v.ownBlock → (v'.ownBlock = v.ownBlock ∨ v'.ownBlock = some w.heap.size) → wpList Tryz.prog ops Q rest (a.put o.dst v') w') : wpList Tryz.prog ops Q (o :: rest) a w := by
 obtain ⟨i0, hi, hz0, hz1, hz2⟩ := info_parts4 info_frm
 exact wpList_append_ownS hgd s x 197 197 ho i0 _ 32 Tryz.underlying197 hi hz0 hz1 hz2 rfl (by omega) hs hown xv 1 _ hx hsrc (by unfold maxLen; omega) (by omega) hbase fun v' w' h1 h2 h3 => h v' w' h1 h2 h3
theorem src_frm (w W : World) (tag : Int) (hW : Keeps (w.alloc (.cells #[.int .i64 tag, .slice none 0 0] 255)) W) : Src Tryz.prog 2 197 (.slice (some ⟨w.heap.size, 0, none⟩) 1 1) 1 [.int .i64 tag, .slice none 0 0] W :=
 Src.ofSlice _ Tryz.underlying197 _ _ 1 _ rfl (fun j u hu => hW _ _ (World.news_of_block (cs := #[.int .i64 tag, .slice none 0 0]) (heap_alloc_new w _) j u hu)) (fun u hu => by
  simp only [List.mem_cons, List.not_mem_nil, or_false] at hu
  rcases hu with rfl | rfl <;> rfl)

/-- A writer, new; a: the world before it was made. -/
structure Wr0 (a w : World) (g : Nat) : Prop where
 bel : Below a.heap.size a w
 up : a.heap.size ≤ g
 row : w.heap[g]? = some (.cells #[.slice none 0 0, .slice none 0 0, .nilIface] 199 (0, 0))
/-- A writer in which a list is under way: what was written into it. -/
structure Wr1 (a w : World) (g q o cq : Nat) (kv : Value) (ws : List (List UInt8 × Value)) : Prop where
 bel : Below a.heap.size a w
 up : a.heap.size ≤ g
 row : w.heap[g]? = some (.cells #[.slice (some ⟨q, o, none⟩) 1 cq, .slice none 0 0, .nilIface] 199 (0, 0))
 frm : OwnS w a.heap.size 255 2 (.slice (some ⟨q, o, none⟩) 1 cq) 1 [.int .i64 48, kv]
 kids : OwnS w a.heap.size 24 1 kv ws.length (ws.map fun x => x.2)
 each : ∀ x ∈ ws, OB w a.heap.size x.2 x.1

set_option maxHeartbeats 1000000 in
set_option maxRecDepth 100000 in
theorem Open_der {a w : World} {g : Nat} (h : Wr0 a w g) : Calls Tryz.prog 137 #[.pointer (some ⟨g, 0, none⟩), .int .i64 48] w fun e w' => e = .returned (.tuple #[]) ∧ ∃ q o cq, Wr1 a w' g q o cq (.slice none 0 0) [] := by
 have HB := Hj h.bel
 have HU := Hj h.up
 have HRow := Hj h.row
 have c0 : w.cell? ⟨g, 0, none⟩ = some (.slice none 0 0) := Kq 0 h.row
 have c2 : w.cell? ⟨g, 2, none⟩ = some .nilIface := Kq 2 h.row
 have D := (Below.refl w.heap.size w).alloc Kj (.cells #[.int .i64 48, .slice none 0 0] 255)
 have HD := Hj D
 have c0a : ∀ o, (w.alloc o).cell? ⟨g, 0, none⟩ = some (.slice none 0 0) := fun o => Kz ((Below.refl w.heap.size w).alloc Kj o) _ _ c0
 have hgl : g < w.heap.size := (Cz h.row)
 have HGL := Hj hgl
 clear h D hgl
 go_enter Tryz.func137, Tryz.ntmps137
 go_wp2_with (first
  | (go_at_call 129; go_loud ((with_reducible refine (Made_list w).mono ?_); rintro e w1 ⟨rfl, rfl⟩))
  | (at_builtin; go_loud (refine wpList_append_f rfl (.tmp 8) (.tmp 11) rfl (OwnS.nil _ a.heap.size _ _) rfl (src_frm w _ 48 (fun _ _ h => h)) rfl (by decide) (by have := HB.out.size; simp; omega) ?_; intro v2 w2 hown2 hgr2 hat2; rw [Nat.zero_add, List.nil_append] at hown2; obtain ⟨q, o, cap, e2, hq1, hq2, hcells⟩ := OwnS.cells hown2 (by decide); subst e2; have O2 := Hj hown2; have B2 : Hid (Below w.heap.size w w2) := Hj (HD.out.grown hgr2 (by simp) fun k hk => (by cases hk)); have row2 := (B2.out.block g HGL.out).trans HRow.out; have R2 := Hj row2; have d0 : w2.cell? ⟨g, 0, none⟩ = some (.slice none 0 0) := Kq 0 row2; have f0 : w2.frozen? ⟨g, 0, none⟩ = false := Kx row2; clear hown2 hgr2 hat2 hcells row2))
  | fail)
 refine bodyPost_end (results_none rfl _ _ _) rfl ⟨rfl, q, o, cap, ?_⟩
 have hF := (Fr.refl (fun k => k = g) w2).setCell (p := ⟨g, 0, none⟩) (fun _ => rfl) (.slice (some ⟨q, o, none⟩) 1 cap)
 have hB2 : Below a.heap.size a w2 := HB.out.trans (B2.out.mono HB.out.size)
 refine ⟨hB2.trans (hF.below hB2.size fun k _ e => by rw [e]; exact HU.out), HU.out, heap_setCell_same _ g 0 _ _ _ R2.out, OwnS.kept O2.out hF fun k hk e => ?_, OwnS.nil _ _ _ _, fun x hx => (by cases hx)⟩
 subst e
 obtain ⟨cur, hcur⟩ := own_type O2.out hk
 exact absurd (types_ne hcur R2.out) (by decide)

section
variable {a w : World} {g q o cq : Nat} {kv : Value} {ws : List (List UInt8 × Value)}
theorem Wr1.gq (h : Wr1 a w g q o cq kv ws) : q ≠ g := fun e => by
 subst e
 obtain ⟨cur, hcur⟩ := own_type h.frm (k := q) rfl
 exact absurd (types_ne hcur h.row) (by decide)
theorem Wr1.cells (h : Wr1 a w g q o cq kv ws) : w.cell? ⟨q, o, none⟩ = some (.int .i64 48) ∧ w.cell? ⟨q, o + 1, none⟩ = some kv := by
 obtain ⟨q', o', c', e, -, -, hc⟩ := OwnS.cells h.frm (by simp)
 injection e with e1 _ _
 injection e1 with e1
 injection e1 with e2 e3
 subst e2; subst e3
 exact ⟨hc 0 _ rfl, hc 1 _ rfl⟩
/-- What stands behind the append; and behind the store. -/
theorem Wr1.push (h : Wr1 a w g q o cq kv ws) {wa w3 : World} {v3 xv : Value} {x : List UInt8} (hb : Below w.heap.size w wa) (hgr : wa.grownBy w3 kv.ownBlock) (hv : OwnS w3 a.heap.size 24 1 v3 (ws.length + 1) (ws.map (fun x => x.2) ++ [xv]))
  (hx : OB wa w.heap.size xv x) : w3.cell? ⟨g, 0, none⟩ = some (.slice (some ⟨q, o, none⟩) 1 cq) ∧ w3.cell? ⟨q, o + 1, none⟩ = some kv ∧ w3.frozen? ⟨q, o + 1, none⟩ = false ∧ Wr1 a (w3.setCell ⟨q, o + 1, none⟩ v3) g q o cq v3 (ws ++ [(x, xv)]) := by
 have hF := (Fr.of_below (S := fun k => kv.ownBlock = some k) hb).trans (Fr.of_grown hgr) (fun q _ hq => hq.symm)
 have hgl : g < w.heap.size := (Cz h.row)
 have hgk : kv.ownBlock ≠ some g := fun e => by
  obtain ⟨cur, hcur⟩ := own_type h.kids e
  exact absurd (types_ne hcur h.row) (by decide)
 have row3 : w3.heap[g]? = _ := (hF.block g hgl hgk).trans h.row
 have frm3 := OwnS.kept h.frm hF (fun k hk e => by
  obtain ⟨cur, hcur⟩ := own_type h.frm hk
  obtain ⟨cur', hcur'⟩ := own_type h.kids e
  exact absurd (types_ne hcur hcur') (by decide))
 obtain ⟨fz, frm4⟩ := OwnS.setAt (k := 1) v3 frm3 (by simp)
 have cs : w3.cell? ⟨q, o + 1, none⟩ = some kv := by
  obtain ⟨q', o', c', e, -, -, hc⟩ := OwnS.cells frm3 (by simp)
  injection e with e1 _ _
  injection e1 with e1
  injection e1 with e2 e3
  subst e2; subst e3
  exact hc 1 _ rfl
 have hG := (Fr.refl (fun k => k = q) w3).setCell (p := ⟨q, o + 1, none⟩) (fun _ => rfl) v3
 have hq : a.heap.size ≤ q := (OwnS.lt h.frm q rfl).1
 have hB3 : Below a.heap.size a w3 := h.bel.trans (hF.below h.bel.size fun i _ e => (OwnS.lt h.kids i e).1)
 refine ⟨Kq 0 row3, cs, fz, hB3.trans (hG.below hB3.size fun i _ e => by rw [e]; exact hq), h.up, ?_, frm4, ?_, fun y hy => ?_⟩
 ·exact (hG.block g (Cz row3) (fun e => h.gq e.symm)).trans row3
 ·rw [List.length_append, List.map_append]
  refine OwnS.kept hv hG fun k hk e => ?_
  subst e
  obtain ⟨cur, hcur⟩ := own_type hv hk
  obtain ⟨cur', hcur'⟩ := own_type frm3 (k := k) rfl
  exact absurd (types_ne hcur hcur') (by decide)
 ·have key : OB w3 a.heap.size y.2 y.1 := by
   rcases List.mem_append.1 hy with hy | hy
   ·exact OwnS.kept (h.each y hy) hF fun k hk e => by
     obtain ⟨cur, hcur⟩ := own_type (h.each y hy) hk
     obtain ⟨cur', hcur'⟩ := own_type h.kids e
     exact absurd (types_ne hcur hcur') (by decide)
   ·rw [List.mem_singleton.1 hy]
    refine OB.mono (OwnS.kept hx (Fr.of_grown hgr) fun k hk e => ?_) h.bel.size
    have := (OB.lt hx k hk).1
    have := (OwnS.lt h.kids k e.symm).2
    omega
  refine OwnS.kept key hG fun k hk e => ?_
  subst e
  obtain ⟨cur, hcur⟩ := own_type key hk
  obtain ⟨cur', hcur'⟩ := own_type frm3 (k := k) rfl
  exact absurd (types_ne hcur hcur') (by decide)
end
theorem step_append_r0 {ops : Array Oper} {o : Oper} {a : Act} {w : World} {K : Act → World → Prop} {Q : Exit → Act → World → Prop} {E : Prop} (hgd : o.guard = none) (s x : Operand)
  (ho : o.op = .call { callee := .builtin .append, args := #[s, x], argTypes := #[88, 88] })
  {base : Nat} {v : Value} {n : Nat} {ws : List Value} (hown : OwnS w base 24 1 v n ws) (hs : a.eval s = v)
  {xv y : Value} (hsrc : Src Tryz.prog 1 88 xv 1 [y] w) (hx : a.eval x = xv) (hbytes : n ≤ 1000000) (hbase : base ≤ w.heap.size)
  (h : ∀ v' w', OwnS w' base 24 1 v' (n + 1) (ws ++ [y]) → w.grownBy w' v.ownBlock → (v'.ownBlock = v.ownBlock ∨ v'.ownBlock = some w.heap.size) → K (a.put o.dst v') w') :
  if Region.wanted o (yielded ops a.tmps) = true then Oper.wp Tryz.prog o a w K Q else E := by
 obtain ⟨i0, hi, hz0, hz1, hz2⟩ := info_parts4 info_byt
 exact step_append_ownS hgd s x 88 88 ho i0 _ 24 Tryz.underlying88 hi hz0 hz1 hz2 rfl (by omega) hs hown xv 1 _ hx hsrc (by unfold maxLen; omega) (by omega) hbase fun v' w' h1 h2 h3 => h v' w' h1 h2 h3

set_option maxHeartbeats 4000000 in
set_option maxRecDepth 100000 in
theorem add_der {a w : World} {g q o cq : Nat} {kv : Value} {ws : List (List UInt8 × Value)} (h : Wr1 a w g q o cq kv ws) (A : Option Addr) (n c : Nat) (x : List UInt8) (hb : RB w A n x) (hn : n ≤ 100000) (hws : ws.length ≤ 1000) :
  Calls Tryz.prog 216 #[.pointer (some ⟨g, 0, none⟩), .slice A n c] w fun e w' => e = .returned (.tuple #[]) ∧ ∃ kv' xv, Wr1 a w' g q o cq kv' (ws ++ [(x, xv)]) := by
 have HWr := Hj h
 have HN := Hj hws
 have hcs := h.cells
 obtain ⟨AV, cV, eV, -, -⟩ := OwnS.form h.kids
 have c1 : w.cell? ⟨q, o + 1, none⟩ = some (.slice AV ws.length cV) := by rw [← eV]; exact hcs.2
 have c0 : w.cell? ⟨g, 0, none⟩ = some (.slice (some ⟨q, o, none⟩) 1 cq) := Kq 0 h.row
 have HK : Hid (∀ W, Below w.heap.size w W → W.cell? ⟨g, 0, none⟩ = some (.slice (some ⟨q, o, none⟩) 1 cq) ∧ W.cell? ⟨q, o + 1, none⟩ = some (.slice AV ws.length cV)) := Hj fun W hW => ⟨Kz hW _ _ c0, Kz hW _ _ c1⟩
 have HCl : Hid (∀ W, Below w.heap.size w W → Calls Tryz.prog 78 #[.slice A n c] W fun e w' => ∃ A' cap, e = .returned (.slice A' x.length cap) ∧ OB w' W.heap.size (.slice A' x.length cap) x ∧ Below W.heap.size W w') := Hj fun W h => Clone_any A n c x W (hb.keep (Kz h)) (by omega)
 have w0 : IntKind.i64.wrap 0 = 0 := rfl
 subst eV
 clear h hb hn hws hcs
 go_enter Tryz.func216, Tryz.ntmps216
 go_wp2
 refine wp_region_noPanic ?_
 refine wp_region_held_drew (S := (fun w' => w'.cell? ⟨g, 0, none⟩ = some (.slice (some ⟨q, o, none⟩) 1 cq))) (by kernel_rfl) ?_ (fun hHeld => ?_)
 ·exact (HK.out _ (below_dd (Below.refl _ _))).1
 refine tk 0 hHeld ?_
 try simp only [pa]
 refine tk 1 hHeld ?_
 try simp only [pa]
 refine tk 2 hHeld ?_
 try simp only [pa]
 refine tk 3 hHeld ?_
 try simp only [pa]
 refine tk 4 hHeld ?_
 try simp only [pa]
 refine tk 5 hHeld ?_
 try simp only [pa]
 refine tk 6 hHeld ?_
 try simp only [pa]
 refine tk 7 hHeld ?_
 try simp only [pa]
 refine tk 8 hHeld ?_
 try simp only [pa]
 refine tk 9 hHeld ?_
 try simp only [pa]
 refine tk 10 hHeld ?_
 try simp only [pa]
 refine tk 11 hHeld ?_
 try simp only [pa]
 refine tk 12 hHeld ?_
 try simp only [pa]
 refine tk 13 hHeld ?_
 try simp only [pa]
 refine tk 15 hHeld ?_
 try simp only [pa]
 refine rd2 14 16 rfl rfl (fun K hK => ?_) (fun K hK => ?_)
 focus
  go_simp
  refine hK.out _ _ ?_ (fun hHeld => ?_)
  ·first | exact hHeld | assumption
  clear hK K
  try simp only [pa]
  refine rd1 16 rfl (fun K hK => ?_)
  go_simp
  (with_reducible refine (HCl.out w.drew (below_dd (Below.refl _ _))).mono ?_)
  rintro e w2 ⟨A2, k2, rfl, ho2, hb2⟩
  have B2 : Hid (Below w.heap.size w w2) := Hj (Below.undrewW hb2)
  obtain ⟨x0, x1⟩ := HK.out w2 B2.out
  have D6 := (Below.refl w2.heap.size w2).alloc Kj (.cells #[.slice A2 x.length k2] 24)
  have B6 := Hj (B2.out.trans (D6.mono B2.out.size))
  obtain ⟨y0, y1⟩ := HK.out _ B6.out
  have O6 := Hj ((show OB w2 w.heap.size _ _ from ho2).below D6)
  clear ho2 hb2 D6
  refine hK.out _ _ ?_ (fun hHeld => ?_)
  ·exact x0
  clear hK K
  try simp only [pa]
  refine rd1 17 rfl (fun K hK => ?_)
  go_simp
  refine hK.out _ _ ?_ (fun hHeld => ?_)
  ·exact y0
 rotate_right
 focus
  go_simp
  (with_reducible refine (HCl.out w.drew (below_dd (Below.refl _ _))).mono ?_)
  rintro e w2 ⟨A2, k2, rfl, ho2, hb2⟩
  have B2 : Hid (Below w.heap.size w w2) := Hj (Below.undrewW hb2)
  obtain ⟨x0, x1⟩ := HK.out w2 B2.out
  have D6 := (Below.refl w2.heap.size w2).alloc Kj (.cells #[.slice A2 x.length k2] 24)
  have B6 := Hj (B2.out.trans (D6.mono B2.out.size))
  obtain ⟨y0, y1⟩ := HK.out _ B6.out
  have O6 := Hj ((show OB w2 w.heap.size _ _ from ho2).below D6)
  clear ho2 hb2 D6
  refine hK.out _ _ ?_ (fun hHeld => ?_)
  ·exact x0
  clear hK K
  try simp only [pa]
  refine rd2 14 17 rfl rfl (fun K hK => ?_) (fun K hK => ?_)
  focus
   go_simp
   refine hK.out _ _ ?_ (fun hHeld => ?_)
   ·first | exact hHeld | assumption
   clear hK K
   try simp only [pa]
   refine rd1 17 rfl (fun K hK => ?_)
   go_simp
   refine hK.out _ _ ?_ (fun hHeld => ?_)
   ·exact y0
  rotate_right
  focus
   go_simp
   refine hK.out _ _ ?_ (fun hHeld => ?_)
   ·exact y0
   clear hK K
   try simp only [pa]
   refine rd1 14 rfl (fun K hK => ?_)
   go_simp
   refine hK.out _ _ ?_ (fun hHeld => ?_)
   ·first | exact hHeld | assumption
 all_goals
  clear hK K
  try simp only [pa]
  refine rd1 18 rfl (fun K hK => ?_)
  refine step_append_r0 rfl (.tmp 26) (.tmp 29) (by rfl) (HWr.out.kids.below B6.out) (by rfl) (Src.one w2 _ A2 x.length k2 1 (fun _ _ h => h)) (by rfl) (by have := HN.out; omega) (Kv HWr.out.bel.size B6.out.size) ?_
  intro v7 w7 hown7 hgr7 hat7
  obtain ⟨A7, c7, rfl, -, -⟩ := OwnS.form hown7
  obtain ⟨z0, z1, zf, hz⟩ := HWr.out.push B6.out hgr7 hown7 O6.out
  have HZ := Hj hz
  have HZ0 := Hj (show (w7.setCell ⟨q, o + 1, none⟩ (.slice A7 (ws.length + 1) c7)).cell? ⟨g, 0, none⟩ = some (.slice (some ⟨q, o, none⟩) 1 cq) from Kq 0 hz.row)
  clear hown7 hgr7 hat7 hz
  refine hK.out _ _ ?_ (fun hHeld => ?_)
  ·exact z0
  clear hK K
  try simp only [pa]
  refine tk 19 hHeld ?_
  try simp only [pa]
  refine tk 20 hHeld ?_
  try simp only [pa]
  refine rd1 21 rfl (fun K hK => ?_)
  go_simp
  refine hK.out _ _ ?_ (fun hHeld => ?_)
  ·exact HZ0.out
  clear hK K
  try simp only [pa]
  refine wpAnyH_done (by kernel_rfl) ?_ _
  refine NoPanic.normal ?_
  go_wp2
  exact bodyPost_ret (results_none rfl _ _ _) rfl ⟨rfl, _, _, HZ.out⟩
end Go.Proofs.YtfmagnpmjlppiaaGreatDoor

/- Layer 8 (der): the writer: put, Enum, Int, Octets. -/
namespace Go.Proofs.YtfmagnpmjlppiaaGreatDoor
open Go.RowKit

theorem setCell_self {w : World} {g i : Nat} {cur : Array Value} {T : TypeId} {fr : Nat × Nat} {v : Value} (hg : w.heap[g]? = some (.cells cur T fr)) (hv : cur[i]? = some v) : w.setCell ⟨g, i, none⟩ v = w := by
 have hcur : cur.setIfInBounds i v = cur := by
  apply Array.ext_getElem?
  intro k
  rw [Array.getElem?_setIfInBounds]
  split
  ·rename_i e
   subst e
   split
   ·exact hv.symm
   ·rename_i h
    rw [Array.getElem?_eq_none (by omega)]
  ·rfl
 have hh : (w.setCell ⟨g, i, none⟩ v).heap = w.heap := by
  apply Array.ext_getElem?
  intro k
  unfold World.setCell
  rw [Array.getElem?_modify]
  split
  ·rename_i e
   subst e
   simp [hg, hcur]
  ·rfl
 cases w
 unfold World.setCell at hh ⊢
 simp only at hh ⊢
 rw [hh]
theorem Fail_nil {w : World} {g : Nat} {cur : Array Value} (hg : w.heap[g]? = some (.cells cur 199 (0, 0))) (hv : cur[2]? = some .nilIface) :
  Calls Tryz.prog 215 #[.pointer (some ⟨g, 0, none⟩), .nilIface] w fun e w' => e = .returned (.tuple #[]) ∧ w = w' := by
 have c2 : w.cell? ⟨g, 2, none⟩ = some .nilIface := (Kq 2 hg).trans hv
 have f2 : w.frozen? ⟨g, 2, none⟩ = false := Kx hg
 have HS := Hj (setCell_self hg hv)
 clear hg hv
 go_enter Tryz.func215, Tryz.ntmps215
 go_wp2
 exact bodyPost_end (results_none rfl _ _ _) rfl ⟨rfl, HS.out.symm⟩

set_option maxHeartbeats 1000000 in
set_option maxRecDepth 100000 in
/-- put, whatever add does then. -/
theorem put_gen {w : World} {g : Nat} {cur : Array Value} {R : Ending → World → Prop} (tag : Nat) (A : Option Addr) (m c : Nat) (body : List UInt8) (hg : w.heap[g]? = some (.cells cur 199 (0, 0))) (hv : cur[2]? = some .nilIface)
  (ht : Tag (tag : Int)) (htl : tag < 256) (hb : RB w A m body) (hmc : m ≤ c) (hc : c ≤ maxLen) (hm : m ≤ 65530)
  (hadd : ∀ W A' n' c', Below w.heap.size w W → RB W A' n' (elemB tag body) → n' ≤ c' → c' ≤ maxLen → Calls Tryz.prog 216 #[.pointer (some ⟨g, 0, none⟩), .slice A' n' c'] W fun e w' => e = .returned (.tuple #[]) ∧ R e w') :
  Calls Tryz.prog 186 #[.pointer (some ⟨g, 0, none⟩), .int .i64 (tag : Int), .slice A m c, .nilIface] w fun e w' => e = .returned (.tuple #[]) ∧ R e w' := by
 have c2 : w.cell? ⟨g, 2, none⟩ = some .nilIface := (Kq 2 hg).trans hv
 have HF := Hj (Fail_nil hg hv)
 have HP := Hj (Put_tlv tag A m c body w ht htl hb hmc hc hm)
 have HA := Hj hadd
 clear hg hv ht htl hb hmc hc hm hadd
 go_enter Tryz.func186, Tryz.ntmps186
 go_wp2_with (first
  | (go_at_call 215; go_loud ((with_reducible refine HF.out.mono ?_); rintro e w1 ⟨rfl, rfl⟩))
  | (go_at_call 76; go_loud ((with_reducible refine HP.out.mono ?_); rintro e w2 ⟨A2, k2, rfl, ho2, hb2⟩; have hr2 := OB.form ho2; obtain ⟨A3, k3, e3, h31, h32, h33⟩ := hr2; injection e3 with e4 _ e5; subst e4; subst e5; have HA2 := Hj (HA.out w2 A2 _ _ hb2 h33 h31 h32); clear h31 h32 h33 ho2 hb2))
  | (go_at_call 216; go_loud ((with_reducible refine HA2.out.mono ?_); rintro e w3 ⟨rfl, hr3⟩; have R3 := Hj hr3; clear hr3))
  | fail)
 exact bodyPost_end (results_none rfl _ _ _) rfl ⟨rfl, R3.out⟩

section
variable {a w : World} {g q o cq : Nat} {kv : Value} {ws : List (List UInt8 × Value)}
theorem Wr1.below (h : Wr1 a w g q o cq kv ws) {W : World} (hb : Below w.heap.size w W) : Wr1 a W g q o cq kv ws :=
 ⟨h.bel.trans (hb.mono h.bel.size), h.up, (hb.block g (Cz h.row)).trans h.row, h.frm.below hb, h.kids.below hb, fun x hx => (h.each x hx).below hb⟩
theorem elemB_le (tag : Nat) {b : List UInt8} (h : b.length ≤ 65530) : (elemB tag b).length ≤ 100000 := by
 have := elemB_length tag b (by omega)
 omega
theorem put_der (h : Wr1 a w g q o cq kv ws) (tag : Nat) (A : Option Addr) (m c : Nat) (body : List UInt8) (ht : Tag (tag : Int)) (htl : tag < 256) (hb : RB w A m body) (hmc : m ≤ c) (hc : c ≤ maxLen) (hm : m ≤ 65530) (hws : ws.length ≤ 1000) :
  Calls Tryz.prog 186 #[.pointer (some ⟨g, 0, none⟩), .int .i64 (tag : Int), .slice A m c, .nilIface] w fun e w' => e = .returned (.tuple #[]) ∧ ∃ kv' xv, Wr1 a w' g q o cq kv' (ws ++ [(elemB tag body, xv)]) :=
 put_gen (R := fun _ w' => ∃ kv' xv, Wr1 a w' g q o cq kv' (ws ++ [(elemB tag body, xv)])) tag A m c body h.row rfl ht htl hb hmc hc hm fun W A' n' c' hW hA _ _ =>
  add_der (h.below hW) A' n' c' _ hA (by rw [← hA.1]; exact elemB_le tag (by rw [hb.1]; exact hm)) hws

set_option maxHeartbeats 1000000 in
theorem Octets_der (h : Wr1 a w g q o cq kv ws) (A : Option Addr) (m c : Nat) (body : List UInt8) (hb : RB w A m body) (hmc : m ≤ c) (hc : c ≤ maxLen) (hm : m ≤ 65530) (hws : ws.length ≤ 1000) :
  Calls Tryz.prog 139 #[.pointer (some ⟨g, 0, none⟩), .slice A m c] w fun e w' => e = .returned (.tuple #[]) ∧ ∃ kv' xv, Wr1 a w' g q o cq kv' (ws ++ [(elemB 4 body, xv)]) := by
 have HP : Hid (Calls Tryz.prog 186 #[.pointer (some ⟨g, 0, none⟩), .int .i64 4, .slice A m c, .nilIface] w fun e w' => e = .returned (.tuple #[]) ∧ ∃ kv' xv, Wr1 a w' g q o cq kv' (ws ++ [(elemB 4 body, xv)])) := Hj (put_der h 4 A m c body (.inr (by simp [plainT])) (by decide) hb hmc hc hm hws)
 clear h hb hmc hc hm hws
 go_enter Tryz.func139, Tryz.ntmps139
 go_wp2_with (first
  | (go_at_call 186; go_loud ((with_reducible refine HP.out.mono ?_); rintro e w1 ⟨rfl, hr⟩; have R1 := Hj hr; clear hr))
  | fail)
 exact bodyPost_end (results_none rfl _ _ _) rfl ⟨rfl, R1.out⟩

set_option maxHeartbeats 1000000 in
theorem Enum_der (h : Wr1 a w g q o cq kv ws) (n : Nat) (hn : n < 4611686018427387904) (hws : ws.length ≤ 1000) :
  Calls Tryz.prog 138 #[.pointer (some ⟨g, 0, none⟩), .int .i64 (n : Int)] w fun e w' => e = .returned (.tuple #[]) ∧ ∃ kv' xv, Wr1 a w' g q o cq kv' (ws ++ [(elemB 10 (intB n), xv)]) := by
 have hL : (intB n).length ≤ 9 := by unfold intB; rw [List.length_reverse]; exact lowI_len 8 (by omega)
 have HW := Hj (Put_whole n w hn)
 have HP : Hid (∀ W A c, Below w.heap.size w W → OB W w.heap.size (.slice A (intB n).length c) (intB n) → Calls Tryz.prog 186 #[.pointer (some ⟨g, 0, none⟩), .int .i64 10, .slice A (intB n).length c, .nilIface] W fun e w' => e = .returned (.tuple #[]) ∧ ∃ kv' xv, Wr1 a w' g q o cq kv' (ws ++ [(elemB 10 (intB n), xv)])) := Hj fun W A c hW ho => by
  obtain ⟨A', c', e, h1, h2, h3⟩ := OB.form ho
  injection e with e1 _ e3
  subst e1; subst e3
  exact put_der (h.below hW) 10 A _ c (intB n) (.inr (by simp [plainT])) (by decide) h3 h1 h2 (by omega) hws
 clear h hws hL hn
 go_enter Tryz.func138, Tryz.ntmps138
 go_wp2_with (first
  | (go_at_call 92; go_loud ((with_reducible refine HW.out.mono ?_); rintro e w1 ⟨A1, c1, rfl, ho1, hb1⟩; have P1 := Hj (HP.out w1 A1 c1 hb1 ho1); clear ho1 hb1))
  | (go_at_call 186; go_loud ((with_reducible refine P1.out.mono ?_); rintro e w2 ⟨rfl, hr⟩; have R1 := Hj hr; clear hr))
  | fail)
 exact bodyPost_end (results_none rfl _ _ _) rfl ⟨rfl, R1.out⟩

set_option maxHeartbeats 1000000 in
theorem Int_der (h : Wr1 a w g q o cq kv ws) (n : Nat) (hn : n < 4611686018427387904) (hws : ws.length ≤ 1000) :
  Calls Tryz.prog 140 #[.pointer (some ⟨g, 0, none⟩), .int .i64 (n : Int)] w fun e w' => e = .returned (.tuple #[]) ∧ ∃ kv' xv, Wr1 a w' g q o cq kv' (ws ++ [(elemB 2 (intB n), xv)]) := by
 have hL : (intB n).length ≤ 9 := by unfold intB; rw [List.length_reverse]; exact lowI_len 8 (by omega)
 have HW := Hj (Put_whole n w hn)
 have HP : Hid (∀ W A c, Below w.heap.size w W → OB W w.heap.size (.slice A (intB n).length c) (intB n) → Calls Tryz.prog 186 #[.pointer (some ⟨g, 0, none⟩), .int .i64 2, .slice A (intB n).length c, .nilIface] W fun e w' => e = .returned (.tuple #[]) ∧ ∃ kv' xv, Wr1 a w' g q o cq kv' (ws ++ [(elemB 2 (intB n), xv)])) := Hj fun W A c hW ho => by
  obtain ⟨A', c', e, h1, h2, h3⟩ := OB.form ho
  injection e with e1 _ e3
  subst e1; subst e3
  exact put_der (h.below hW) 2 A _ c (intB n) (.inr (by simp [plainT])) (by decide) h3 h1 h2 (by omega) hws
 clear h hws hL hn
 go_enter Tryz.func140, Tryz.ntmps140
 go_wp2_with (first
  | (go_at_call 92; go_loud ((with_reducible refine HW.out.mono ?_); rintro e w1 ⟨A1, c1, rfl, ho1, hb1⟩; have P1 := Hj (HP.out w1 A1 c1 hb1 ho1); clear ho1 hb1))
  | (go_at_call 186; go_loud ((with_reducible refine P1.out.mono ?_); rintro e w2 ⟨rfl, hr⟩; have R1 := Hj hr; clear hr))
  | fail)
 exact bodyPost_end (results_none rfl _ _ _) rfl ⟨rfl, R1.out⟩
end
end Go.Proofs.YtfmagnpmjlppiaaGreatDoor
