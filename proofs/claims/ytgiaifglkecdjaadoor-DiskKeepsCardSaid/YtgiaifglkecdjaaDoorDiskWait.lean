/- disk: wait. -/
import Derived.Test.YtgiaifglkecdjaaDoorDiskUnit
namespace Go.Proofs.YtgiaifglkecdjaaDoor
open Go.RowKit

theorem below_d1 {B : Nat} {a w : World} (h : Below B a w) : Below B a w.drew := ⟨h.os, h.tape, h.output, h.size, h.block⟩
theorem Fr.undrew {S : Nat → Prop} {a w : World} (h : Fr S a.drew w) : Fr S a w := ⟨h.os, h.tape, h.output, h.size, h.block⟩
theorem info_chg : (Tryd.prog.info? 137).map (fun i => (i.zero, i.size, i.bytes)) = some (some (.agg #[.int .i64 0, .int .i64 0, .slice none 0 0, .bool false]), 4, 48) := by kernel_rfl
theorem info_parts4 {T : TypeId} {z : Option Value} {s b : Nat} (h : (Tryd.prog.info? T).map (fun i => (i.zero, i.size, i.bytes)) = some (z, s, b)) : ∃ i, Tryd.prog.info? T = some i ∧ i.zero = z ∧ i.size = s ∧ i.bytes = b := by
  cases hi : Tryd.prog.info? T with
  | none => rw [hi] at h; cases h
  | some i =>
    rw [hi] at h
    injection h with h
    injection h with h1 h2
    injection h2 with h2 h3
    exact ⟨i, rfl, h1, h2, h3⟩

/-- A change as cells. -/
def ccells (c : DChg) (xv : Value) : Array Value := #[.int .i64 (c.area : Int), .int .i64 (c.pos : Int), xv, .bool c.cuts]
theorem wcells_one (c : DChg) (xv : Value) : wcells [(c, xv)] = (ccells c xv).toList := rfl
theorem Src.chg (w W : World) (c : DChg) (A : Option Addr) (n k : Nat) (cp : Nat) (hW : Keeps (w.alloc (.cells #[.int .i64 (c.area : Int), .int .i64 (c.pos : Int), .slice A n k, .bool c.cuts] 137)) W) : Src Tryd.prog 4 131 (.slice (some ⟨w.heap.size, 0, none⟩) 1 cp) 1 (wcells [(c, .slice A n k)]) W :=
  Src.ofSlice _ Tryd.underlying131 _ _ cp _ rfl (fun j u hu => hW _ _ (World.news_of_block (cs := #[.int .i64 (c.area : Int), .int .i64 (c.pos : Int), .slice A n k, .bool c.cuts]) (heap_alloc_new w _) j u hu)) (fun u hu => by
    simp only [wcells_one, ccells, List.mem_cons, List.not_mem_nil, or_false] at hu
    rcases hu with rfl | rfl | rfl | rfl <;> rfl)

theorem step_append_w {ops : Array Oper} {o : Oper} {a : Act} {w : World} {K : Act → World → Prop} {Q : Exit → Act → World → Prop} {E : Prop} (hgd : o.guard = none) (s x : Operand)
    (ho : o.op = .call { callee := .builtin .append, args := #[s, x], argTypes := #[131, 131] })
    {v : Value} {ws : List (DChg × Value)} (hown : OwnS w 0 137 4 v ws.length (wcells ws)) (hs : a.eval s = v)
    {xv : Value} {y : DChg × Value} (hsrc : Src Tryd.prog 4 131 xv 1 (wcells [y]) w) (hx : a.eval x = xv) (hbytes : ws.length ≤ 1000000)
    (h : ∀ v' w', OwnS w' 0 137 4 v' (ws.length + 1) (wcells (ws ++ [y])) → w.grownBy w' v.ownBlock → (v'.ownBlock = v.ownBlock ∨ v'.ownBlock = some w.heap.size) → K (a.put o.dst v') w') :
    if Region.wanted o (yielded ops a.tmps) = true then Oper.wp Tryd.prog o a w K Q else E := by
  obtain ⟨i0, hi, hz0, hz1, hz2⟩ := info_parts4 info_chg
  refine step_append_ownS hgd s x 131 131 ho i0 _ 48 Tryd.underlying131 hi hz0 hz1 hz2 rfl (by omega) hs hown xv 1 _ hx hsrc (by unfold maxLen; omega) (by omega) (Nat.zero_le _) fun v' w' h1 h2 h3 => ?_
  refine h v' w' ?_ h2 h3
  rw [wcells_append]
  exact h1

section
variable {w w' : World} {O O' : Nat → Prop} {g : Nat} {m m' : DM} {bv : Nat → Value} {wv : Value} {ws : List (DChg × Value)} {ea : Nat → Addr}
theorem DiskV.mono (h : DiskV w O g m bv wv ws) (ho : ∀ k, k < w.heap.size → O k → O' k) : DiskV w O' g m bv wv ws :=
  ⟨h.cells, h.areas, h.wts, h.eq, h.bytes, h.apart, h.apartW, ho _ h.lt h.ownG, fun i hi k hk => ho k (OB.lt (h.areas i hi) k hk).2 (h.ownB i hi k hk), fun k hk => ho k (OwnS.lt h.wts k hk).2 (h.ownW k hk), fun x hx k hk => ho k (OB.lt (h.bytes x hx) k hk).2 (h.ownX x hx k hk)⟩
theorem DiskV.below (h : DiskV w O g m bv wv ws) (hb : Below w.heap.size w w') : DiskV w' O g m bv wv ws :=
  h.turn (Fr.of_below hb) ((hb.block g h.lt).trans h.cells) rfl rfl

/-- One change more waits. -/
theorem DiskV.waitV (h : DiskV w O g m bv wv ws) {c : DChg} {xv wv' : Value} (hf : Fr (fun k => k = g ∨ wv.ownBlock = some k) w w') (hc : w'.heap[g]? = some (.cells (dcells m bv wv') 133 (0, 0)))
    (hv : OwnS w' 0 137 4 wv' (ws.length + 1) (wcells (ws ++ [(c, xv)]))) (hat : wv'.ownBlock = wv.ownBlock ∨ ∃ k, wv'.ownBlock = some k ∧ w.heap.size ≤ k)
    (hx : OB w 0 xv c.bytes) (hxO : ∀ k, xv.ownBlock = some k → O k) (hxa : ∀ i, i < 6 → ∀ k, xv.ownBlock = some k → (bv i).ownBlock ≠ some k) :
    DiskV w' (ext O w w') g { m with waits := m.waits ++ [c] } bv wv' (ws ++ [(c, xv)]) := by
  have hxn : ∀ (x : Value) (l : List UInt8), OB w 0 x l → ∀ k, x.ownBlock = some k → ¬ (k = g ∨ wv.ownBlock = some k) := fun x l hx k hk e => by
    obtain ⟨cur, hcur⟩ := own_type hx hk
    rcases e with rfl | e
    · exact absurd (types_ne hcur h.cells) (by decide)
    · obtain ⟨cur', hc'⟩ := own_type h.wts e
      exact absurd (types_ne hcur hc') (by decide)
  refine ⟨hc, fun i hi => OwnS.kept (h.areas i hi) hf (hxn _ _ (h.areas i hi)), by rw [List.length_append]; exact hv, by rw [List.map_append, h.eq]; rfl, fun x hx' => ?_, h.apart, fun x hx' i hi k hk => ?_, .inl h.ownG, fun i hi k hk => .inl (h.ownB i hi k hk), fun k hk => ?_, fun x hx' k hk => ?_⟩
  · rcases List.mem_append.1 hx' with hx' | hx'
    · exact OwnS.kept (h.bytes x hx') hf (hxn _ _ (h.bytes x hx'))
    · rw [List.mem_singleton.1 hx']
      exact OwnS.kept hx hf (hxn _ _ hx)
  · rcases List.mem_append.1 hx' with hx' | hx'
    · exact h.apartW x hx' i hi k hk
    · rw [List.mem_singleton.1 hx'] at hk
      exact hxa i hi k hk
  · rcases hat with e | ⟨q, e, hq⟩
    · exact .inl (h.ownW k (e.symm.trans hk))
    · refine .inr ⟨?_, (OwnS.lt hv k hk).2⟩
      rw [e] at hk
      injection hk with hk
      omega
  · rcases List.mem_append.1 hx' with hx' | hx'
    · exact .inl (h.ownX x hx' k hk)
    · rw [List.mem_singleton.1 hx'] at hk
      exact .inl (hxO k hk)

/-- What stands behind the append. -/
theorem append_facts {w1 wa w3 : World} {v3 : Value} (h : DiskV w1 O g m bv wv ws) (hb : Below w1.heap.size w1 wa) (hgr : wa.drew.grownBy w3 wv.ownBlock) (hat : v3.ownBlock = wv.ownBlock ∨ v3.ownBlock = some wa.drew.heap.size) :
    w3.heap[g]? = some (.cells (dcells m bv wv) 133 (0, 0)) ∧ w3.cell? ⟨g, 7, none⟩ = some wv ∧ w3.frozen? ⟨g, 7, none⟩ = false ∧ Fr (fun q => q = g ∨ wv.ownBlock = some q) w1 w3 ∧ (v3.ownBlock = wv.ownBlock ∨ ∃ q, v3.ownBlock = some q ∧ w1.heap.size ≤ q) := by
  have hg3 := ((Fr.of_grown hgr).block g (Nat.lt_of_lt_of_le h.lt (below_d1 hb).size) (fun e => h.wne e.symm)).trans (((below_d1 hb).block g h.lt).trans h.cells)
  exact ⟨hg3, cell_of_row _ _ 7 _ _ _ hg3, frozen_of_row _ _ _ _ _ hg3, (Fr.of_below (below_d1 hb)).trans (Fr.of_grown hgr) (fun q _ hq => .inr hq.symm), hat.imp id fun e => ⟨_, e, (below_d1 hb).size⟩⟩

theorem wait_dead (c : DChg) (xv : Value) (h : DiskV w O g m bv wv ws) (hE : DErrs w ea) (hd : m.dead = true) (hg : 26 ≤ g) : Calls Tryd.prog 75 #[.pointer (some ⟨g, 0, none⟩), .agg #[.int .i64 (c.area : Int), .int .i64 (c.pos : Int), xv, .bool c.cuts]] w fun e w' => e = .returned (.iface 221 (.pointer (some (ea 25)))) ∧ DiskV w' O g m.unit bv wv ws ∧ Fr (fun k => k = g) w w' := by
  have D0 := (Below.refl w.heap.size w).alloc (Nat.le_refl _) (.cells #[.int .i64 (c.area : Int), .int .i64 (c.pos : Int), xv, .bool c.cuts] 137)
  have H1 := Lib.hid (unit_dead (h.below D0) (hE.keep (Keeps.of_below D0)) hd hg)
  have HD := Lib.hid D0
  clear h hE D0
  go_enter Tryd.func75, Tryd.ntmps75
  go_wp2_with (go_at_call 77; refine H1.out.mono ?_; rintro e w1 ⟨rfl, hv1, hf1⟩)
  go_ret
  exact ⟨rfl, hv1, (Fr.of_below HD.out).trans hf1 fun k _ hk => hk⟩

set_option maxHeartbeats 2000000 in
theorem wait_live0 (c : DChg) (A : Option Addr) (n k : Nat) (h : DiskV w O g m bv wv ws) (hok : m.Ok) (hd : m.dead = false) (hw : m.waits.length ≤ 1000) (hca : c.area < 3) (hp : c.pos + c.bytes.length ≤ 1048576) (hx : OB w 0 (.slice A n k) c.bytes) (hxO : ∀ q, (Value.slice A n k).ownBlock = some q → O q)
    (hbx : ¬ O w.heap.size) (hxa : ∀ i, i < 6 → ∀ q, (Value.slice A n k).ownBlock = some q → (bv i).ownBlock ≠ some q) : Calls Tryd.prog 75 #[.pointer (some ⟨g, 0, none⟩), .agg #[.int .i64 (c.area : Int), .int .i64 (c.pos : Int), .slice A n k, .bool c.cuts]] w fun e w' => e = .returned .nilIface ∧ DiskAt w' (ext O w w') g (m.unit.wait c) ∧ Fr O w w' := by
  have D0 := (Below.refl w.heap.size w).alloc (Nat.le_refl _) (.cells #[.int .i64 (c.area : Int), .int .i64 (c.pos : Int), .slice A n k, .bool c.cuts] 137)
  have H1 := Lib.hid (unit_live (h.below D0) hd hok.left0 hok.left1)
  have HD := Lib.hid D0
  have HX := Lib.hid (OB.below hx D0)
  have HXO := Lib.hid hxO
  have HXA := Lib.hid hxa
  have HK := Lib.hid hok
  have HG := Lib.hid h.ownG
  have HBX := Lib.hid hbx
  have HOW := Lib.hid h.ownW
  have hgl := h.lt
  have hg0 := Lib.hid h.cells
  have hbg : w.heap.size ≠ g := by omega
  have hlw : ws.length ≤ 1000 := by rw [← List.length_map (fun x : DChg × Value => x.1), h.eq]; exact hw
  have HWB : Hid (∀ q, wv.ownBlock = some q → q < w.heap.size) := Lib.hid fun q hq => (OwnS.lt h.wts q hq).2
  obtain ⟨A7, c7, e7, _, _⟩ := OwnS.form h.wts
  subst e7
  clear h hok hw hx hxO hxa D0 hbx
  go_enter Tryd.func75, Tryd.ntmps75
  go_wp2_with (go_at_call 77; refine H1.out.mono ?_; rintro e w1 ⟨rfl, hv1, hf1⟩)
  have V1 := Lib.hid hv1
  have F1 := Lib.hid hf1
  have hs1 := hf1.size
  have D1 := (Below.refl w1.heap.size w1).alloc (Nat.le_refl _) (.cells #[.int .i64 (c.area : Int), .int .i64 (c.pos : Int), .slice A n k, .bool c.cuts] 137)
  have cA : w1.cell? ⟨g, 7, none⟩ = some (.slice A7 ws.length c7) := hv1.cell 7
  have cAa := Keeps.of_below D1 _ _ cA
  have hbox : ∀ i u, (#[.int .i64 (c.area : Int), .int .i64 (c.pos : Int), .slice A n k, .bool c.cuts] : Array Value)[i]? = some u → w1.cell? ⟨w.heap.size, i, none⟩ = some u := fun i u hu => by
    rw [hf1.cell (p := ⟨w.heap.size, i, none⟩) (by simp) hbg, cell_of_row _ _ i _ _ _ (heap_alloc_new w _)]
    exact hu
  have b0 : w1.cell? ⟨w.heap.size, 0, none⟩ = some (.int .i64 (c.area : Int)) := hbox 0 _ rfl
  have b1 : w1.cell? ⟨w.heap.size, 1, none⟩ = some (.int .i64 (c.pos : Int)) := hbox 1 _ rfl
  have b2 : w1.cell? ⟨w.heap.size, 2, none⟩ = some (.slice A n k) := hbox 2 _ rfl
  have b3 : w1.cell? ⟨w.heap.size, 3, none⟩ = some (.bool c.cuts) := hbox 3 _ rfl
  have HB := Lib.hid D1
  clear hv1 hf1 hbox D1
  go_region_law (first
    | (refine step_append_w rfl (.tmp 15) (.tmp 17) (by rfl) (OwnS.drew (V1.out.wts.below HB.out)) (by rfl) (Src.chg w1 (w1.alloc (.cells #[.int .i64 (c.area : Int), .int .i64 (c.pos : Int), .slice A n k, .bool c.cuts] 137)).drew c A n k 1 (Keeps.of_below (below_d1 (Below.refl _ _)))) (by rfl) (by omega) ?_; intro v3 w3 hown3 hgr3 hat3; have hm3 := append_facts V1.out HB.out hgr3 hat3; have m7 := hm3.2.1; have f7 := hm3.2.2.1; obtain ⟨A3, c3, rfl, -, -⟩ := OwnS.form hown3; have HM3 := Lib.hid hm3; have HO3 := Lib.hid hown3; clear hm3 hgr3 hown3 hat3))
  all_goals
    obtain ⟨w4, hw4⟩ : ∃ W, W = w3.setCell ⟨g, 7, none⟩ (.slice A3 (ws.length + 1) c3) := ⟨_, rfl⟩
    rw [← hw4]
    have HS1 : Hid (w.heap.size < w1.heap.size) := Lib.hid (by simp at hs1; omega)
    have FR4 : Hid (Fr (fun q => q = g ∨ (Value.slice A7 ws.length c7).ownBlock = some q) w1 w4) := Lib.hid (by rw [hw4]; exact HM3.out.2.2.2.1.setCell (p := ⟨g, 7, none⟩) (fun _ => .inl rfl) _)
    have V4 : Hid (DiskV w4 (ext O w1 w4) g { m.unit with waits := m.unit.waits ++ [c] } bv (.slice A3 (ws.length + 1) c3) (ws ++ [(c, Value.slice A n k)])) := Lib.hid (V1.out.waitV FR4.out (by rw [hw4]; exact heap_setCell_same _ _ _ _ _ _ HM3.out.1)
      (by rw [hw4]; exact OwnS.keepB HO3.out fun q hq => Below.heap_setCell w3 ⟨g, 7, none⟩ _ q (fun e => by
        have e : q = g := e
        subst e
        obtain ⟨cur, hcur⟩ := own_type HO3.out hq
        exact absurd (types_ne hcur HM3.out.1) (by decide))) HM3.out.2.2.2.2 (OwnS.kept HX.out F1.out fun q hq e => by
          have := HXO.out q hq
          have e : q = g := e
          subst e
          obtain ⟨cur, hcur⟩ := own_type HX.out hq
          exact absurd (types_ne hcur ((HD.out.block _ hgl).trans hg0.out)) (by decide)) HXO.out HXA.out)
    have t0 : w4.cell? ⟨w.heap.size, 0, none⟩ = some (.int .i64 (c.area : Int)) := by rw [FR4.out.cell (p := ⟨w.heap.size, 0, none⟩) HS1.out (fun e => e.elim hbg fun e => absurd (HWB.out _ e) (Nat.lt_irrefl _))]; exact b0
    have t1 : w4.cell? ⟨w.heap.size, 1, none⟩ = some (.int .i64 (c.pos : Int)) := by rw [FR4.out.cell (p := ⟨w.heap.size, 1, none⟩) HS1.out (fun e => e.elim hbg fun e => absurd (HWB.out _ e) (Nat.lt_irrefl _))]; exact b1
    have t2 : w4.cell? ⟨w.heap.size, 2, none⟩ = some (.slice A n k) := by rw [FR4.out.cell (p := ⟨w.heap.size, 2, none⟩) HS1.out (fun e => e.elim hbg fun e => absurd (HWB.out _ e) (Nat.lt_irrefl _))]; exact b2
    have t3 : w4.cell? ⟨w.heap.size, 3, none⟩ = some (.bool c.cuts) := by rw [FR4.out.cell (p := ⟨w.heap.size, 3, none⟩) HS1.out (fun e => e.elim hbg fun e => absurd (HWB.out _ e) (Nat.lt_irrefl _))]; exact b3
    have X4 := Lib.hid (V4.out.bytes (c, .slice A n k) (by simp))
    have HT : Hid (∀ w5, Fr (ext O w1 w4) w4 w5 → ∀ j, w5.cell? ⟨w.heap.size, j, none⟩ = w4.cell? ⟨w.heap.size, j, none⟩) := Lib.hid fun w5 hf j => hf.cell (p := ⟨w.heap.size, j, none⟩) (Nat.lt_of_lt_of_le HS1.out FR4.out.size) (fun e => e.elim HBX.out fun e => absurd e.1 (Nat.not_le_of_lt HS1.out))
    have HK4 : Hid (DM.Ok { m.unit with waits := m.unit.waits ++ [c] }) := Lib.hid ⟨HK.out.unit.room0, HK.out.unit.room1, HK.out.unit.len, fun c' hc' => (List.mem_append.1 hc').elim (HK.out.unit.wait c') fun hc' => by rw [List.mem_singleton.1 hc']; exact ⟨hca, hp⟩, HK.out.unit.left0, HK.out.unit.left1⟩
    clear hw4 b0 b1 b2 b3 cA cAa m7 f7 hs1
    go_wp2_with fail
    go_region_held3 (fun w' => w'.cell? ⟨w.heap.size, 0, none⟩ = w4.cell? ⟨w.heap.size, 0, none⟩ ∧ w'.cell? ⟨w.heap.size, 1, none⟩ = w4.cell? ⟨w.heap.size, 1, none⟩ ∧ w'.cell? ⟨w.heap.size, 2, none⟩ = w4.cell? ⟨w.heap.size, 2, none⟩ ∧ w'.cell? ⟨w.heap.size, 3, none⟩ = w4.cell? ⟨w.heap.size, 3, none⟩) (go_keep)
      (first | (go_at_call 79; refine (do_any g 4 c.area c (.slice A n k) _ HK4.out (ext O w1 w4) bv _ _ w4.drew (V4.out.below (below_d1 (Below.refl _ _))) (.inr rfl) rfl hca hp (OwnS.drew X4.out) (HXA.out (3 + c.area) (by omega))).mono ?_; rintro e w5 ⟨rfl, bv5, hv5, hf5⟩; replace hf5 := Fr.undrew hf5; have k0 := HT.out w5 hf5 0; have k1 := HT.out w5 hf5 1; have k2 := HT.out w5 hf5 2; have k3 := HT.out w5 hf5 3; replace hv5 := Lib.hid hv5; replace hf5 := Lib.hid hf5))
    go_wp2
    go_ret
    have z1 := HS1.out
    have z4 := FR4.out.size
    have z5 := hf5.out.size
    refine ⟨rfl, ⟨bv5, _, _, hv5.out.mono fun q hq ho => ?_⟩, ?_⟩
    · rcases ho with (ho | ho) | ho
      · exact .inl ho
      · exact .inr ⟨by omega, hq⟩
      · exact .inr ⟨by have : w4.heap.size ≤ q := ho.1; omega, hq⟩
    · refine (((Fr.of_below (S := O) HD.out).trans F1.out (fun q _ e => by subst e; exact HG.out)).trans FR4.out (fun q _ e => ?_)).trans hf5.out (fun q hq e => ?_)
      · rcases e with rfl | e
        · exact HG.out
        · exact HOW.out q e
      · rcases e with e | e
        · exact e
        · omega

theorem wait_live (c : DChg) (A : Option Addr) (n k : Nat) (h : DiskV w O g m bv wv ws) (hok : m.Ok) (hd : m.dead = false) (hw : m.waits.length ≤ 1000) (hca : c.area < 3) (hp : c.pos + c.bytes.length ≤ 1048576) (hx : OB w 0 (.slice A n k) c.bytes) (hxO : ∀ q, (Value.slice A n k).ownBlock = some q → O q)
    (hxa : ∀ i, i < 6 → ∀ q, (Value.slice A n k).ownBlock = some q → (bv i).ownBlock ≠ some q) : Calls Tryd.prog 75 #[.pointer (some ⟨g, 0, none⟩), .agg #[.int .i64 (c.area : Int), .int .i64 (c.pos : Int), .slice A n k, .bool c.cuts]] w fun e w' => e = .returned .nilIface ∧ DiskAt w' (ext O w w') g (m.unit.wait c) ∧ Fr O w w' := by
  refine (wait_live0 (O := fun q => O q ∧ q < w.heap.size) c A n k (h.mono fun q hq ho => ⟨ho, hq⟩) hok hd hw hca hp hx (fun q hq => ⟨hxO q hq, (OB.lt hx q hq).2⟩) (fun e => Nat.lt_irrefl _ e.2) hxa).mono ?_
  rintro e w' ⟨rfl, ⟨bv', wv', ws', hv⟩, hf⟩
  exact ⟨rfl, ⟨bv', wv', ws', hv.mono fun q _ ho => ho.imp And.left id⟩, hf.mono fun q _ ho => ho.1⟩
end
end Go.Proofs.YtgiaifglkecdjaaDoor
