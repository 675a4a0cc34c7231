/- Layer 20 (store): apply. -/
import Derived.Test.YtfmagnpmjlppiaaGreatDoorStS
import Derived.Test.YtfmagnpmjlppiaaGreatDoorNam
import Derived.Test.YtfmagnpmjlppiaaGreatDoorTlvC
namespace Go.Proofs.YtfmagnpmjlppiaaGreatDoor
open Go.RowKit SO
theorem typ_no {w : World} {b b' : Nat} {cs cs' : Array Value} {T T' : TypeId} (hb : w.heap[b]? = some (.cells cs T (0, 0))) (e : b = b') (hc : w.heap[b']? = some (.cells cs' T' (0, 0))) (hT : T ≠ T') : False := by
 subst e
 exact hT (types_ne hb hc)
theorem info_ev : (Tryz.prog.info? 61).map (fun i => (i.zero, i.size, i.bytes)) = some (some (.agg #[.int .i64 0, .bool false, .int .i64 0, .string ⟨#[]⟩, .string ⟨#[]⟩, .int .i64 0, .slice none 0 0]), 7, 88) := by kernel_rfl
theorem step_append_e {ops : Array Oper} {o : Oper} {a : Act} {w : World} {K : Act → World → Prop} {Q : Exit → Act → World → Prop} {E : Prop} (hgd : o.guard = none) (s x : Operand)
  (ho : o.op = .call { callee := .builtin .append, args := #[s, x], argTypes := #[57, 57] })
  {base : Nat} {v : Value} {n : Nat} {ws : List Value} (hown : OwnS w base 61 7 v n ws) (hs : a.eval s = v)
  {xv : Value} {news : List Value} (hsrc : Src Tryz.prog 7 57 xv 1 news w) (hx : a.eval x = xv) (hbytes : n ≤ 1000000) (hbase : base ≤ w.heap.size)
  (h : ∀ v' w', OwnS w' base 61 7 v' (n + 1) (ws ++ news) → w.grownBy w' v.ownBlock → (v'.ownBlock = v.ownBlock ∨ v'.ownBlock = some w.heap.size) → K (a.put o.dst v') w') :
  if Region.wanted o (yielded ops a.tmps) = true then Oper.wp Tryz.prog o a w K Q else E := by
 obtain ⟨i0, hi, hz0, hz1, hz2⟩ := info_parts4 info_ev
 exact step_append_ownS hgd s x 57 57 ho i0 _ 88 Tryz.underlying57 hi hz0 hz1 hz2 rfl (by omega) hs hown xv 1 _ hx hsrc (by unfold maxLen; omega) (by omega) hbase fun v' w' h1 h2 h3 => h v' w' h1 h2 h3
def ecell1 (d : Bool) (r : Nat) (v : OV) : List Value := [.int .i64 (r : Int), .bool d, .int .i64 v.kind, .string v.space, .string v.name, .int .i64 v.ver, sl v]
theorem ecells_snoc (ys : List (Bool × (OV × ObM))) (d : Bool) (v : OV) (o : ObM) : ecells (ys ++ [(d, (v, o))]) = ecells ys ++ ecell1 d o.ver v := by simp [ecells, ecell1]
section
variable {w w' w0 : World} {Z Q : Nat → Prop} {g gl gs gt : Nat} {m : DM} {L : LM} {M : StM} {v nv : OV} {sh sh' : Code} {ev ev' : Value} {xs : List (ByteArray × (OV × ObM))} {ys : List (Bool × (OV × ObM))} {e : Bool × ObM}
/-- The object of the change as the events tell it. -/
def evObj (M : StM) (e : Bool × ObM) : ObM := if e.1 = true then { e.2 with data := M.was (keyO e.2) } else e.2
theorem app_evs (M : StM) (e : Bool × ObM) : (M.app e).evs = M.evs ++ [(e.1, evObj M e)] := by
 obtain ⟨d, o⟩ := e
 cases d <;> rfl
theorem evObj_ver (M : StM) (e : Bool × ObM) : (evObj M e).ver = e.2.ver := by
 unfold evObj
 split <;> rfl
def appX (xs : List (ByteArray × (OV × ObM))) (v : OV) (e : Bool × ObM) : List (ByteArray × (OV × ObM)) := if e.1 = true then rem klt (keyO e.2) xs else ins klt (keyO e.2) (v, e.2) xs
theorem SV.keeps (hV : SV w Z gl gs gt sh ev xs ys M) (hf : Fr (fun k => k = gs ∨ k = gt ∨ ev.ownBlock = some k) w w') {x : OV} {o : ObM} (h : IsO w x o) : IsO w' x o := by
 refine h.fr hf fun k hk hx => ?_
 obtain ⟨cur, hcur⟩ := own_type h.data hk
 rcases hx with rfl | rfl | hx
 ·exact absurd (types_ne hcur hV.cells) (by decide)
 ·obtain ⟨p, hp, -⟩ := hV.tab
  exact absurd (types_ne hcur hp) (by decide)
 ·obtain ⟨cur', hcur'⟩ := own_type hV.evs hx
  exact absurd (types_ne hcur hcur') (by decide)
theorem SV.applied (hV : SV w Z gl gs gt sh ev xs ys M) (hf : Fr (fun k => k = gs ∨ k = gt ∨ ev.ownBlock = some k) w w') (hc : M.Can e) (hv : IsO w v e.2)
  (row : w'.heap[gs]? = some (.cells #[.pointer (some ⟨gl, 0, none⟩), .pointer (some ⟨gt, 0, none⟩), .int .i64 (e.2.ver : Int), .int .i64 (M.base : Int), ev'] 85 (0, 0)))
  (tab : TabAt w' gt sh' ((appX xs v e).map fun x => (x.1, x.2.1))) (evs : OwnS w' 0 61 7 ev' (ys.length + 1) (ecells ys ++ ecell1 e.1 e.2.ver nv)) (hown : ∀ k, ev'.ownBlock = some k → ev.ownBlock = some k ∨ (w.heap.size ≤ k ∧ k < w'.heap.size))
  (hn : IsO w' nv (evObj M e)) (hnb : ∀ k, (sl nv).ownBlock = some k → w.heap.size ≤ k) :
  SV w' (fun k => Z k ∨ (w.heap.size ≤ k ∧ k < w'.heap.size) ∨ (sl v).ownBlock = some k) gl gs gt sh' ev' (appX xs v e) (ys ++ [(e.1, (nv, evObj M e))]) (M.app e) := by
 have hmem : ∀ x ∈ appX xs v e, x = (keyO e.2, (v, e.2)) ∨ x ∈ xs := fun x hx => by
  unfold appX at hx
  split at hx
  ·exact .inr (rem_sub.subset hx)
  ·exact ins_mem hx
 refine ⟨?_, tab, ?_, ?_, ?_, ?_, ?_, hV.ok.app hc, .inl hV.zs, .inl hV.zt, ?_, ?_, ?_⟩
 ·rw [app_rev, app_base]; exact row
 ·unfold StM.app appX
  split
  ·show rem klt _ M.tab = _
   rw [hV.tabM]
   exact rem_map (fun y : OV × ObM => y.2) _ _
  ·show ins klt _ _ M.tab = _
   rw [hV.tabM]
   exact ins_map (fun y : OV × ObM => y.2) _ (v, e.2) _
 ·intro x hx
  rcases hmem x hx with rfl | hx
  ·exact hV.keeps hf hv
  ·exact hV.keeps hf (hV.each x hx)
 ·rw [ecells_snoc, evObj_ver, List.length_append]; exact evs
 ·rw [app_evs, hV.evM, List.map_append]; rfl
 ·intro y hy
  rcases List.mem_append.1 hy with hy | hy
  ·exact hV.keeps hf (hV.eachE y hy)
  ·rw [List.mem_singleton.1 hy]; exact hn
 ·exact fun k hk => (hown k hk).elim (fun h => .inl (hV.ze k h)) fun h => .inr (.inl h)
 ·intro x hx k hk
  rcases hmem x hx with rfl | hx
  ·exact .inr (.inr hk)
  ·exact .inl (hV.zx x hx k hk)
 ·intro y hy k hk
  rcases List.mem_append.1 hy with hy | hy
  ·exact .inl (hV.zy y hy k hk)
  ·rw [List.mem_singleton.1 hy] at hk
   exact .inr (.inl ⟨hnb k hk, (hn.data.lt k hk).2⟩)

set_option maxHeartbeats 4000000 in
set_option maxRecDepth 100000 in
theorem apply_put (v : OV) (o : ObM) (h : SW w0 w Q g m gs L M) (hv : IsO w v o) (hX : ∀ k, (sl v).ownBlock = some k → ¬ Q k ∧ w0.heap.size ≤ k) (hc : M.Can (false, o)) (hl : M.tab.length ≤ 100000) (hl2 : M.evs.length ≤ 100000) :
  Calls Tryz.prog 36 #[.pointer (some ⟨gs, 0, none⟩), .agg #[.int .i64 (o.ver : Int), .bool false, .int .i64 v.kind, .string v.space, .string v.name, .int .i64 v.ver, (.slice v.A v.n v.c)]] w fun en w' => en = .returned (.tuple #[]) ∧ SW w0 w' (fun k => ext Q w w' k ∨ (sl v).ownBlock = some k) g m gs L (M.app (false, o)) ∧ Fr Q w w' := by
 obtain ⟨Z, gl, gt, sh, ev, xs, ys, hV, hZ, hU⟩ := h.use
 obtain ⟨w1, hw1⟩ : ∃ W, W = w.alloc (.cells #[.int .i64 (o.ver : Int), .bool false, .int .i64 v.kind, .string v.space, .string v.name, .int .i64 v.ver, (.slice v.A v.n v.c)] 61) := ⟨_, rfl⟩
 obtain ⟨B, hB⟩ : ∃ B, B = w.heap.size := ⟨_, rfl⟩
 have hb1 := (Below.refl w.heap.size w).alloc Kj (.cells #[.int .i64 (o.ver : Int), .bool false, .int .i64 v.kind, .string v.space, .string v.name, .int .i64 v.ver, (.slice v.A v.n v.c)] 61)
 have hr1 := heap_alloc_new w (.cells #[.int .i64 (o.ver : Int), .bool false, .int .i64 v.kind, .string v.space, .string v.name, .int .i64 v.ver, (.slice v.A v.n v.c)] 61)
 rw [← hw1] at hb1 hr1
 rw [← hB] at hr1
 have hkd : v.kind ≤ 9223372036854775807 := by have := hc.ok.parts; rw [hv.kind]; simp only at this; omega
 have hsp : v.space.size ≤ 1000 := by have := hc.ok.parts; rw [hv.space]; simp only at this; omega
 have hnm : v.name.size ≤ 1000 := by have := hc.ok.parts; rw [hv.name]; simp only at this; omega
 have hkey : keyB v.kind v.space v.name = keyO o := by rw [hv.kind, hv.space, hv.name]; rfl
 have HKey : Hid (Calls Tryz.prog 38 #[.agg #[.int .i64 v.kind, .string v.space, .string v.name, .int .i64 v.ver, .slice v.A v.n v.c]] w1 fun e w' => e = .returned (.string (keyO o)) ∧ Below w1.heap.size w1 w') := Hj (by rw [← hkey]; exact key_any v w1 hkd hsp hnm)
 have HBgs : Hid (B ≠ gs) := Hj fun e => by have := hV.lt; omega
 have HBgt : Hid (B ≠ gt) := Hj fun e => by have := hV.tab.lt; omega
 have HGG : Hid (gt ≠ gs) := Hj fun e => by
  obtain ⟨p, hp, -⟩ := hV.tab
  rw [e] at hp
  exact absurd (types_ne hp hV.cells) (by decide)
 have HK2 : Hid (∀ w2, Below w1.heap.size w1 w2 → w2.heap[gs]? = some (.cells #[.pointer (some ⟨gl, 0, none⟩), .pointer (some ⟨gt, 0, none⟩), .int .i64 (M.rev : Int), .int .i64 (M.base : Int), ev] 85 (0, 0)) ∧ w2.heap[B]? = some (.cells #[.int .i64 (o.ver : Int), .bool false, .int .i64 v.kind, .string v.space, .string v.name, .int .i64 v.ver, (.slice v.A v.n v.c)] 61 (0, 0))) := Hj fun w2 h2 =>
  ⟨(hV.below (hb1.trans (h2.mono hb1.size))).cells, (h2.block B (Cz hr1)).trans hr1⟩
 have HRis := Hj hV.ris
 have HLen : Hid ((xs.map fun x => (x.1, x.2.1)).length ≤ 1000000000) := Hj (by rw [List.length_map]; have h1 := hV.tabM; have := congrArg List.length h1; rw [List.length_map] at this; omega)
 have HYn : Hid (ys.length ≤ 1000000) := Hj (by have := congrArg List.length hV.evM; rw [List.length_map] at this; omega)
 have HNn : Hid (v.n ≤ 1000000) := Hj (by rw [hv.num]; have := hc.ok.data; simp only at this; omega)
 have HV := Hj hV
 have Hv := Hj hv
 have HU := Hj hU
 have HCan := Hj hc
 have HX := Hj hX
 have HZQ := Hj hZ
 have HB1 := Hj hb1
 have HW1 := Hj hw1
 have HBE := Hj hB
 clear hb1 hr1 hw1 hB hV h hc hl hl2 hkd hsp hnm hkey hv hU hX hZ
 go_enter Tryz.func36, Tryz.ntmps36
 go_wp2_with (go_at_call 38; rw [← HW1.out, ← HBE.out]; (with_reducible refine HKey.out.mono ?_); rintro e w2 ⟨rfl, hb2⟩; obtain ⟨hg2, hB2⟩ := HK2.out w2 hb2; have HG2 := Hj hg2; have HRB2 := Hj hB2; have HB2 := Hj hb2; have f2 : ∀ k, w2.frozen? ⟨gs, k, none⟩ = false := (fun k => Kx hg2); have g2c := Kq 2 hg2; have g2b := Kq 1 hB2; have g2a := Kq 0 hB2; simp at g2c g2b g2a; clear hb2 hg2 hB2)
 obtain ⟨wS, hwS⟩ : ∃ W, W = w2.setCell ⟨gs, 2, none⟩ (.int .i64 (o.ver : Int)) := ⟨_, rfl⟩
 have HGS : Hid (wS.heap[gs]? = some (.cells #[.pointer (some ⟨gl, 0, none⟩), .pointer (some ⟨gt, 0, none⟩), .int .i64 (o.ver : Int), .int .i64 (M.base : Int), ev] 85 (0, 0))) := Hj (by rw [hwS]; exact heap_setCell_same _ _ 2 _ _ (.int .i64 (o.ver : Int)) HG2.out)
 have HBS : Hid (wS.heap[B]? = some (.cells #[.int .i64 (o.ver : Int), .bool false, .int .i64 v.kind, .string v.space, .string v.name, .int .i64 v.ver, (.slice v.A v.n v.c)] 61 (0, 0))) := Hj (by rw [hwS]; exact (Below.heap_setCell w2 ⟨gs, 2, none⟩ _ B (fun e => HBgs.out e)).trans HRB2.out)
 have HFS : Hid (Fr (fun k => k = gs ∨ k = gt ∨ ev.ownBlock = some k) w wS) := Hj (by rw [hwS]; exact (Fr.of_below (S := fun k => k = gs ∨ k = gt ∨ ev.ownBlock = some k) (HB1.out.trans (HB2.out.mono HB1.out.size))).setCell (p := ⟨gs, 2, none⟩) (fun _ => .inl rfl) _)
 have HTS : Hid (TabAt wS gt sh (xs.map fun x => (x.1, x.2.1))) := Hj (by
  have hf : Fr (fun k => k = gs) w wS := (by rw [hwS]; exact (Fr.of_below (S := fun k => k = gs) (HB1.out.trans (HB2.out.mono HB1.out.size))).setCell (p := ⟨gs, 2, none⟩) (fun _ => rfl) _)
  exact HV.out.tab.fr hf HGG.out fun b cs hb e => typ_no hb e HV.out.cells (by decide))
 have HFg : Hid (Fr (fun k => k = gs) w wS) := Hj (by rw [hwS]; exact (Fr.of_below (S := fun k => k = gs) (HB1.out.trans (HB2.out.mono HB1.out.size))).setCell (p := ⟨gs, 2, none⟩) (fun _ => rfl) _)
 rw [← hwS]
 clear hwS f2 g2c g2b g2a
 have HS7 : Hid (wS.drew.cell? ⟨gs, 1, none⟩ = some (.pointer (some ⟨gt, 0, none⟩)) ∧ wS.drew.cell? ⟨B, 2, none⟩ = some (.int .i64 v.kind) ∧ wS.drew.cell? ⟨B, 3, none⟩ = some (.string v.space) ∧ wS.drew.cell? ⟨B, 4, none⟩ = some (.string v.name) ∧ wS.drew.cell? ⟨B, 5, none⟩ = some (.int .i64 v.ver) ∧ wS.drew.cell? ⟨B, 6, none⟩ = some (.slice v.A v.n v.c)) := Hj ⟨Kq 1 HGS.out, Kq 2 HBS.out, Kq 3 HBS.out, Kq 4 HBS.out, Kq 5 HBS.out, Kq 6 HBS.out⟩
 refine wp_region_noPanic ?_
 refine wp_region_held_drew (S := (fun w' => w'.cell? ⟨gs, 1, none⟩ = some (.pointer (some ⟨gt, 0, none⟩)) ∧ w'.cell? ⟨B, 2, none⟩ = some (.int .i64 v.kind) ∧ w'.cell? ⟨B, 3, none⟩ = some (.string v.space) ∧ w'.cell? ⟨B, 4, none⟩ = some (.string v.name) ∧ w'.cell? ⟨B, 5, none⟩ = some (.int .i64 v.ver) ∧ w'.cell? ⟨B, 6, none⟩ = some (.slice v.A v.n v.c))) (by kernel_rfl) ?_ (fun hHeld => ?_)
 ·exact HS7.out
 refine tk 0 hHeld ?_
 try simp only [pa]
 refine tk 1 hHeld ?_
 try simp only [pa]
 refine tk 2 hHeld ?_
 try simp only [pa]
 refine tk 3 hHeld ?_
 try simp only [pa]
 refine tk 4 hHeld ?_
 try simp only [pa]
 refine tk 5 hHeld ?_
 try simp only [pa]
 refine tk 6 hHeld ?_
 try simp only [pa]
 refine rd1 7 rfl (fun K hK => ?_)
 go_simp
 refine (Put_T gt (keyO o) v sh _ wS.drew (HTS.out.below ⟨rfl, rfl, rfl, Nat.le_refl _, fun _ _ => rfl⟩) HRis.out HLen.out).mono ?_
 rintro e w3 ⟨rfl, ht3, hf3⟩
 have HT3 : Hid (TabAt w3 gt (putS klt (keyO o) sh (xs.map fun x => (x.1, x.2.1))) ((appX xs v (false, o)).map fun x => (x.1, x.2.1))) := Hj (by
  have e1 : (appX xs v (false, o)).map (fun x => (x.1, x.2.1)) = ins klt (keyO o) v (xs.map fun x => (x.1, x.2.1)) := (ins_map (fun y : OV × ObM => y.1) (keyO o) (v, o) xs).symm
  rw [e1]; exact ht3)
 have HFP : Hid (Fr (fun i => i = gt) wS w3) := Hj ⟨hf3.os, hf3.tape, hf3.output, hf3.size, hf3.block⟩
 have HB3 : Hid (w3.heap[B]? = some (.cells #[.int .i64 (o.ver : Int), .bool false, .int .i64 v.kind, .string v.space, .string v.name, .int .i64 v.ver, (.slice v.A v.n v.c)] 61 (0, 0))) := Hj ((hf3.block B (Cz HBS.out) (fun e => HBgt.out e)).trans HBS.out)
 have HG3 : Hid (w3.heap[gs]? = some (.cells #[.pointer (some ⟨gl, 0, none⟩), .pointer (some ⟨gt, 0, none⟩), .int .i64 (o.ver : Int), .int .i64 (M.base : Int), ev] 85 (0, 0))) := Hj ((hf3.block gs (Cz HGS.out) (fun e => HGG.out e.symm)).trans HGS.out)
 have hS7b : w3.cell? ⟨gs, 1, none⟩ = some (.pointer (some ⟨gt, 0, none⟩)) ∧ w3.cell? ⟨B, 2, none⟩ = some (.int .i64 v.kind) ∧ w3.cell? ⟨B, 3, none⟩ = some (.string v.space) ∧ w3.cell? ⟨B, 4, none⟩ = some (.string v.name) ∧ w3.cell? ⟨B, 5, none⟩ = some (.int .i64 v.ver) ∧ w3.cell? ⟨B, 6, none⟩ = some (.slice v.A v.n v.c) := ⟨Kq 1 HG3.out, Kq 2 HB3.out, Kq 3 HB3.out, Kq 4 HB3.out, Kq 5 HB3.out, Kq 6 HB3.out⟩
 clear ht3 hf3
 refine hK.out _ _ ?_ (fun hHeld => ?_)
 ·exact hS7b
 clear hK K
 try simp only [pa]
 refine wpAnyH_done (by kernel_rfl) ?_ _
 refine NoPanic.normal ?_
 go_wp2
 obtain ⟨dat, hdat⟩ : ∃ d, d = o.data := ⟨_, rfl⟩
 have HEO : Hid ((evObj M (false, o)).data = dat) := Hj (by rw [hdat]; rfl)
 have HDat : Hid (RB w3.drew v.A v.n dat) := Hj (by rw [hdat]; exact ((HV.out.keeps ((HFS.out).trans HFP.out (fun _ _ h => .inr (.inl h))) Hv.out).rb).keep (Keeps.drew w3))
 clear hdat
 have HEVlt : Hid (∀ k, ev.ownBlock = some k → k < w.heap.size) := Hj fun k hk => (OwnS.lt HV.out.evs k hk).2
 have HF3 : Hid (Fr (fun k => k = gs ∨ k = gt ∨ ev.ownBlock = some k) w w3) := Hj ((HFS.out).trans HFP.out (fun _ _ h => .inr (.inl h)))
 have HOwn : Hid (OwnS w3 0 61 7 ev ys.length (ecells ys)) := Hj (OwnS.kept (OwnS.kept HV.out.evs HFg.out fun k hk e => (by obtain ⟨cur, hcur⟩ := own_type HV.out.evs hk; exact typ_no hcur e HV.out.cells (by decide))) HFP.out fun k hk e => (by obtain ⟨cur, hcur⟩ := own_type HV.out.evs hk; obtain ⟨p, hp, -⟩ := HV.out.tab; exact typ_no hcur e hp (by decide)))
 have HRB : Hid (∀ W, Below w3.heap.size w3 W → W.cell? ⟨B, 0, none⟩ = some (.int .i64 (o.ver : Int)) ∧ W.cell? ⟨B, 1, none⟩ = some (.bool false) ∧ W.cell? ⟨B, 2, none⟩ = some (.int .i64 v.kind) ∧ W.cell? ⟨B, 3, none⟩ = some (.string v.space) ∧ W.cell? ⟨B, 4, none⟩ = some (.string v.name) ∧ W.cell? ⟨B, 5, none⟩ = some (.int .i64 v.ver) ∧ W.cell? ⟨B, 6, none⟩ = some (.slice v.A v.n v.c)) := Hj fun W hW => by
  have hr := (hW.block B (Cz HB3.out)).trans HB3.out
  exact ⟨Kq 0 hr, Kq 1 hr, Kq 2 hr, Kq 3 hr, Kq 4 hr, Kq 5 hr, Kq 6 hr⟩
 have HEV : Hid (∀ W, Below w3.heap.size w3 W → W.cell? ⟨gs, 4, none⟩ = some ev) := Hj fun W hW => Kq 4 ((hW.block gs (Cz HG3.out)).trans HG3.out)
 have HRB8 : Hid (∀ wl w8, Below w3.heap.size w3 wl → wl.grownBy w8 ev.ownBlock → w8.heap[B]? = some (.cells #[.int .i64 (o.ver : Int), .bool false, .int .i64 v.kind, .string v.space, .string v.name, .int .i64 v.ver, (.slice v.A v.n v.c)] 61 (0, 0))) := Hj fun wl w8 hl hg => by
  have hlt := (Cz HB3.out)
  refine (hg.block B (Nat.lt_of_lt_of_le hlt hl.size) fun e => ?_).trans ((hl.block B hlt).trans HB3.out)
  have := HEVlt.out B e.symm
  rw [HBE.out] at this
  exact Nat.lt_irrefl _ this
 have HGR8 : Hid (∀ wl w8, Below w3.heap.size w3 wl → wl.grownBy w8 ev.ownBlock → w8.heap[gs]? = some (.cells #[.pointer (some ⟨gl, 0, none⟩), .pointer (some ⟨gt, 0, none⟩), .int .i64 (o.ver : Int), .int .i64 (M.base : Int), ev] 85 (0, 0))) := Hj fun wl w8 hl hg => by
  have hlt := (Cz HG3.out)
  refine (hg.block gs (Nat.lt_of_lt_of_le hlt hl.size) fun e => ?_).trans ((hl.block gs hlt).trans HG3.out)
  obtain ⟨cur, hcur⟩ := own_type HOwn.out e.symm
  exact absurd (types_ne hcur HG3.out) (by decide)
 have HRR8 : Hid (∀ w8 : World, w8.heap[B]? = some (.cells #[.int .i64 (o.ver : Int), .bool false, .int .i64 v.kind, .string v.space, .string v.name, .int .i64 v.ver, (.slice v.A v.n v.c)] 61 (0, 0)) → w8.cell? ⟨B, 0, none⟩ = some (.int .i64 (o.ver : Int)) ∧ w8.cell? ⟨B, 1, none⟩ = some (.bool false) ∧ w8.cell? ⟨B, 2, none⟩ = some (.int .i64 v.kind) ∧ w8.cell? ⟨B, 3, none⟩ = some (.string v.space) ∧ w8.cell? ⟨B, 4, none⟩ = some (.string v.name) ∧ w8.cell? ⟨B, 5, none⟩ = some (.int .i64 v.ver) ∧ w8.cell? ⟨B, 6, none⟩ = some (.slice v.A v.n v.c)) := Hj fun w8 hr =>
  ⟨Kq 0 hr, Kq 1 hr, Kq 2 hr, Kq 3 hr, Kq 4 hr, Kq 5 hr, Kq 6 hr⟩
 have HRS8 : Hid (∀ (w8 : World) (u : Value), w8.heap[B]? = some (.cells #[.int .i64 (o.ver : Int), .bool false, .int .i64 v.kind, .string v.space, .string v.name, .int .i64 v.ver, (.slice v.A v.n v.c)] 61 (0, 0)) → (w8.setCell ⟨gs, 4, none⟩ u).cell? ⟨B, 0, none⟩ = some (.int .i64 (o.ver : Int)) ∧ (w8.setCell ⟨gs, 4, none⟩ u).cell? ⟨B, 1, none⟩ = some (.bool false) ∧ (w8.setCell ⟨gs, 4, none⟩ u).cell? ⟨B, 2, none⟩ = some (.int .i64 v.kind) ∧ (w8.setCell ⟨gs, 4, none⟩ u).cell? ⟨B, 3, none⟩ = some (.string v.space) ∧ (w8.setCell ⟨gs, 4, none⟩ u).cell? ⟨B, 4, none⟩ = some (.string v.name) ∧ (w8.setCell ⟨gs, 4, none⟩ u).cell? ⟨B, 5, none⟩ = some (.int .i64 v.ver) ∧ (w8.setCell ⟨gs, 4, none⟩ u).cell? ⟨B, 6, none⟩ = some (.slice v.A v.n v.c)) := Hj fun w8 u h8 => by
  have hr := (Below.heap_setCell w8 ⟨gs, 4, none⟩ u B (fun e => HBgs.out e)).trans h8
  exact ⟨Kq 0 hr, Kq 1 hr, Kq 2 hr, Kq 3 hr, Kq 4 hr, Kq 5 hr, Kq 6 hr⟩
 have cw3 : w3.cell? ⟨gs, 4, none⟩ = some ev := HEV.out w3 (Below.refl _ _)
 refine wp_region_noPanic ?_
 refine wp_region_held_drew (S := (fun w' => w'.cell? ⟨B, 0, none⟩ = some (.int .i64 (o.ver : Int)) ∧ w'.cell? ⟨B, 1, none⟩ = some (.bool false) ∧ w'.cell? ⟨B, 2, none⟩ = some (.int .i64 v.kind) ∧ w'.cell? ⟨B, 3, none⟩ = some (.string v.space) ∧ w'.cell? ⟨B, 4, none⟩ = some (.string v.name) ∧ w'.cell? ⟨B, 5, none⟩ = some (.int .i64 v.ver) ∧ w'.cell? ⟨B, 6, none⟩ = some (.slice v.A v.n v.c))) (by kernel_rfl) ?_ (fun hHeld => ?_)
 ·exact HRB.out w3.drew ⟨rfl, rfl, rfl, Nat.le_refl _, fun _ _ => rfl⟩
 refine tk 0 hHeld ?_
 try simp only [pa]
 refine tk 1 hHeld ?_
 try simp only [pa]
 refine tk 2 hHeld ?_
 try simp only [pa]
 refine tk 3 hHeld ?_
 try simp only [pa]
 refine tk 5 hHeld ?_
 try simp only [pa]
 refine tk 6 hHeld ?_
 try simp only [pa]
 refine tk 7 hHeld ?_
 try simp only [pa]
 refine tk 8 hHeld ?_
 try simp only [pa]
 refine tk 9 hHeld ?_
 try simp only [pa]
 refine tk 10 hHeld ?_
 try simp only [pa]
 refine rd2 4 11 rfl rfl (fun K hK => ?_) (fun K hK => ?_)
 focus
  go_simp
  refine hK.out _ _ ?_ (fun hHeld => ?_)
  ·exact hHeld
  clear hK K
  try simp only [pa]
  refine rd1 11 rfl (fun K hK => ?_)
  go_simp
  refine (copied_obj ⟨v.kind, v.space, v.name, v.ver, v.A, v.n, v.c⟩ w3.drew dat HDat.out HNn.out).mono ?_
  rintro e wc ⟨A9, c9, rfl, ho9, hb9⟩
  have HBc : Hid (Below w3.heap.size w3 wc) := Hj ⟨hb9.os, hb9.tape, hb9.output, hb9.size, hb9.block⟩
  have HO9 : Hid (OB wc w3.heap.size (.slice A9 v.n c9) dat) := Hj ho9
  have hRc := HRB.out wc HBc.out
  have cev : wc.cell? ⟨gs, 4, none⟩ = some ev := HEV.out wc HBc.out
  clear ho9 hb9
  refine hK.out _ _ ?_ (fun hHeld => ?_)
  ·exact hRc
  clear hK K
  refine tk 12 hHeld ?_
  try simp only [pa]
  refine rd1 13 rfl (fun K hK => ?_)
  go_simp
  obtain ⟨wl, hwl⟩ : ∃ W, W = wc.alloc (.cells #[.int .i64 (o.ver : Int), .bool false, .int .i64 v.kind, .string v.space, .string v.name, .int .i64 v.ver, (.slice A9 v.n c9)] 61) := ⟨_, rfl⟩
  have hbl := (Below.refl wc.heap.size wc).alloc Kj (.cells #[.int .i64 (o.ver : Int), .bool false, .int .i64 v.kind, .string v.space, .string v.name, .int .i64 v.ver, (.slice A9 v.n c9)] 61)
  rw [← hwl] at hbl
  have HBl : Hid (Below w3.heap.size w3 wl) := Hj (HBc.out.trans (hbl.mono HBc.out.size))
  have HSrc : Hid (Src Tryz.prog 7 57 (.slice (some ⟨wc.heap.size, 0, none⟩) 1 1) 1 (ecell1 false o.ver ⟨v.kind, v.space, v.name, v.ver, A9, v.n, c9⟩) wl) := Hj (by
   have hn := heap_alloc_new wc (.cells #[.int .i64 (o.ver : Int), .bool false, .int .i64 v.kind, .string v.space, .string v.name, .int .i64 v.ver, (.slice A9 v.n c9)] 61)
   rw [← hwl] at hn
   refine Src.ofSlice _ Tryz.underlying57 _ _ 1 _ rfl (fun j u hu => World.news_of_block (cs := #[.int .i64 (o.ver : Int), .bool false, .int .i64 v.kind, .string v.space, .string v.name, .int .i64 v.ver, (.slice A9 v.n c9)]) hn j u hu) (fun u hu => ?_)
   simp only [ecell1, List.mem_cons, List.not_mem_nil, or_false] at hu
   rcases hu with rfl | rfl | rfl | rfl | rfl | rfl | rfl <;> rfl)
  have HOl : Hid (OB wl w3.heap.size (.slice A9 v.n c9) dat) := Hj (OB.below HO9.out hbl)
  have hRl := HRB.out wl HBl.out
  have cel : wl.cell? ⟨gs, 4, none⟩ = some ev := HEV.out wl HBl.out
  rw [← hwl]
  clear hwl hbl
  refine hK.out _ _ ?_ (fun hHeld => ?_)
  ·exact hRl
 rotate_right
 focus
  go_simp
  refine (copied_obj ⟨v.kind, v.space, v.name, v.ver, v.A, v.n, v.c⟩ w3.drew dat HDat.out HNn.out).mono ?_
  rintro e wc ⟨A9, c9, rfl, ho9, hb9⟩
  have HBc : Hid (Below w3.heap.size w3 wc) := Hj ⟨hb9.os, hb9.tape, hb9.output, hb9.size, hb9.block⟩
  have HO9 : Hid (OB wc w3.heap.size (.slice A9 v.n c9) dat) := Hj ho9
  have hRc := HRB.out wc HBc.out
  have cev : wc.cell? ⟨gs, 4, none⟩ = some ev := HEV.out wc HBc.out
  clear ho9 hb9
  refine hK.out _ _ ?_ (fun hHeld => ?_)
  ·exact hRc
  clear hK K
  refine tk 12 hHeld ?_
  try simp only [pa]
  refine rd2 4 13 rfl rfl (fun K hK => ?_) (fun K hK => ?_)
  focus
   go_simp
   refine hK.out _ _ ?_ (fun hHeld => ?_)
   ·exact hHeld
   clear hK K
   try simp only [pa]
   refine rd1 13 rfl (fun K hK => ?_)
   go_simp
   obtain ⟨wl, hwl⟩ : ∃ W, W = wc.alloc (.cells #[.int .i64 (o.ver : Int), .bool false, .int .i64 v.kind, .string v.space, .string v.name, .int .i64 v.ver, (.slice A9 v.n c9)] 61) := ⟨_, rfl⟩
   have hbl := (Below.refl wc.heap.size wc).alloc Kj (.cells #[.int .i64 (o.ver : Int), .bool false, .int .i64 v.kind, .string v.space, .string v.name, .int .i64 v.ver, (.slice A9 v.n c9)] 61)
   rw [← hwl] at hbl
   have HBl : Hid (Below w3.heap.size w3 wl) := Hj (HBc.out.trans (hbl.mono HBc.out.size))
   have HSrc : Hid (Src Tryz.prog 7 57 (.slice (some ⟨wc.heap.size, 0, none⟩) 1 1) 1 (ecell1 false o.ver ⟨v.kind, v.space, v.name, v.ver, A9, v.n, c9⟩) wl) := Hj (by
    have hn := heap_alloc_new wc (.cells #[.int .i64 (o.ver : Int), .bool false, .int .i64 v.kind, .string v.space, .string v.name, .int .i64 v.ver, (.slice A9 v.n c9)] 61)
    rw [← hwl] at hn
    refine Src.ofSlice _ Tryz.underlying57 _ _ 1 _ rfl (fun j u hu => World.news_of_block (cs := #[.int .i64 (o.ver : Int), .bool false, .int .i64 v.kind, .string v.space, .string v.name, .int .i64 v.ver, (.slice A9 v.n c9)]) hn j u hu) (fun u hu => ?_)
    simp only [ecell1, List.mem_cons, List.not_mem_nil, or_false] at hu
    rcases hu with rfl | rfl | rfl | rfl | rfl | rfl | rfl <;> rfl)
   have HOl : Hid (OB wl w3.heap.size (.slice A9 v.n c9) dat) := Hj (OB.below HO9.out hbl)
   have hRl := HRB.out wl HBl.out
   have cel : wl.cell? ⟨gs, 4, none⟩ = some ev := HEV.out wl HBl.out
   rw [← hwl]
   clear hwl hbl
   refine hK.out _ _ ?_ (fun hHeld => ?_)
   ·exact hRl
  rotate_right
  focus
   go_simp
   obtain ⟨wl, hwl⟩ : ∃ W, W = wc.alloc (.cells #[.int .i64 (o.ver : Int), .bool false, .int .i64 v.kind, .string v.space, .string v.name, .int .i64 v.ver, (.slice A9 v.n c9)] 61) := ⟨_, rfl⟩
   have hbl := (Below.refl wc.heap.size wc).alloc Kj (.cells #[.int .i64 (o.ver : Int), .bool false, .int .i64 v.kind, .string v.space, .string v.name, .int .i64 v.ver, (.slice A9 v.n c9)] 61)
   rw [← hwl] at hbl
   have HBl : Hid (Below w3.heap.size w3 wl) := Hj (HBc.out.trans (hbl.mono HBc.out.size))
   have HSrc : Hid (Src Tryz.prog 7 57 (.slice (some ⟨wc.heap.size, 0, none⟩) 1 1) 1 (ecell1 false o.ver ⟨v.kind, v.space, v.name, v.ver, A9, v.n, c9⟩) wl) := Hj (by
    have hn := heap_alloc_new wc (.cells #[.int .i64 (o.ver : Int), .bool false, .int .i64 v.kind, .string v.space, .string v.name, .int .i64 v.ver, (.slice A9 v.n c9)] 61)
    rw [← hwl] at hn
    refine Src.ofSlice _ Tryz.underlying57 _ _ 1 _ rfl (fun j u hu => World.news_of_block (cs := #[.int .i64 (o.ver : Int), .bool false, .int .i64 v.kind, .string v.space, .string v.name, .int .i64 v.ver, (.slice A9 v.n c9)]) hn j u hu) (fun u hu => ?_)
    simp only [ecell1, List.mem_cons, List.not_mem_nil, or_false] at hu
    rcases hu with rfl | rfl | rfl | rfl | rfl | rfl | rfl <;> rfl)
   have HOl : Hid (OB wl w3.heap.size (.slice A9 v.n c9) dat) := Hj (OB.below HO9.out hbl)
   have hRl := HRB.out wl HBl.out
   have cel : wl.cell? ⟨gs, 4, none⟩ = some ev := HEV.out wl HBl.out
   rw [← hwl]
   clear hwl hbl
   refine hK.out _ _ ?_ (fun hHeld => ?_)
   ·exact hRl
   clear hK K
   try simp only [pa]
   refine rd1 4 rfl (fun K hK => ?_)
   go_simp
   refine hK.out _ _ ?_ (fun hHeld => ?_)
   ·exact hHeld
 all_goals
  clear hK K
  try simp only [pa]
  refine rd1 14 rfl (fun K hK => ?_)
  refine step_append_e rfl (.tmp 48) (.tmp 57) (by rfl) (OwnS.below HOwn.out HBl.out) (by rfl) HSrc.out (by rfl) HYn.out (Nat.zero_le _) ?_
  intro v8 w8 hown8 hgr8 hat8
  have Own8 := Hj hown8
  have Gr8 := Hj hgr8
  have At8 := Hj hat8
  have hRB8 := HRB8.out wl w8 HBl.out hgr8
  have hG8 := HGR8.out wl w8 HBl.out hgr8
  have f8 : ∀ k, w8.frozen? ⟨gs, k, none⟩ = false := fun k => Kx hG8
  have c8 := Kq 4 hG8
  simp at c8
  have HG8 := Hj hG8
  have HR8b : Hid (∀ u, (w8.setCell ⟨gs, 4, none⟩ u).cell? ⟨B, 0, none⟩ = some (.int .i64 (o.ver : Int)) ∧ (w8.setCell ⟨gs, 4, none⟩ u).cell? ⟨B, 1, none⟩ = some (.bool false) ∧ (w8.setCell ⟨gs, 4, none⟩ u).cell? ⟨B, 2, none⟩ = some (.int .i64 v.kind) ∧ (w8.setCell ⟨gs, 4, none⟩ u).cell? ⟨B, 3, none⟩ = some (.string v.space) ∧ (w8.setCell ⟨gs, 4, none⟩ u).cell? ⟨B, 4, none⟩ = some (.string v.name) ∧ (w8.setCell ⟨gs, 4, none⟩ u).cell? ⟨B, 5, none⟩ = some (.int .i64 v.ver) ∧ (w8.setCell ⟨gs, 4, none⟩ u).cell? ⟨B, 6, none⟩ = some (.slice v.A v.n v.c)) := Hj fun u => HRS8.out w8 u hRB8
  have hRS := HRR8.out w8 hRB8
  obtain ⟨A8, k8, rfl, -, -⟩ := OwnS.form hown8
  clear hown8 hgr8 hat8 hG8 hRB8
  refine hK.out _ _ ?_ (fun hHeld => ?_)
  ·exact hRS
  clear hK K
  try simp only [pa]
  refine tk 15 hHeld ?_
  try simp only [pa]
  refine tk 16 hHeld ?_
  try simp only [pa]
  refine rd1 17 rfl (fun K hK => ?_)
  go_simp
  refine hK.out _ _ ?_ (fun hHeld => ?_)
  ·exact HR8b.out _
  clear hK K
  refine wpAnyH_done (by kernel_rfl) ?_ _
  refine NoPanic.normal ?_
  go_wp2
  have hFF : Fr (fun k => k = gs ∨ k = gt ∨ ev.ownBlock = some k) w (w8.setCell ⟨gs, 4, none⟩ (.slice A8 (ys.length + 1) k8)) := ((HF3.out.trans (Fr.of_below (S := fun k => k = gs ∨ k = gt ∨ ev.ownBlock = some k) HBl.out) (fun _ _ h => h)).trans (Fr.of_grown Gr8.out) (fun _ _ h => .inr (.inr h.symm))).setCell (p := ⟨gs, 4, none⟩) (fun _ => .inl rfl) _
  have hOwF : OwnS (w8.setCell ⟨gs, 4, none⟩ (.slice A8 (ys.length + 1) k8)) 0 61 7 (.slice A8 (ys.length + 1) k8) (ys.length + 1) (ecells ys ++ ecell1 false o.ver ⟨v.kind, v.space, v.name, v.ver, A9, v.n, c9⟩) := OwnS.kept Own8.out ((Fr.refl (fun k => k = gs) w8).setCell (p := ⟨gs, 4, none⟩) (fun _ => rfl) _) fun k hk e => by
   obtain ⟨cur, hcur⟩ := own_type Own8.out hk
   rw [e] at hcur
   exact absurd (types_ne hcur HG8.out) (by decide)
  have hO8 : OB w8 w3.heap.size (.slice A9 v.n c9) dat := OwnS.kept HOl.out (Fr.of_grown Gr8.out) fun k hk e => by
   obtain ⟨cur, hcur⟩ := own_type HOl.out hk
   obtain ⟨cur', hcur'⟩ := own_type (OwnS.below HOwn.out HBl.out) e.symm
   exact absurd (types_ne hcur hcur') (by decide)
  have hOF : OB (w8.setCell ⟨gs, 4, none⟩ (.slice A8 (ys.length + 1) k8)) w3.heap.size (.slice A9 v.n c9) dat := OB.other hO8 HG8.out (by decide)
  have hTF : TabAt (w8.setCell ⟨gs, 4, none⟩ (.slice A8 (ys.length + 1) k8)) gt (putS klt (keyO o) sh (xs.map fun x => (x.1, x.2.1))) ((appX xs v (false, o)).map fun x => (x.1, x.2.1)) := by
   have hf : Fr (fun k => k = gs ∨ ev.ownBlock = some k) w3 (w8.setCell ⟨gs, 4, none⟩ (.slice A8 (ys.length + 1) k8)) := ((Fr.of_below (S := fun k => k = gs ∨ ev.ownBlock = some k) HBl.out).trans (Fr.of_grown Gr8.out) (fun _ _ h => .inr h.symm)).setCell (p := ⟨gs, 4, none⟩) (fun _ => .inl rfl) _
   have h3 := HT3.out
   refine h3.fr hf (fun e => e.elim HGG.out fun e => ?_) fun b cs hb e => e.elim (fun e => typ_no hb e HG3.out (by decide)) fun e => ?_
   ·obtain ⟨p, hp, -⟩ := h3
    obtain ⟨cur, hcur⟩ := own_type HOwn.out e
    exact absurd (types_ne hcur hp) (by decide)
   ·obtain ⟨cur, hcur⟩ := own_type HOwn.out e
    exact absurd (types_ne hcur hb) (by decide)
  have hnw : w.heap.size ≤ w3.heap.size := HF3.out.size
  have hown8 : ∀ k, (Value.slice A8 (ys.length + 1) k8).ownBlock = some k → ev.ownBlock = some k ∨ (w.heap.size ≤ k ∧ k < (w8.setCell ⟨gs, 4, none⟩ (.slice A8 (ys.length + 1) k8)).heap.size) := fun k hk => by
   rcases At8.out with e | e
   ·exact .inl (by rw [← e]; exact hk)
   ·rw [e] at hk
    injection hk with hk
    have h1 := (OwnS.lt hOwF k (by rw [e]; exact congrArg some hk)).2
    exact .inr ⟨by rw [← hk]; exact Kv hnw HBl.out.size, h1⟩
  have hdl : dat.length = v.n := HDat.out.1
  have hSV := HV.out.applied (e := (false, o)) (nv := ⟨v.kind, v.space, v.name, v.ver, A9, v.n, c9⟩) hFF HCan.out Hv.out (by exact heap_setCell_same _ _ 4 _ _ (.slice A8 (ys.length + 1) k8) HG8.out) hTF hOwF hown8 ⟨Hv.out.kind, Hv.out.space, Hv.out.name, Hv.out.ver, (by rw [HEO.out]; exact hdl.symm), (by rw [HEO.out]; exact OB.mono hOF (Nat.zero_le _))⟩ (fun k hk => Kv hnw (OwnS.lt hOF k hk).1)
  obtain ⟨hr1, hr2⟩ := HU.out _ _ _ _ _ _ _ (fun k => (sl v).ownBlock = some k) hSV (hFF.mono fun i _ hi => hi.elim (fun e => by rw [e]; exact HV.out.zs) fun hi => hi.elim (fun e => by rw [e]; exact HV.out.zt) (HV.out.ze i)) (fun k hk => ⟨(HX.out k hk).1, (HX.out k hk).2, (Hv.out.data.lt k hk).2⟩) (fun k hk => hk)
  exact bodyPost_end (results_none rfl _ _ _) rfl ⟨rfl, hr1, hr2⟩

set_option maxHeartbeats 4000000 in
set_option maxRecDepth 100000 in
theorem apply_del (v : OV) (o : ObM) (h : SW w0 w Q g m gs L M) (hv : IsO w v o) (hX : ∀ k, (sl v).ownBlock = some k → ¬ Q k ∧ w0.heap.size ≤ k) (hc : M.Can (true, o)) (hl : M.tab.length ≤ 100000) (hl2 : M.evs.length ≤ 100000) :
  Calls Tryz.prog 36 #[.pointer (some ⟨gs, 0, none⟩), .agg #[.int .i64 (o.ver : Int), .bool true, .int .i64 v.kind, .string v.space, .string v.name, .int .i64 v.ver, (.slice v.A v.n v.c)]] w fun en w' => en = .returned (.tuple #[]) ∧ SW w0 w' (fun k => ext Q w w' k ∨ (sl v).ownBlock = some k) g m gs L (M.app (true, o)) ∧ Fr Q w w' := by
 obtain ⟨Z, gl, gt, sh, ev, xs, ys, hV, hZ, hU⟩ := h.use
 obtain ⟨w1, hw1⟩ : ∃ W, W = w.alloc (.cells #[.int .i64 (o.ver : Int), .bool true, .int .i64 v.kind, .string v.space, .string v.name, .int .i64 v.ver, (.slice v.A v.n v.c)] 61) := ⟨_, rfl⟩
 obtain ⟨B, hB⟩ : ∃ B, B = w.heap.size := ⟨_, rfl⟩
 have hb1 := (Below.refl w.heap.size w).alloc Kj (.cells #[.int .i64 (o.ver : Int), .bool true, .int .i64 v.kind, .string v.space, .string v.name, .int .i64 v.ver, (.slice v.A v.n v.c)] 61)
 have hr1 := heap_alloc_new w (.cells #[.int .i64 (o.ver : Int), .bool true, .int .i64 v.kind, .string v.space, .string v.name, .int .i64 v.ver, (.slice v.A v.n v.c)] 61)
 rw [← hw1] at hb1 hr1
 rw [← hB] at hr1
 have hkd : v.kind ≤ 9223372036854775807 := by have := hc.ok.parts; rw [hv.kind]; simp only at this; omega
 have hsp : v.space.size ≤ 1000 := by have := hc.ok.parts; rw [hv.space]; simp only at this; omega
 have hnm : v.name.size ≤ 1000 := by have := hc.ok.parts; rw [hv.name]; simp only at this; omega
 have hkey : keyB v.kind v.space v.name = keyO o := by rw [hv.kind, hv.space, hv.name]; rfl
 have HKey : Hid (Calls Tryz.prog 38 #[.agg #[.int .i64 v.kind, .string v.space, .string v.name, .int .i64 v.ver, .slice v.A v.n v.c]] w1 fun e w' => e = .returned (.string (keyO o)) ∧ Below w1.heap.size w1 w') := Hj (by rw [← hkey]; exact key_any v w1 hkd hsp hnm)
 have HBgs : Hid (B ≠ gs) := Hj fun e => by have := hV.lt; omega
 have HBgt : Hid (B ≠ gt) := Hj fun e => by have := hV.tab.lt; omega
 have HGG : Hid (gt ≠ gs) := Hj fun e => by
  obtain ⟨p, hp, -⟩ := hV.tab
  rw [e] at hp
  exact absurd (types_ne hp hV.cells) (by decide)
 have hlk0 := (hc.del rfl).2
 obtain ⟨o', hlk⟩ : ∃ o', look klt (keyO o) M.tab = some o' := Option.isSome_iff_exists.1 hlk0
 have hlx : look klt (keyO o) (xs.map fun x => (x.1, x.2.2)) = some o' := by rw [← hV.tabM]; exact hlk
 rw [look_map (fun y : OV × ObM => y.2)] at hlx
 obtain ⟨⟨dv, oo⟩, hxe, hoo⟩ := Option.map_eq_some_iff.1 hlx
 simp only at hoo
 subst hoo
 have HLk : Hid (look klt (keyO o) (xs.map fun x => (x.1, x.2.1)) = some dv) := Hj (by rw [look_map (fun y : OV × ObM => y.1), hxe]; rfl)
 obtain ⟨k', hmem⟩ := look_in hxe
 have HIs : Hid (IsO w dv oo) := Hj (hV.each _ hmem)
 have HWas : Hid ((evObj M (true, o)).data = oo.data) := Hj (by show M.was (keyO o) = _; unfold StM.was; rw [hlk])
 have HK2 : Hid (∀ w2, Below w1.heap.size w1 w2 → w2.heap[gs]? = some (.cells #[.pointer (some ⟨gl, 0, none⟩), .pointer (some ⟨gt, 0, none⟩), .int .i64 (M.rev : Int), .int .i64 (M.base : Int), ev] 85 (0, 0)) ∧ w2.heap[B]? = some (.cells #[.int .i64 (o.ver : Int), .bool true, .int .i64 v.kind, .string v.space, .string v.name, .int .i64 v.ver, (.slice v.A v.n v.c)] 61 (0, 0))) := Hj fun w2 h2 =>
  ⟨(hV.below (hb1.trans (h2.mono hb1.size))).cells, (h2.block B (Cz hr1)).trans hr1⟩
 have HRis := Hj hV.ris
 have HLen : Hid ((xs.map fun x => (x.1, x.2.1)).length ≤ 1000000000) := Hj (by rw [List.length_map]; have h1 := hV.tabM; have := congrArg List.length h1; rw [List.length_map] at this; omega)
 have HYn : Hid (ys.length ≤ 1000000) := Hj (by have := congrArg List.length hV.evM; rw [List.length_map] at this; omega)
 have HNn : Hid (dv.n ≤ 1000000) := Hj (by have h2 : (k', oo) ∈ M.tab := (by rw [hV.tabM]; exact List.mem_map.2 ⟨_, hmem, rfl⟩); have h3 := (hV.ok.tab.each _ h2).2.1.data; rw [HIs.out.num]; simp only at h3; omega)
 have HV := Hj hV
 have Hv := Hj hv
 have HU := Hj hU
 have HCan := Hj hc
 have HX := Hj hX
 have HZQ := Hj hZ
 have HB1 := Hj hb1
 have HW1 := Hj hw1
 have HBE := Hj hB
 clear hb1 hr1 hw1 hB hV h hc hl hl2 hkd hsp hnm hkey hv hU hX hZ hlk0 hlk hlx hxe hmem
 go_enter Tryz.func36, Tryz.ntmps36
 go_wp2_with (first
  | (go_at_call 38; rw [← HW1.out, ← HBE.out]; (with_reducible refine HKey.out.mono ?_); rintro e w2 ⟨rfl, hb2⟩; obtain ⟨hg2, hB2⟩ := HK2.out w2 hb2; have HG2 := Hj hg2; have HRB2 := Hj hB2; have HB2 := Hj hb2; have f2 : ∀ k, w2.frozen? ⟨gs, k, none⟩ = false := (fun k => Kx hg2); have g2c := Kq 2 hg2; have g2b := Kq 1 hB2; have g2a := Kq 0 hB2; have g2t := Kq 1 hg2; simp at g2c g2b g2a g2t; clear hb2 hg2 hB2)
  | (go_at_call 37; go_loud (
    obtain ⟨wS, hwS⟩ : ∃ W, W = w2.setCell ⟨gs, 2, none⟩ (.int .i64 (o.ver : Int)) := ⟨_, rfl⟩
    have HGS : Hid (wS.heap[gs]? = some (.cells #[.pointer (some ⟨gl, 0, none⟩), .pointer (some ⟨gt, 0, none⟩), .int .i64 (o.ver : Int), .int .i64 (M.base : Int), ev] 85 (0, 0))) := Hj (by rw [hwS]; exact heap_setCell_same _ _ 2 _ _ (.int .i64 (o.ver : Int)) HG2.out)
    have HBS : Hid (wS.heap[B]? = some (.cells #[.int .i64 (o.ver : Int), .bool true, .int .i64 v.kind, .string v.space, .string v.name, .int .i64 v.ver, (.slice v.A v.n v.c)] 61 (0, 0))) := Hj (by rw [hwS]; exact (Below.heap_setCell w2 ⟨gs, 2, none⟩ _ B (fun e => HBgs.out e)).trans HRB2.out)
    have HFS : Hid (Fr (fun k => k = gs ∨ k = gt ∨ ev.ownBlock = some k) w wS) := Hj (by rw [hwS]; exact (Fr.of_below (S := fun k => k = gs ∨ k = gt ∨ ev.ownBlock = some k) (HB1.out.trans (HB2.out.mono HB1.out.size))).setCell (p := ⟨gs, 2, none⟩) (fun _ => .inl rfl) _)
    have HTS : Hid (TabAt wS gt sh (xs.map fun x => (x.1, x.2.1))) := Hj (by
     have hf : Fr (fun k => k = gs) w wS := (by rw [hwS]; exact (Fr.of_below (S := fun k => k = gs) (HB1.out.trans (HB2.out.mono HB1.out.size))).setCell (p := ⟨gs, 2, none⟩) (fun _ => rfl) _)
     exact HV.out.tab.fr hf HGG.out fun b cs hb e => typ_no hb e HV.out.cells (by decide))
    have HFg : Hid (Fr (fun k => k = gs) w wS) := Hj (by rw [hwS]; exact (Fr.of_below (S := fun k => k = gs) (HB1.out.trans (HB2.out.mono HB1.out.size))).setCell (p := ⟨gs, 2, none⟩) (fun _ => rfl) _)
    rw [← hwS]
    clear hwS f2 g2c g2b g2a g2t
    (with_reducible refine (Get_some gt (keyO o) dv sh _ wS HTS.out HRis.out HLk.out).mono ?_)
    rintro e w4 ⟨rfl, hb4⟩
    have HB4 := Hj hb4
    have HRB4 : Hid (w4.heap[B]? = some (.cells #[.int .i64 (o.ver : Int), .bool true, .int .i64 v.kind, .string v.space, .string v.name, .int .i64 v.ver, (.slice v.A v.n v.c)] 61 (0, 0))) := Hj ((hb4.block B (Cz HBS.out)).trans HBS.out)
    have HRG4 : Hid (w4.heap[gs]? = some (.cells #[.pointer (some ⟨gl, 0, none⟩), .pointer (some ⟨gt, 0, none⟩), .int .i64 (o.ver : Int), .int .i64 (M.base : Int), ev] 85 (0, 0))) := Hj ((hb4.block gs (Cz HGS.out)).trans HGS.out)
    have HA4 : Hid (∀ ob, (w4.alloc ob).heap[B]? = some (.cells #[.int .i64 (o.ver : Int), .bool true, .int .i64 v.kind, .string v.space, .string v.name, .int .i64 v.ver, (.slice v.A v.n v.c)] 61 (0, 0)) ∧ (w4.alloc ob).heap[gs]? = some (.cells #[.pointer (some ⟨gl, 0, none⟩), .pointer (some ⟨gt, 0, none⟩), .int .i64 (o.ver : Int), .int .i64 (M.base : Int), ev] 85 (0, 0))) := Hj fun ob => (by
     have h := (Below.refl w4.heap.size w4).alloc Kj ob
     exact ⟨(h.block B (Cz HRB4.out)).trans HRB4.out, (h.block gs (Cz HRG4.out)).trans HRG4.out⟩)
    have a46 : ∀ ob, (w4.alloc ob).cell? ⟨B, 6, none⟩ = some (.slice v.A v.n v.c) := (fun ob => Kq 6 (HA4.out ob).1)
    have af6 : ∀ ob k, (w4.alloc ob).frozen? ⟨B, k, none⟩ = false := (fun ob k => Kx (HA4.out ob).1)
    have a41 : ∀ ob, (w4.alloc ob).cell? ⟨gs, 1, none⟩ = some (.pointer (some ⟨gt, 0, none⟩)) := (fun ob => Kq 1 (HA4.out ob).2)
    clear hb4))
  | (go_at_call 86; go_loud (
    obtain ⟨wD, hwD⟩ : ∃ W, W = (w4.alloc (.cells #[.int .i64 dv.kind, .string dv.space, .string dv.name, .int .i64 dv.ver, .slice dv.A dv.n dv.c] 26)).setCell ⟨B, 6, none⟩ (.slice dv.A dv.n dv.c) := ⟨_, rfl⟩
    have hBD : wD.heap[B]? = some (.cells #[.int .i64 (o.ver : Int), .bool true, .int .i64 v.kind, .string v.space, .string v.name, .int .i64 v.ver, (.slice dv.A dv.n dv.c)] 61 (0, 0)) := (by rw [hwD]; exact heap_setCell_same _ _ 6 _ _ (.slice dv.A dv.n dv.c) (HA4.out _).1)
    have HBD := Hj hBD
    have HGD : Hid (wD.heap[gs]? = some (.cells #[.pointer (some ⟨gl, 0, none⟩), .pointer (some ⟨gt, 0, none⟩), .int .i64 (o.ver : Int), .int .i64 (M.base : Int), ev] 85 (0, 0))) := Hj (by rw [hwD]; exact (Below.heap_setCell _ ⟨B, 6, none⟩ _ gs (fun e => HBgs.out e.symm)).trans (HA4.out _).2)
    have HFd : Hid (Fr (fun k => k = B) wS wD) := Hj (by rw [hwD]; exact ((Fr.of_below (S := fun k => k = B) HB4.out).alloc _).setCell (p := ⟨B, 6, none⟩) (fun _ => rfl) _)
    have HTD : Hid (TabAt wD gt sh (xs.map fun x => (x.1, x.2.1))) := Hj (HTS.out.fr HFd.out (fun e => HBgt.out e.symm) fun b cs hb e => typ_no hb e HBS.out (by decide))
    have HFe : Hid (Fr (fun k => k = gs ∨ k = B) w wD) := Hj (HFg.out.mono (fun _ _ h => .inl h) |>.trans HFd.out (fun _ _ h => .inr h))
    have HFD : Hid (Fr (fun k => k = gs ∨ k = gt ∨ ev.ownBlock = some k) w wD) := Hj (HFg.out.trans HFd.out (fun i hi h => absurd hi (by rw [h, HBE.out]; exact Nat.lt_irrefl _)) |>.mono fun _ _ h => .inl h)
    rw [← hwD]
    (with_reducible refine (Del_T gt (keyO o) sh _ wD HTD.out HRis.out HLen.out).mono ?_)
    rintro e w3 ⟨rfl, ht3, hf3⟩
    have HT3 : Hid (TabAt w3 gt (delS klt (keyO o) sh (xs.map fun x => (x.1, x.2.1))) ((appX xs v (true, o)).map fun x => (x.1, x.2.1))) := Hj (by
     have e1 : (appX xs v (true, o)).map (fun x => (x.1, x.2.1)) = rem klt (keyO o) (xs.map fun x => (x.1, x.2.1)) := (rem_map (fun y : OV × ObM => y.1) (keyO o) xs).symm
     rw [e1]; exact ht3)
    have HFP : Hid (Fr (fun i => i = gt) wD w3) := Hj hf3
    have HB3 : Hid (w3.heap[B]? = some (.cells #[.int .i64 (o.ver : Int), .bool true, .int .i64 v.kind, .string v.space, .string v.name, .int .i64 v.ver, (.slice dv.A dv.n dv.c)] 61 (0, 0))) := Hj ((hf3.block B (Cz HBD.out) (fun e => HBgt.out e)).trans HBD.out)
    have HG3 : Hid (w3.heap[gs]? = some (.cells #[.pointer (some ⟨gl, 0, none⟩), .pointer (some ⟨gt, 0, none⟩), .int .i64 (o.ver : Int), .int .i64 (M.base : Int), ev] 85 (0, 0))) := Hj ((hf3.block gs (Cz HGD.out) (fun e => HGG.out e.symm)).trans HGD.out)
    clear ht3 hf3 hwD hBD a46 af6 a41))
  | fail)
 obtain ⟨dat, hdat⟩ : ∃ d, d = oo.data := ⟨_, rfl⟩
 have HEO : Hid ((evObj M (true, o)).data = dat) := Hj (by rw [hdat]; exact HWas.out)
 have HDat : Hid (RB w3.drew dv.A dv.n dat) := Hj (by rw [hdat]; exact ((HV.out.keeps (HFD.out.trans HFP.out (fun _ _ h => .inr (.inl h))) HIs.out).rb).keep (Keeps.drew w3))
 clear hdat
 have HEVlt : Hid (∀ k, ev.ownBlock = some k → k < w.heap.size) := Hj fun k hk => (OwnS.lt HV.out.evs k hk).2
 have HF3 : Hid (Fr (fun k => k = gs ∨ k = gt ∨ ev.ownBlock = some k) w w3) := Hj (HFD.out.trans HFP.out (fun _ _ h => .inr (.inl h)))
 have HOwn : Hid (OwnS w3 0 61 7 ev ys.length (ecells ys)) := Hj (OwnS.kept (OwnS.kept HV.out.evs HFe.out fun k hk e => (by obtain ⟨cur, hcur⟩ := own_type HV.out.evs hk; exact e.elim (fun e => typ_no hcur e HV.out.cells (by decide)) fun e => (by have h := (OwnS.lt HV.out.evs k hk).2; rw [e, HBE.out] at h; exact Nat.lt_irrefl _ h))) HFP.out fun k hk e => (by obtain ⟨cur, hcur⟩ := own_type HV.out.evs hk; obtain ⟨p, hp, -⟩ := HV.out.tab; exact typ_no hcur e hp (by decide)))
 have HRB : Hid (∀ W, Below w3.heap.size w3 W → W.cell? ⟨B, 0, none⟩ = some (.int .i64 (o.ver : Int)) ∧ W.cell? ⟨B, 1, none⟩ = some (.bool true) ∧ W.cell? ⟨B, 2, none⟩ = some (.int .i64 v.kind) ∧ W.cell? ⟨B, 3, none⟩ = some (.string v.space) ∧ W.cell? ⟨B, 4, none⟩ = some (.string v.name) ∧ W.cell? ⟨B, 5, none⟩ = some (.int .i64 v.ver) ∧ W.cell? ⟨B, 6, none⟩ = some (.slice dv.A dv.n dv.c)) := Hj fun W hW => by
  have hr := (hW.block B (Cz HB3.out)).trans HB3.out
  exact ⟨Kq 0 hr, Kq 1 hr, Kq 2 hr, Kq 3 hr, Kq 4 hr, Kq 5 hr, Kq 6 hr⟩
 have HEV : Hid (∀ W, Below w3.heap.size w3 W → W.cell? ⟨gs, 4, none⟩ = some ev) := Hj fun W hW => Kq 4 ((hW.block gs (Cz HG3.out)).trans HG3.out)
 have HRB8 : Hid (∀ wl w8, Below w3.heap.size w3 wl → wl.grownBy w8 ev.ownBlock → w8.heap[B]? = some (.cells #[.int .i64 (o.ver : Int), .bool true, .int .i64 v.kind, .string v.space, .string v.name, .int .i64 v.ver, (.slice dv.A dv.n dv.c)] 61 (0, 0))) := Hj fun wl w8 hl hg => by
  have hlt := (Cz HB3.out)
  refine (hg.block B (Nat.lt_of_lt_of_le hlt hl.size) fun e => ?_).trans ((hl.block B hlt).trans HB3.out)
  have := HEVlt.out B e.symm
  rw [HBE.out] at this
  exact Nat.lt_irrefl _ this
 have HGR8 : Hid (∀ wl w8, Below w3.heap.size w3 wl → wl.grownBy w8 ev.ownBlock → w8.heap[gs]? = some (.cells #[.pointer (some ⟨gl, 0, none⟩), .pointer (some ⟨gt, 0, none⟩), .int .i64 (o.ver : Int), .int .i64 (M.base : Int), ev] 85 (0, 0))) := Hj fun wl w8 hl hg => by
  have hlt := (Cz HG3.out)
  refine (hg.block gs (Nat.lt_of_lt_of_le hlt hl.size) fun e => ?_).trans ((hl.block gs hlt).trans HG3.out)
  obtain ⟨cur, hcur⟩ := own_type HOwn.out e.symm
  exact absurd (types_ne hcur HG3.out) (by decide)
 have HRR8 : Hid (∀ w8 : World, w8.heap[B]? = some (.cells #[.int .i64 (o.ver : Int), .bool true, .int .i64 v.kind, .string v.space, .string v.name, .int .i64 v.ver, (.slice dv.A dv.n dv.c)] 61 (0, 0)) → w8.cell? ⟨B, 0, none⟩ = some (.int .i64 (o.ver : Int)) ∧ w8.cell? ⟨B, 1, none⟩ = some (.bool true) ∧ w8.cell? ⟨B, 2, none⟩ = some (.int .i64 v.kind) ∧ w8.cell? ⟨B, 3, none⟩ = some (.string v.space) ∧ w8.cell? ⟨B, 4, none⟩ = some (.string v.name) ∧ w8.cell? ⟨B, 5, none⟩ = some (.int .i64 v.ver) ∧ w8.cell? ⟨B, 6, none⟩ = some (.slice dv.A dv.n dv.c)) := Hj fun w8 hr =>
  ⟨Kq 0 hr, Kq 1 hr, Kq 2 hr, Kq 3 hr, Kq 4 hr, Kq 5 hr, Kq 6 hr⟩
 have HRS8 : Hid (∀ (w8 : World) (u : Value), w8.heap[B]? = some (.cells #[.int .i64 (o.ver : Int), .bool true, .int .i64 v.kind, .string v.space, .string v.name, .int .i64 v.ver, (.slice dv.A dv.n dv.c)] 61 (0, 0)) → (w8.setCell ⟨gs, 4, none⟩ u).cell? ⟨B, 0, none⟩ = some (.int .i64 (o.ver : Int)) ∧ (w8.setCell ⟨gs, 4, none⟩ u).cell? ⟨B, 1, none⟩ = some (.bool true) ∧ (w8.setCell ⟨gs, 4, none⟩ u).cell? ⟨B, 2, none⟩ = some (.int .i64 v.kind) ∧ (w8.setCell ⟨gs, 4, none⟩ u).cell? ⟨B, 3, none⟩ = some (.string v.space) ∧ (w8.setCell ⟨gs, 4, none⟩ u).cell? ⟨B, 4, none⟩ = some (.string v.name) ∧ (w8.setCell ⟨gs, 4, none⟩ u).cell? ⟨B, 5, none⟩ = some (.int .i64 v.ver) ∧ (w8.setCell ⟨gs, 4, none⟩ u).cell? ⟨B, 6, none⟩ = some (.slice dv.A dv.n dv.c)) := Hj fun w8 u h8 => by
  have hr := (Below.heap_setCell w8 ⟨gs, 4, none⟩ u B (fun e => HBgs.out e)).trans h8
  exact ⟨Kq 0 hr, Kq 1 hr, Kq 2 hr, Kq 3 hr, Kq 4 hr, Kq 5 hr, Kq 6 hr⟩
 have cw3 : w3.cell? ⟨gs, 4, none⟩ = some ev := HEV.out w3 (Below.refl _ _)
 refine wp_region_noPanic ?_
 refine wp_region_held_drew (S := (fun w' => w'.cell? ⟨B, 0, none⟩ = some (.int .i64 (o.ver : Int)) ∧ w'.cell? ⟨B, 1, none⟩ = some (.bool true) ∧ w'.cell? ⟨B, 2, none⟩ = some (.int .i64 v.kind) ∧ w'.cell? ⟨B, 3, none⟩ = some (.string v.space) ∧ w'.cell? ⟨B, 4, none⟩ = some (.string v.name) ∧ w'.cell? ⟨B, 5, none⟩ = some (.int .i64 v.ver) ∧ w'.cell? ⟨B, 6, none⟩ = some (.slice dv.A dv.n dv.c))) (by kernel_rfl) ?_ (fun hHeld => ?_)
 ·exact HRB.out w3.drew ⟨rfl, rfl, rfl, Nat.le_refl _, fun _ _ => rfl⟩
 refine tk 0 hHeld ?_
 try simp only [pa]
 refine tk 1 hHeld ?_
 try simp only [pa]
 refine tk 2 hHeld ?_
 try simp only [pa]
 refine tk 3 hHeld ?_
 try simp only [pa]
 refine tk 5 hHeld ?_
 try simp only [pa]
 refine tk 6 hHeld ?_
 try simp only [pa]
 refine tk 7 hHeld ?_
 try simp only [pa]
 refine tk 8 hHeld ?_
 try simp only [pa]
 refine tk 9 hHeld ?_
 try simp only [pa]
 refine tk 10 hHeld ?_
 try simp only [pa]
 refine rd2 4 11 rfl rfl (fun K hK => ?_) (fun K hK => ?_)
 focus
  go_simp
  refine hK.out _ _ ?_ (fun hHeld => ?_)
  ·exact hHeld
  clear hK K
  try simp only [pa]
  refine rd1 11 rfl (fun K hK => ?_)
  go_simp
  refine (copied_obj ⟨v.kind, v.space, v.name, v.ver, dv.A, dv.n, dv.c⟩ w3.drew dat HDat.out HNn.out).mono ?_
  rintro e wc ⟨A9, c9, rfl, ho9, hb9⟩
  have HBc : Hid (Below w3.heap.size w3 wc) := Hj ⟨hb9.os, hb9.tape, hb9.output, hb9.size, hb9.block⟩
  have HO9 : Hid (OB wc w3.heap.size (.slice A9 dv.n c9) dat) := Hj ho9
  have hRc := HRB.out wc HBc.out
  have cev : wc.cell? ⟨gs, 4, none⟩ = some ev := HEV.out wc HBc.out
  clear ho9 hb9
  refine hK.out _ _ ?_ (fun hHeld => ?_)
  ·exact hRc
  clear hK K
  refine tk 12 hHeld ?_
  try simp only [pa]
  refine rd1 13 rfl (fun K hK => ?_)
  go_simp
  obtain ⟨wl, hwl⟩ : ∃ W, W = wc.alloc (.cells #[.int .i64 (o.ver : Int), .bool true, .int .i64 v.kind, .string v.space, .string v.name, .int .i64 v.ver, (.slice A9 dv.n c9)] 61) := ⟨_, rfl⟩
  have hbl := (Below.refl wc.heap.size wc).alloc Kj (.cells #[.int .i64 (o.ver : Int), .bool true, .int .i64 v.kind, .string v.space, .string v.name, .int .i64 v.ver, (.slice A9 dv.n c9)] 61)
  rw [← hwl] at hbl
  have HBl : Hid (Below w3.heap.size w3 wl) := Hj (HBc.out.trans (hbl.mono HBc.out.size))
  have HSrc : Hid (Src Tryz.prog 7 57 (.slice (some ⟨wc.heap.size, 0, none⟩) 1 1) 1 (ecell1 true o.ver ⟨v.kind, v.space, v.name, v.ver, A9, dv.n, c9⟩) wl) := Hj (by
   have hn := heap_alloc_new wc (.cells #[.int .i64 (o.ver : Int), .bool true, .int .i64 v.kind, .string v.space, .string v.name, .int .i64 v.ver, (.slice A9 dv.n c9)] 61)
   rw [← hwl] at hn
   refine Src.ofSlice _ Tryz.underlying57 _ _ 1 _ rfl (fun j u hu => World.news_of_block (cs := #[.int .i64 (o.ver : Int), .bool true, .int .i64 v.kind, .string v.space, .string v.name, .int .i64 v.ver, (.slice A9 dv.n c9)]) hn j u hu) (fun u hu => ?_)
   simp only [ecell1, List.mem_cons, List.not_mem_nil, or_false] at hu
   rcases hu with rfl | rfl | rfl | rfl | rfl | rfl | rfl <;> rfl)
  have HOl : Hid (OB wl w3.heap.size (.slice A9 dv.n c9) dat) := Hj (OB.below HO9.out hbl)
  have hRl := HRB.out wl HBl.out
  have cel : wl.cell? ⟨gs, 4, none⟩ = some ev := HEV.out wl HBl.out
  rw [← hwl]
  clear hwl hbl
  refine hK.out _ _ ?_ (fun hHeld => ?_)
  ·exact hRl
 rotate_right
 focus
  go_simp
  refine (copied_obj ⟨v.kind, v.space, v.name, v.ver, dv.A, dv.n, dv.c⟩ w3.drew dat HDat.out HNn.out).mono ?_
  rintro e wc ⟨A9, c9, rfl, ho9, hb9⟩
  have HBc : Hid (Below w3.heap.size w3 wc) := Hj ⟨hb9.os, hb9.tape, hb9.output, hb9.size, hb9.block⟩
  have HO9 : Hid (OB wc w3.heap.size (.slice A9 dv.n c9) dat) := Hj ho9
  have hRc := HRB.out wc HBc.out
  have cev : wc.cell? ⟨gs, 4, none⟩ = some ev := HEV.out wc HBc.out
  clear ho9 hb9
  refine hK.out _ _ ?_ (fun hHeld => ?_)
  ·exact hRc
  clear hK K
  refine tk 12 hHeld ?_
  try simp only [pa]
  refine rd2 4 13 rfl rfl (fun K hK => ?_) (fun K hK => ?_)
  focus
   go_simp
   refine hK.out _ _ ?_ (fun hHeld => ?_)
   ·exact hHeld
   clear hK K
   try simp only [pa]
   refine rd1 13 rfl (fun K hK => ?_)
   go_simp
   obtain ⟨wl, hwl⟩ : ∃ W, W = wc.alloc (.cells #[.int .i64 (o.ver : Int), .bool true, .int .i64 v.kind, .string v.space, .string v.name, .int .i64 v.ver, (.slice A9 dv.n c9)] 61) := ⟨_, rfl⟩
   have hbl := (Below.refl wc.heap.size wc).alloc Kj (.cells #[.int .i64 (o.ver : Int), .bool true, .int .i64 v.kind, .string v.space, .string v.name, .int .i64 v.ver, (.slice A9 dv.n c9)] 61)
   rw [← hwl] at hbl
   have HBl : Hid (Below w3.heap.size w3 wl) := Hj (HBc.out.trans (hbl.mono HBc.out.size))
   have HSrc : Hid (Src Tryz.prog 7 57 (.slice (some ⟨wc.heap.size, 0, none⟩) 1 1) 1 (ecell1 true o.ver ⟨v.kind, v.space, v.name, v.ver, A9, dv.n, c9⟩) wl) := Hj (by
    have hn := heap_alloc_new wc (.cells #[.int .i64 (o.ver : Int), .bool true, .int .i64 v.kind, .string v.space, .string v.name, .int .i64 v.ver, (.slice A9 dv.n c9)] 61)
    rw [← hwl] at hn
    refine Src.ofSlice _ Tryz.underlying57 _ _ 1 _ rfl (fun j u hu => World.news_of_block (cs := #[.int .i64 (o.ver : Int), .bool true, .int .i64 v.kind, .string v.space, .string v.name, .int .i64 v.ver, (.slice A9 dv.n c9)]) hn j u hu) (fun u hu => ?_)
    simp only [ecell1, List.mem_cons, List.not_mem_nil, or_false] at hu
    rcases hu with rfl | rfl | rfl | rfl | rfl | rfl | rfl <;> rfl)
   have HOl : Hid (OB wl w3.heap.size (.slice A9 dv.n c9) dat) := Hj (OB.below HO9.out hbl)
   have hRl := HRB.out wl HBl.out
   have cel : wl.cell? ⟨gs, 4, none⟩ = some ev := HEV.out wl HBl.out
   rw [← hwl]
   clear hwl hbl
   refine hK.out _ _ ?_ (fun hHeld => ?_)
   ·exact hRl
  rotate_right
  focus
   go_simp
   obtain ⟨wl, hwl⟩ : ∃ W, W = wc.alloc (.cells #[.int .i64 (o.ver : Int), .bool true, .int .i64 v.kind, .string v.space, .string v.name, .int .i64 v.ver, (.slice A9 dv.n c9)] 61) := ⟨_, rfl⟩
   have hbl := (Below.refl wc.heap.size wc).alloc Kj (.cells #[.int .i64 (o.ver : Int), .bool true, .int .i64 v.kind, .string v.space, .string v.name, .int .i64 v.ver, (.slice A9 dv.n c9)] 61)
   rw [← hwl] at hbl
   have HBl : Hid (Below w3.heap.size w3 wl) := Hj (HBc.out.trans (hbl.mono HBc.out.size))
   have HSrc : Hid (Src Tryz.prog 7 57 (.slice (some ⟨wc.heap.size, 0, none⟩) 1 1) 1 (ecell1 true o.ver ⟨v.kind, v.space, v.name, v.ver, A9, dv.n, c9⟩) wl) := Hj (by
    have hn := heap_alloc_new wc (.cells #[.int .i64 (o.ver : Int), .bool true, .int .i64 v.kind, .string v.space, .string v.name, .int .i64 v.ver, (.slice A9 dv.n c9)] 61)
    rw [← hwl] at hn
    refine Src.ofSlice _ Tryz.underlying57 _ _ 1 _ rfl (fun j u hu => World.news_of_block (cs := #[.int .i64 (o.ver : Int), .bool true, .int .i64 v.kind, .string v.space, .string v.name, .int .i64 v.ver, (.slice A9 dv.n c9)]) hn j u hu) (fun u hu => ?_)
    simp only [ecell1, List.mem_cons, List.not_mem_nil, or_false] at hu
    rcases hu with rfl | rfl | rfl | rfl | rfl | rfl | rfl <;> rfl)
   have HOl : Hid (OB wl w3.heap.size (.slice A9 dv.n c9) dat) := Hj (OB.below HO9.out hbl)
   have hRl := HRB.out wl HBl.out
   have cel : wl.cell? ⟨gs, 4, none⟩ = some ev := HEV.out wl HBl.out
   rw [← hwl]
   clear hwl hbl
   refine hK.out _ _ ?_ (fun hHeld => ?_)
   ·exact hRl
   clear hK K
   try simp only [pa]
   refine rd1 4 rfl (fun K hK => ?_)
   go_simp
   refine hK.out _ _ ?_ (fun hHeld => ?_)
   ·exact hHeld
 all_goals
  clear hK K
  try simp only [pa]
  refine rd1 14 rfl (fun K hK => ?_)
  refine step_append_e rfl (.tmp 48) (.tmp 57) (by rfl) (OwnS.below HOwn.out HBl.out) (by rfl) HSrc.out (by rfl) HYn.out (Nat.zero_le _) ?_
  intro v8 w8 hown8 hgr8 hat8
  have Own8 := Hj hown8
  have Gr8 := Hj hgr8
  have At8 := Hj hat8
  have hRB8 := HRB8.out wl w8 HBl.out hgr8
  have hG8 := HGR8.out wl w8 HBl.out hgr8
  have f8 : ∀ k, w8.frozen? ⟨gs, k, none⟩ = false := fun k => Kx hG8
  have c8 := Kq 4 hG8
  simp at c8
  have HG8 := Hj hG8
  have HR8b : Hid (∀ u, (w8.setCell ⟨gs, 4, none⟩ u).cell? ⟨B, 0, none⟩ = some (.int .i64 (o.ver : Int)) ∧ (w8.setCell ⟨gs, 4, none⟩ u).cell? ⟨B, 1, none⟩ = some (.bool true) ∧ (w8.setCell ⟨gs, 4, none⟩ u).cell? ⟨B, 2, none⟩ = some (.int .i64 v.kind) ∧ (w8.setCell ⟨gs, 4, none⟩ u).cell? ⟨B, 3, none⟩ = some (.string v.space) ∧ (w8.setCell ⟨gs, 4, none⟩ u).cell? ⟨B, 4, none⟩ = some (.string v.name) ∧ (w8.setCell ⟨gs, 4, none⟩ u).cell? ⟨B, 5, none⟩ = some (.int .i64 v.ver) ∧ (w8.setCell ⟨gs, 4, none⟩ u).cell? ⟨B, 6, none⟩ = some (.slice dv.A dv.n dv.c)) := Hj fun u => HRS8.out w8 u hRB8
  have hRS := HRR8.out w8 hRB8
  obtain ⟨A8, k8, rfl, -, -⟩ := OwnS.form hown8
  clear hown8 hgr8 hat8 hG8 hRB8
  refine hK.out _ _ ?_ (fun hHeld => ?_)
  ·exact hRS
  clear hK K
  try simp only [pa]
  refine tk 15 hHeld ?_
  try simp only [pa]
  refine tk 16 hHeld ?_
  try simp only [pa]
  refine rd1 17 rfl (fun K hK => ?_)
  go_simp
  refine hK.out _ _ ?_ (fun hHeld => ?_)
  ·exact HR8b.out _
  clear hK K
  refine wpAnyH_done (by kernel_rfl) ?_ _
  refine NoPanic.normal ?_
  go_wp2
  have hFF : Fr (fun k => k = gs ∨ k = gt ∨ ev.ownBlock = some k) w (w8.setCell ⟨gs, 4, none⟩ (.slice A8 (ys.length + 1) k8)) := ((HF3.out.trans (Fr.of_below (S := fun k => k = gs ∨ k = gt ∨ ev.ownBlock = some k) HBl.out) (fun _ _ h => h)).trans (Fr.of_grown Gr8.out) (fun _ _ h => .inr (.inr h.symm))).setCell (p := ⟨gs, 4, none⟩) (fun _ => .inl rfl) _
  have hOwF : OwnS (w8.setCell ⟨gs, 4, none⟩ (.slice A8 (ys.length + 1) k8)) 0 61 7 (.slice A8 (ys.length + 1) k8) (ys.length + 1) (ecells ys ++ ecell1 true o.ver ⟨v.kind, v.space, v.name, v.ver, A9, dv.n, c9⟩) := OwnS.kept Own8.out ((Fr.refl (fun k => k = gs) w8).setCell (p := ⟨gs, 4, none⟩) (fun _ => rfl) _) fun k hk e => by
   obtain ⟨cur, hcur⟩ := own_type Own8.out hk
   rw [e] at hcur
   exact absurd (types_ne hcur HG8.out) (by decide)
  have hO8 : OB w8 w3.heap.size (.slice A9 dv.n c9) dat := OwnS.kept HOl.out (Fr.of_grown Gr8.out) fun k hk e => by
   obtain ⟨cur, hcur⟩ := own_type HOl.out hk
   obtain ⟨cur', hcur'⟩ := own_type (OwnS.below HOwn.out HBl.out) e.symm
   exact absurd (types_ne hcur hcur') (by decide)
  have hOF : OB (w8.setCell ⟨gs, 4, none⟩ (.slice A8 (ys.length + 1) k8)) w3.heap.size (.slice A9 dv.n c9) dat := OB.other hO8 HG8.out (by decide)
  have hTF : TabAt (w8.setCell ⟨gs, 4, none⟩ (.slice A8 (ys.length + 1) k8)) gt (delS klt (keyO o) sh (xs.map fun x => (x.1, x.2.1))) ((appX xs v (true, o)).map fun x => (x.1, x.2.1)) := by
   have hf : Fr (fun k => k = gs ∨ ev.ownBlock = some k) w3 (w8.setCell ⟨gs, 4, none⟩ (.slice A8 (ys.length + 1) k8)) := ((Fr.of_below (S := fun k => k = gs ∨ ev.ownBlock = some k) HBl.out).trans (Fr.of_grown Gr8.out) (fun _ _ h => .inr h.symm)).setCell (p := ⟨gs, 4, none⟩) (fun _ => .inl rfl) _
   have h3 := HT3.out
   refine h3.fr hf (fun e => e.elim HGG.out fun e => ?_) fun b cs hb e => e.elim (fun e => typ_no hb e HG3.out (by decide)) fun e => ?_
   ·obtain ⟨p, hp, -⟩ := h3
    obtain ⟨cur, hcur⟩ := own_type HOwn.out e
    exact absurd (types_ne hcur hp) (by decide)
   ·obtain ⟨cur, hcur⟩ := own_type HOwn.out e
    exact absurd (types_ne hcur hb) (by decide)
  have hnw : w.heap.size ≤ w3.heap.size := HF3.out.size
  have hown8 : ∀ k, (Value.slice A8 (ys.length + 1) k8).ownBlock = some k → ev.ownBlock = some k ∨ (w.heap.size ≤ k ∧ k < (w8.setCell ⟨gs, 4, none⟩ (.slice A8 (ys.length + 1) k8)).heap.size) := fun k hk => by
   rcases At8.out with e | e
   ·exact .inl (by rw [← e]; exact hk)
   ·rw [e] at hk
    injection hk with hk
    have h1 := (OwnS.lt hOwF k (by rw [e]; exact congrArg some hk)).2
    exact .inr ⟨by rw [← hk]; exact Kv hnw HBl.out.size, h1⟩
  have hdl : dat.length = dv.n := HDat.out.1
  have hSV := HV.out.applied (e := (true, o)) (nv := ⟨v.kind, v.space, v.name, v.ver, A9, dv.n, c9⟩) hFF HCan.out Hv.out (by exact heap_setCell_same _ _ 4 _ _ (.slice A8 (ys.length + 1) k8) HG8.out) hTF hOwF hown8 ⟨Hv.out.kind, Hv.out.space, Hv.out.name, Hv.out.ver, (by rw [HEO.out]; exact hdl.symm), (by rw [HEO.out]; exact OB.mono hOF (Nat.zero_le _))⟩ (fun k hk => Kv hnw (OwnS.lt hOF k hk).1)
  obtain ⟨hr1, hr2⟩ := HU.out _ _ _ _ _ _ _ (fun k => (sl v).ownBlock = some k) hSV (hFF.mono fun i _ hi => hi.elim (fun e => by rw [e]; exact HV.out.zs) fun hi => hi.elim (fun e => by rw [e]; exact HV.out.zt) (HV.out.ze i)) (fun k hk => ⟨(HX.out k hk).1, (HX.out k hk).2, (Hv.out.data.lt k hk).2⟩) (fun k hk => hk)
  exact bodyPost_end (results_none rfl _ _ _) rfl ⟨rfl, hr1, hr2⟩
end
end Go.Proofs.YtfmagnpmjlppiaaGreatDoor
