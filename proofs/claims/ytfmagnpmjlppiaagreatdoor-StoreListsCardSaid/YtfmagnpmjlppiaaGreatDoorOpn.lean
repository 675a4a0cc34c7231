/- Layer 20 (store): Open, on a disk whose log tells of a store. -/
import Derived.Test.YtfmagnpmjlppiaaGreatDoorLoad
import Derived.Test.YtfmagnpmjlppiaaGreatDoorRecs
import Derived.Test.YtfmagnpmjlppiaaGreatDoorCan
import Derived.Test.YtfmagnpmjlppiaaGreatDoorChg
namespace Go.Proofs.YtfmagnpmjlppiaaGreatDoor
open Go.RowKit SO
theorem app_tab (M : StM) (e : Bool × ObM) : M.tab.length ≤ (M.app e).tab.length + 1 := by
 unfold StM.app
 split
 ·show M.tab.length ≤ (rem klt _ M.tab).length + 1
  rw [rem_length]
  split <;> omega
 ·show M.tab.length ≤ (ins klt _ _ M.tab).length + 1
  rw [ins_length]
  split <;> omega
theorem play_tab : ∀ (es : List (Bool × ObM)) (M : StM), M.tab.length ≤ (M.play es).tab.length + es.length
 | [], _ => Nat.le_refl _
 | e :: es, M => by
  have h1 := app_tab M e
  have h2 := play_tab es (M.app e)
  show M.tab.length ≤ ((M.app e).play es).tab.length + (es.length + 1)
  omega
theorem play_app (M : StM) (a b : List (Bool × ObM)) : M.play (a ++ b) = (M.play a).play b := by simp [StM.play]
theorem play_evs : ∀ (es : List (Bool × ObM)) (M : StM), (M.play es).evs.length = M.evs.length + es.length
 | [], _ => rfl
 | e :: es, M => by
  have h2 := play_evs es (M.app e)
  show ((M.app e).play es).evs.length = _
  rw [h2, app_evs, List.length_append, List.length_cons, List.length_cons, List.length_nil]
  omega
theorem Cans.at : ∀ {es : List (Bool × ObM)} {M : StM} {i : Nat} {e : Bool × ObM}, M.Cans es → es[i]? = some e → (M.play (es.take i)).Can e
 | [], _, _, _, _, h => by simp at h
 | x :: es, M, 0, e, hc, h => by
  simp only [List.getElem?_cons_zero] at h
  injection h with h
  subst h
  exact hc.1
 | x :: es, M, i + 1, e, hc, h => by
  rw [List.getElem?_cons_succ] at h
  exact Cans.at (es := es) (M := M.app x) hc.2 h
theorem run_any (A : Option Addr) (n c : Nat) (d : Bool) (o : ObM) (w : World) (hb : RB w A n (evO (d, o))) (hnc : n ≤ c) (hc : c ≤ maxLen) (ho : o.Ok) (hv1 : 1 ≤ o.ver) (hv : o.ver ≤ 1099511627776) (hd : d = true → o.data = []) :
  Calls Tryz.prog 34 #[.slice A n c] w fun en w' => ∃ A1 c1, en = .returned (.tuple #[.agg #[.int .i64 (o.ver : Int), .bool d, .int .i64 (o.kind : Int), .string o.space, .string o.name, .int .i64 (o.ver : Int), .slice A1 o.data.length c1], .nilIface]) ∧ OB w' w.heap.size (.slice A1 o.data.length c1) o.data ∧ Below w.heap.size w w' := by
 cases d with
 | false => exact read_put A n c o w hb hnc hc ho hv1 hv
 | true => exact read_del A n c o w hb hnc hc ho hv1 hv (hd rfl)
section
variable {w w0 w1 w2 : World} {Q S : Nat → Prop} {g gs gl gt : Nat} {m : DM} {L : LM} {M : StM} {ea : Nat → Addr}
theorem can_any (x : OV) (d : Bool) (o : ObM) (h : SW w0 w Q g m gs L M) (hx : x.kind = (o.kind : Int) ∧ x.space = o.space ∧ x.name = o.name) (hc : M.Can (d, o)) (hm : M.rev < 1099511627776) :
  Calls Tryz.prog 35 #[.pointer (some ⟨gs, 0, none⟩), .agg #[.int .i64 (o.ver : Int), .bool d, .int .i64 x.kind, .string x.space, .string x.name, .int .i64 x.ver, .slice x.A x.n x.c]] w fun e w' => e = .returned (.bool true) ∧ Below w.heap.size w w' := by
 obtain ⟨p1, p2, p3, p4, p5⟩ := hc.ok.parts
 dsimp only at p1 p2 p3 p4 p5
 have hk : x.kind ≤ 9223372036854775807 := by rw [hx.1]; omega
 have hs : x.space.size ≤ 1000 := by rw [hx.2.1]; omega
 have hn : x.name.size ≤ 1000 := by rw [hx.2.2]; omega
 cases hl : look klt (keyB x.kind x.space x.name) M.tab with
 | some y => exact can_some x d h hk hs hn o.ver hc.ver hm y hl
 | none =>
  refine can_none x d h hk hs hn o.ver hc.ver hm hl ?_
  cases d with
  | false => rfl
  | true =>
   have h2 := (hc.del rfl).2
   have e : keyO o = keyB x.kind x.space x.name := by rw [hx.1, hx.2.1, hx.2.2]; rfl
   dsimp only at h2
   rw [e, hl] at h2
   cases h2
/-- A new store. -/
theorem SW.born (h : DW w0 w S g m gl L) (hb : Below w.heap.size w w1) (ht : TabAt w1 gt .skip []) (hg : w.heap.size ≤ gt)
  (e2 : w2 = w1.alloc (.cells #[.pointer (some ⟨gl, 0, none⟩), .pointer (some ⟨gt, 0, none⟩), .int .i64 0, .int .i64 0, .slice none 0 0] 85)) :
  SW w0 w2 (ext S w w2) g m w1.heap.size L st0 := by
 have hb2 := (Below.refl w1.heap.size w1).alloc Kj (.cells #[.pointer (some ⟨gl, 0, none⟩), .pointer (some ⟨gt, 0, none⟩), .int .i64 0, .int .i64 0, .slice none 0 0] 85)
 have hr2 := heap_alloc_new w1 (.cells #[.pointer (some ⟨gl, 0, none⟩), .pointer (some ⟨gt, 0, none⟩), .int .i64 0, .int .i64 0, .slice none 0 0] 85)
 rw [← e2] at hb2 hr2
 have hB := hb.trans (hb2.mono hb.size)
 have hd := (h.below hB).narrow
 refine ⟨⟨_, fun k => k = w1.heap.size ∨ k = gt, gl, gt, .skip, .slice none 0 0, [], [], hd, ⟨hr2, ht.below hb2, rfl, fun x hx => (by cases hx), OwnS.nil _ _ _ _, rfl, fun x hx => (by cases hx), StM.at_ok (TabOk.nil 0) (by decide), .inl rfl, .inr rfl, fun k hk => (by cases hk), fun x hx => (by cases hx), fun x hx => (by cases hx)⟩, fun k hk => .inl hk.1, fun k hk => ?_, fun k hk hs => ?_, fun k hk => hk.2⟩, fun k hk => ?_, fun k hk => ?_⟩
 ·rcases hk with rfl | rfl
  ·exact .inr ⟨hb.size, (Cz hr2)⟩
  ·exact .inr ⟨hg, Nat.lt_of_lt_of_le ht.lt hb2.size⟩
 ·have := h.hi k hs.1
  rcases hk with rfl | rfl
  ·exact absurd hb.size (by omega)
  ·omega
 ·exact hk.elim (h.up k) fun hk => Kv h.bel.size hk.1
 ·exact hk.elim (fun hk => Nat.lt_of_lt_of_le (h.hi k hk) hB.size) fun hk => hk.2

set_option maxHeartbeats 4000000 in
set_option maxRecDepth 100000 in
theorem Open_st (h : DD w0 w S g m) (hE : EW w0 ea) (hok : m.Ok) (hw : m.waits.length ≤ 1000) (hg : m.gone = false) (hR : Reads (fun i => m.b (3 + i)) L) (hd0 : L.dead = false) (hL : L.Ok) (h2 : (m.b 5).length ≤ 1048576) (hT : Tells L M) (hM : M.tab.length ≤ 1000 ∧ M.rev ≤ 1000) (htl : L.text.length ≤ 1048576) (hop : opE m (endOf L.recs) = 0) :
  Calls Tryz.prog 9 #[.pointer (some ⟨g, 0, none⟩)] w fun e w' => ∃ gs Q, e = .returned (.tuple #[.pointer (some ⟨gs, 0, none⟩), .nilIface]) ∧ SW w0 w' Q g (opM m (endOf L.recs)) gs L M ∧ (∀ k, Q k → S k ∨ (w.heap.size ≤ k ∧ k < w'.heap.size)) ∧ Fr S w w' := by
 obtain ⟨tab0, es, hby⟩ := hT
 have hes : es.length ≤ 1000 := by
  have h1 := play_evs es (StM.at M.base tab0)
  rw [← hby.play] at h1
  have h2 : M.rev = M.base + M.evs.length := (Tells.ok ⟨tab0, es, hby⟩).num
  have h3 : (StM.at M.base tab0).evs.length = 0 := rfl
  omega
 have ht0 : tab0.length ≤ 2000 := by
  have h1 := play_tab es (StM.at M.base tab0)
  rw [← hby.play] at h1
  have : (StM.at M.base tab0).tab = tab0 := rfl
  rw [this] at h1
  omega
 have hMok := Tells.ok ⟨tab0, es, hby⟩
 have hmost := hby.most
 obtain ⟨mm, hmm⟩ : ∃ x, x = opM m (endOf L.recs) := ⟨_, rfl⟩
 rw [← hmm]
 obtain ⟨TL, hTL⟩ : ∃ n, n = L.text.length := ⟨_, rfl⟩
 obtain ⟨NR, hNR⟩ : ∃ n, n = es.length := ⟨_, rfl⟩
 have hrl : L.recs.length = NR := by rw [hby.recs, List.length_map, hNR]
 have HOp : Hid (Calls Tryz.prog 29 #[.pointer (some ⟨g, 0, none⟩)] w fun e w' => ∃ gl, e = .returned (.tuple #[.pointer (some ⟨gl, 0, none⟩), .nilIface]) ∧ DW w0 w' (ext S w w') g mm gl L ∧ Fr S w w') := Hj ((Open_any h hE hok hw hg).mono fun e w' => by
  rintro ⟨L', hR', hd', hf, hcase⟩
  obtain ⟨s1, s2, s3, s4⟩ := hR'.same hR h2
  obtain rfl : L' = L := LM.ext' s1 s2 s3 s4 (hd'.trans hd0.symm)
  rcases hcase with ⟨-, gl, rfl, hdw⟩ | ⟨hne, -⟩
  ·exact ⟨gl, rfl, by rw [hmm]; exact hdw, hf⟩
  ·exact absurd hop hne)
 have HLoad : Hid (∀ (W : World) (Q : Nat → Prop) (gs : Nat) (A : Option Addr) (c : Nat), SW w0 W Q g mm gs L st0 → OB W 0 (.slice A TL c) L.text → Calls Tryz.prog 31 #[.pointer (some ⟨gs, 0, none⟩), .slice A TL c] W fun e w' => e = .returned .nilIface ∧ SW w0 w' (ext Q W w') g mm gs L (StM.at M.base tab0) ∧ Fr Q W w' ∧ ∀ p, W.cell? ⟨gs, 0, none⟩ = some p → w'.cell? ⟨gs, 0, none⟩ = some p) := Hj fun W Q gs A c hs ho => by
  obtain ⟨A', c', e', h1, h2, h3⟩ := OB.form ho
  injection e' with e1 e2 e3
  rcases hby.text with ht | ⟨ht, hb0, htb⟩
  ·exact load_snap A TL c hs (by rw [e1, e2, ← ht]; exact h3) (by rw [e2, e3]; exact h1) (by rw [e3]; exact h2) (by omega) hby.tab hmost
  ·have hz : TL = 0 := by rw [hTL, ht]; rfl
   rw [hz, hb0, htb]
   exact load_empty A c hs (by rw [e3]; exact h2)
 have HCan : Hid (∀ (i : Nat) (e : Bool × ObM), es[i]? = some e → ((StM.at M.base tab0).play (es.take i)).Can e) := Hj fun i e he => Cans.at hby.cans he
 have HStep : Hid (∀ (i : Nat) (e : Bool × ObM), es[i]? = some e → (StM.at M.base tab0).play (es.take (i + 1)) = ((StM.at M.base tab0).play (es.take i)).app e) := Hj fun i e he => by
  obtain ⟨h1, h2⟩ := List.getElem?_eq_some_iff.1 he
  rw [List.take_succ_eq_append_getElem h1, h2, play_snoc]
 have HEnd : Hid (M = (StM.at M.base tab0).play (es.take NR)) := Hj (by rw [hNR, List.take_length]; exact hby.play)
 have HRev : Hid (∀ i, ((StM.at M.base tab0).play (es.take i)).tab.length ≤ 100000 ∧ ((StM.at M.base tab0).play (es.take i)).evs.length ≤ 100000) := Hj fun i => by
  have h1 := play_tab (es.drop i) ((StM.at M.base tab0).play (es.take i))
  rw [← play_app, List.take_append_drop, ← hby.play, List.length_drop] at h1
  have h2 := play_evs (es.take i) (StM.at M.base tab0)
  have h3 : (StM.at M.base tab0).evs.length = 0 := rfl
  rw [List.length_take] at h2
  omega
 have HRec : Hid (L.recs = es.map evO) := Hj hby.recs
 have HOkM : Hid (∀ (i : Nat) (e : Bool × ObM), es[i]? = some e → e.2.Ok ∧ 1 ≤ e.2.ver ∧ e.2.ver ≤ 1000) := Hj fun i e he => by
  have hc := Cans.at hby.cans he
  refine ⟨hc.ok, by have := hc.ver; omega, ?_⟩
  have h1 := Ok.play (StM.at_ok hby.tab hmost) hby.cans
  obtain ⟨hi, -⟩ := List.getElem?_eq_some_iff.1 he
  have h4 := hc.ver
  have h5 : ∀ (k : Nat), k ≤ es.length → ((StM.at M.base tab0).play (es.take k)).rev = M.base + k := fun k => by
   induction k with
   | zero => intro _; rfl
   | succ k ih =>
    intro hk
    have hx : es[k]? = some (es[k]'(by omega)) := List.getElem?_eq_getElem (by omega)
    rw [List.take_succ_eq_append_getElem (by omega : k < es.length), play_snoc, app_rev, (Cans.at hby.cans hx).ver, ih (by omega)]
    omega
  have h6 := h5 i (by omega)
  have h7 := h5 es.length Kj
  rw [List.take_length, ← hby.play] at h7
  have := hM.2
  omega
 have HLok := Hj hL
 have HNR := Hj hNR
 have hnr : NR ≤ 1000 := by omega
 have HNr := Hj hnr
 have HSW := Hj h
 have HM0 : Hid (∀ i, i < NR → ((StM.at M.base tab0).play (es.take i)).rev < 1099511627776) := Hj fun i hi => by
  obtain ⟨h1, h2, h3⟩ := HOkM.out i (es[i]'(by omega)) (List.getElem?_eq_getElem (by omega))
  have h4 := (HCan.out i (es[i]'(by omega)) (List.getElem?_eq_getElem (by omega))).ver
  omega
 have HSnap : Hid (∀ W S' gl, DW w0 W S' g mm gl L → Calls Tryz.prog 32 #[.pointer (some ⟨gl, 0, none⟩)] W fun e w' => ∃ A c, e = .returned (.slice A TL c) ∧ OB w' W.heap.size (.slice A TL c) L.text ∧ Below W.heap.size W w') := Hj fun W S' gl hd => by
  rw [hTL]
  exact Snapshot_any hd hL
 have HRecs : Hid (∀ W S' gl, DW w0 W S' g mm gl L → Calls Tryz.prog 33 #[.pointer (some ⟨gl, 0, none⟩)] W fun e w' => ∃ (A : Option Addr) (c : Nat) (xs : List (List UInt8 × Value)), e = .returned (.slice A NR c) ∧ OwnS w' W.heap.size 24 1 (.slice A NR c) NR (xs.map fun x => x.2) ∧ xs.map (fun x => x.1) = L.recs ∧ (∀ x ∈ xs, OB w' W.heap.size x.2 x.1) ∧ Below W.heap.size W w') := Hj fun W S' gl hd => by
  obtain ⟨P, hl, -⟩ := hd.lg
  have := Records_O hl hL
  rw [hrl] at this
  exact this
 clear h hE hok hw hg hR hd0 hL h2 hM htl hop hby hes ht0 hMok hmost hmm hTL hNR hrl hnr
 go_enter Tryz.func9, Tryz.ntmps9
 go_wp2_with (first
  | (go_at_call 29; go_loud ((with_reducible refine HOp.out.mono ?_); rintro e w1 ⟨gl, rfl, hd1, hf1⟩; have HD1 := Hj hd1; have HF1 := Hj hf1; clear hd1 hf1))
  | (go_at_call 30; go_loud (
    obtain ⟨gt, hgt⟩ : ∃ x, x = w1.heap.size := ⟨_, rfl⟩
    (with_reducible refine (New_T w1).mono ?_)
    rintro e w2 ⟨rfl, ht2, hb2⟩
    rw [← hgt] at ht2 ⊢
    have HT2 := Hj ht2
    have HB2 := Hj hb2
    have HGt := Hj hgt
    clear hgt ht2 hb2))
  | (go_at_call 32; go_loud (
    obtain ⟨w3, hw3⟩ : ∃ W, W = w2.alloc (.cells #[.pointer (some ⟨gl, 0, none⟩), .pointer (some ⟨gt, 0, none⟩), .int .i64 0, .int .i64 0, .slice none 0 0] 85) := ⟨_, rfl⟩
    obtain ⟨gs, hgs⟩ : ∃ x, x = w2.heap.size := ⟨_, rfl⟩
    have hs3 := SW.born HD1.out HB2.out HT2.out (Nat.le_of_eq HGt.out.symm) hw3
    have hb3 : Below w2.heap.size w2 w3 := (by rw [hw3]; exact (Below.refl _ _).alloc Kj _)
    have hc3 : w3.cell? ⟨gs, 0, none⟩ = some (.pointer (some ⟨gl, 0, none⟩)) := (by rw [hw3, hgs]; exact Kq 0 (heap_alloc_new w2 _))
    rw [← hw3]
    rw [← hgs] at hs3
    try rw [← hgs]
    have hb13 := HB2.out.trans (hb3.mono HB2.out.size)
    (with_reducible refine (HSnap.out w3 _ gl (HD1.out.below hb13)).mono ?_)
    rintro e w4 ⟨A4, k4, rfl, ho4, hb4⟩
    have HO4 : Hid (OB w4 0 (.slice A4 TL k4) L.text) := Hj (OB.mono ho4 (Nat.zero_le _))
    have HS4 := Hj (hs3.below hb4)
    have HB14 : Hid (Below w1.heap.size w1 w4) := Hj (hb13.trans (hb4.mono hb13.size))
    have HC4 : Hid (w4.cell? ⟨gs, 0, none⟩ = some (.pointer (some ⟨gl, 0, none⟩))) := Hj (Kz hb4 _ _ hc3)
    have HSz : Hid (w3.heap.size ≤ w4.heap.size) := Hj hb4.size
    clear hw3 hgs hs3 hb3 hc3 hb13 ho4 hb4))
  | (go_at_call 31; go_loud (
    (with_reducible refine (HLoad.out w4 _ gs A4 k4 HS4.out HO4.out).mono ?_)
    rintro e w5 ⟨rfl, hs5, hf5, hc5⟩
    obtain ⟨S5, gl5, hd5, hg5, -, -⟩ := hs5.log
    obtain rfl : gl5 = gl := (by
     have h := hg5.symm.trans (hc5 _ HC4.out)
     injection h with h
     injection h with h
     injection h with h
     injection h)
    have HS5 := Hj hs5
    have HF5 := Hj hf5
    have HD5 := Hj hd5
    clear hs5 hf5 hc5 hd5 hg5))
  | (go_at_call 33; go_loud (
    (with_reducible refine (HRecs.out w5 S5 _ HD5.out).mono ?_)
    rintro e w6 ⟨A6, c6, xs6, rfl, ho6, he6, ha6, hb6⟩
    have HO6 := Hj ho6
    have HE6 := Hj he6
    have HA6 := Hj ha6
    have HB6 := Hj hb6
    clear ho6 he6 ha6 hb6))
  | fail)
 have HQ5 : Hid (∀ k, ext (ext (ext S w w1) w1 w3) w4 w5 k → S k ∨ (w.heap.size ≤ k ∧ k < w5.heap.size)) := Hj fun k hk => by
  have a1 := HF1.out.size
  have a2 := HB14.out.size
  have a3 := HF5.out.size
  have a4 := HSz.out
  rcases hk with hk | hk
  ·rcases hk with hk | hk
   ·rcases hk with hk | hk
    ·exact .inl hk
    ·exact .inr ⟨hk.1, by omega⟩
   ·exact .inr ⟨by omega, by omega⟩
  ·exact .inr ⟨by omega, hk.2⟩
 have HF05 : Hid (Fr S w w5) := Hj (((HF1.out.trans (Fr.of_below (S := S) HB14.out) fun _ _ h => h)).trans HF5.out fun i hi hk => by
  have a1 := HF1.out.size
  have a2 := HB14.out.size
  rcases hk with hk | hk
  ·rcases hk with hk | hk
   ·exact hk
   ·omega
  ·have a4 := HSz.out
   omega)
 have HS6 := Hj (HS5.out.below HB6.out)
 have HFin : Hid (∀ (wr : World) (Qi : Nat → Prop), (∀ k, Qi k → ext (ext (ext S w w1) w1 w3) w4 w5 k ∨ (w6.heap.size ≤ k ∧ k < wr.heap.size)) → Fr (ext (ext (ext S w w1) w1 w3) w4 w5) w6 wr → (∀ k, Qi k → S k ∨ (w.heap.size ≤ k ∧ k < wr.heap.size)) ∧ Fr S w wr) := Hj fun wr Qi h1 h2 => by
  have a1 := HF05.out.size
  have a2 := HB6.out.size
  have a3 := h2.size
  refine ⟨fun k hk => ?_, ((HF05.out.trans (Fr.of_below (S := S) HB6.out) fun _ _ h => h)).trans h2 fun i hi hk => ?_⟩
  ·rcases h1 k hk with hk | hk
   ·rcases HQ5.out k hk with hk | hk
    ·exact .inl hk
    ·exact .inr ⟨hk.1, by omega⟩
   ·exact .inr ⟨by omega, hk.2⟩
  ·rcases HQ5.out i hk with hk | hk
   ·exact hk
   ·omega
 clear HF1 HB14 HF5 HSz HO4 HS4 HC4 HT2 HB2 HGt HD1
 by_cases hz : NR = 0
 ·subst hz
  go_loopg [32] 1 (fun gk s32 wr => s32 = .int .i64 0 ∧ wr = w6)
  case atStart => exact ⟨rfl, rfl⟩
  case round =>
   obtain ⟨rfl, hwr⟩ := hrel
   subst hwr
   go_wp2
   go_ret2
   obtain ⟨f1, f2⟩ := HFin.out wr _ (fun k hk => .inl hk) (Fr.refl _ _)
   have hE : M = StM.at M.base tab0 := HEnd.out
   have h6 := HS6.out
   rw [← hE] at h6
   first | exact ⟨gs, _, rfl, h6, f1, f2⟩ | exact ⟨gs, rfl, _, h6, f1, f2⟩
 ·have hn0 : 0 < NR := Nat.pos_of_ne_zero hz
  obtain ⟨rg, ro, rc, er, -, -, -⟩ := OwnS.cells HO6.out (by
   have h1 := congrArg List.length HE6.out
   rw [List.length_map, HRec.out, List.length_map, ← HNR.out] at h1
   rw [List.length_map]; omega)
  injection er with er1 er2 er3
  subst er1
  clear er2 er3 hz
  go_loopg [32] NR (fun gk s32 wr => ∃ (i : Nat) (Qi : Nat → Prop), s32 = .int .i64 (i : Int) ∧ i + gk = NR ∧ SW w0 wr Qi g mm gs L ((StM.at M.base tab0).play (es.take i)) ∧ (∀ k, Qi k → ext (ext (ext S w w1) w1 w3) w4 w5 k ∨ (w6.heap.size ≤ k ∧ k < wr.heap.size)) ∧ Fr (ext (ext (ext S w w1) w1 w3) w4 w5) w6 wr)
  case atStart => exact ⟨0, _, rfl, by omega, HS6.out, fun k hk => .inl hk, Fr.refl _ _⟩
  case round =>
   obtain ⟨i, Qi, rfl, hi, hsw, hq, hfr⟩ := hrel
   have HI := Hj hi
   have HSr := Hj hsw
   have HQ := Hj hq
   have HFr := Hj hfr
   by_cases hlt : i < NR
   ·have hy : ∃ d o, es[i]? = some (d, o) := ⟨_, _, List.getElem?_eq_getElem (by have := HNR.out; omega)⟩
    obtain ⟨d, o, hy⟩ := hy
    have hcan := HCan.out i _ hy
    have hst := HStep.out i _ hy
    obtain ⟨hok, hv1, hv2⟩ := HOkM.out i _ hy
    dsimp only at hok hv1 hv2
    have hxr : ∃ v, xs6[i]? = some (evO (d, o), v) := by
     have h1 := congrArg (fun l => l[i]?) (HE6.out.trans HRec.out)
     simp only [List.getElem?_map, hy, Option.map_some] at h1
     obtain ⟨x, hx, e⟩ := Option.map_eq_some_iff.1 h1
     obtain ⟨a, b⟩ := x
     dsimp only at e
     subst e
     exact ⟨b, hx⟩
    obtain ⟨vr, hxr⟩ := hxr
    have hq5 : ∀ k, w5.heap.size ≤ k → ¬ ext (ext (ext S w w1) w1 w3) w4 w5 k := fun k hk hx => by
     have := HS5.out.hi k hx
     omega
    have ho6 := HO6.out
    have hor : OwnS wr w5.heap.size 24 1 (.slice (some ⟨rg, ro, none⟩) NR c6) NR (xs6.map fun x => x.2) := OwnS.kept ho6 hfr fun k hk => hq5 k (OwnS.lt ho6 k hk).1
    have hb6r := HA6.out _ (List.mem_of_getElem? hxr)
    dsimp only at hb6r
    have hbr : OB wr w5.heap.size vr (evO (d, o)) := OB.keepB hb6r fun k hk => hfr.block k (hb6r.lt k hk).2 (hq5 k (hb6r.lt k hk).1)
    obtain ⟨EL, hEL⟩ : ∃ n, n = (evO (d, o)).length := ⟨_, rfl⟩
    obtain ⟨Ar, kr, er, q1, q2, q3⟩ := OB.form hbr
    rw [← hEL] at er q1 q3
    subst er
    have cr : wr.cell? ⟨rg, ro + i, none⟩ = some (.slice Ar EL kr) := by
     obtain ⟨g', o', cap', e', -, -, hc⟩ := OwnS.cells hor (by rw [List.length_map]; have := (List.getElem?_eq_some_iff.1 hxr).1; omega)
     injection e' with e1 e2 e3
     injection e1 with e1
     injection e1 with e4 e5
     rw [e4, e5]
     exact hc i _ (by rw [List.getElem?_map, hxr]; rfl)
    have HRun : Hid (Calls Tryz.prog 34 #[.slice Ar EL kr] wr fun en w' => ∃ A1 c1, en = .returned (.tuple #[.agg #[.int .i64 (o.ver : Int), .bool d, .int .i64 (o.kind : Int), .string o.space, .string o.name, .int .i64 (o.ver : Int), .slice A1 o.data.length c1], .nilIface]) ∧ OB w' wr.heap.size (.slice A1 o.data.length c1) o.data ∧ Below wr.heap.size wr w') := Hj (run_any Ar EL kr d o wr q3 q1 q2 hok hv1 (by omega) fun hd => (hcan.del hd).1)
    have HCn := Hj hcan
    have HSt := Hj hst
    have HMr := Hj (HM0.out i hlt)
    obtain ⟨hb1, hb2⟩ := HRev.out i
    have HTl := Hj hb1
    have HEl := Hj hb2
    have i0 : (0 : Int) ≤ (i : Int) := by omega
    have i1 : (i : Int) < (NR : Int) := by omega
    have i2 : (i : Int) ≤ 1000 := by have := HNr.out; omega
    have HLt := Hj hlt
    clear hi hsw hq hfr hlt hy hcan hst hok hv1 hv2 hxr hq5 ho6 hor hb6r hbr hEL q1 q2 q3 hb1 hb2
    go_wp2_with (first
     | (go_at_call 34; go_loud ((with_reducible refine HRun.out.mono ?_); rintro e w7 ⟨A7, k7, rfl, ho7, hb7⟩; have HO7 := Hj ho7; have HB7 := Hj hb7; clear ho7 hb7))
     | (go_at_call 35; go_loud (
       have hba := HB7.out.alloc HB7.out.size (.cells #[.int .i64 (o.ver : Int), .bool d, .int .i64 (o.kind : Int), .string o.space, .string o.name, .int .i64 (o.ver : Int), .slice A7 o.data.length k7] 61)
       have hr8 := heap_alloc_new w7 (.cells #[.int .i64 (o.ver : Int), .bool d, .int .i64 (o.kind : Int), .string o.space, .string o.name, .int .i64 (o.ver : Int), .slice A7 o.data.length k7] 61)
       have hoa : OB (w7.alloc (.cells #[.int .i64 (o.ver : Int), .bool d, .int .i64 (o.kind : Int), .string o.space, .string o.name, .int .i64 (o.ver : Int), .slice A7 o.data.length k7] 61)) wr.heap.size (.slice A7 o.data.length k7) o.data := OB.alloc HO7.out _
       (with_reducible refine (can_any ⟨(o.kind : Int), o.space, o.name, (o.ver : Int), A7, o.data.length, k7⟩ d o (HSr.out.below hba) ⟨rfl, rfl, rfl⟩ HCn.out HMr.out).mono ?_)
       rintro e w8 ⟨rfl, hb8⟩
       have HB8 : Hid (Below wr.heap.size wr w8) := Hj (hba.trans (hb8.mono hba.size))
       have HO8 : Hid (OB w8 wr.heap.size (.slice A7 o.data.length k7) o.data) := Hj (OB.below hoa hb8)
       have hrw := (hb8.block w7.heap.size (Cz hr8)).trans hr8
       obtain ⟨e80, e81, e82, e83, e84, e85, e86⟩ := cells7 hrw
       clear hba hr8 hoa hb8 hrw))
     | (go_at_call 36; go_loud (
       have hs8 := HSr.out.below HB8.out
       have hiv : IsO w8 ⟨(o.kind : Int), o.space, o.name, (o.ver : Int), A7, o.data.length, k7⟩ o := ⟨rfl, rfl, rfl, rfl, rfl, OB.mono HO8.out (Nat.zero_le _)⟩
       have hX : ∀ k, (sl ⟨(o.kind : Int), o.space, o.name, (o.ver : Int), A7, o.data.length, k7⟩).ownBlock = some k → ¬ Qi k ∧ w0.heap.size ≤ k := (fun k hk => ⟨fun h => absurd (HSr.out.hi k h) (Nat.not_lt.2 (OwnS.lt HO8.out k hk).1), Kv HSr.out.bel.size (OwnS.lt HO8.out k hk).1⟩)
       (with_reducible refine (apply_any ⟨(o.kind : Int), o.space, o.name, (o.ver : Int), A7, o.data.length, k7⟩ o d hs8 hiv hX HCn.out HTl.out HEl.out).mono ?_)
       rintro e w9 ⟨rfl, hs9, hf9⟩
       have HS9 := Hj hs9
       have HF9 := Hj hf9
       clear hs8 hiv hX hs9 hf9))
     | fail)
    go_roundg (gk - 1)
    case measure => have := HI.out; have := HLt.out; omega
    case rel =>
     have z1 := HFr.out.size
     have z2 := HB8.out.size
     have z3 := HF9.out.size
     refine ⟨i + 1, _, by go_num, by have := HI.out; have := HLt.out; omega, by rw [HSt.out]; exact HS9.out, fun k hk => ?_, ((HFr.out.trans (Fr.of_below (S := ext (ext (ext S w w1) w1 w3) w4 w5) HB8.out) fun _ _ h => h)).trans HF9.out fun k hk h => ?_⟩
     ·rcases hk with hk | hk
      ·rcases hk with hk | hk
       ·rcases HQ.out k hk with hk | hk
        ·exact .inl hk
        ·exact .inr ⟨hk.1, by omega⟩
       ·exact .inr ⟨by omega, hk.2⟩
      ·have := OwnS.lt HO8.out k hk
       exact .inr ⟨by omega, by omega⟩
     ·rcases HQ.out k h with h | h
      ·exact h
      ·omega
   ·have hin : i = NR := by omega
    have q5 : ¬ (i : Int) < (NR : Int) := by omega
    have HIn := Hj hin
    clear hi hsw hq hfr hlt hin
    go_wp2
    go_ret2
    obtain ⟨f1, f2⟩ := HFin.out wr _ HQ.out HFr.out
    have h1 := HSr.out
    rw [HIn.out, ← HEnd.out] at h1
    first | exact ⟨gs, _, rfl, h1, f1, f2⟩ | exact ⟨gs, rfl, _, h1, f1, f2⟩
end
end Go.Proofs.YtfmagnpmjlppiaaGreatDoor
