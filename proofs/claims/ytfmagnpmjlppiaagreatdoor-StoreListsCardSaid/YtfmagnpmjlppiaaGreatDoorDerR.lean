/- Layer 8 (der): the reader, where all is as it should be. -/
import Derived.Test.YtfmagnpmjlppiaaGreatDoorTlvC
import Derived.Test.YtfmagnpmjlppiaaGreatDoorDerW
import Derived.Test.YtfmagnpmjlppiaaGreatDoorWhoR
namespace Go.Proofs.YtfmagnpmjlppiaaGreatDoor
open Go.RowKit

/-- A reader: what is left of the elements that it has entered; a: the world before it was made. -/
structure Rd (a w : World) (g : Nat) (lv : Value) (ls : List (List UInt8 × Value)) : Prop where
 bel : Below a.heap.size a w
 up : a.heap.size ≤ g
 row : w.heap[g]? = some (.cells #[lv, .nilIface] 190 (0, 0))
 left : OwnS w a.heap.size 24 1 lv ls.length (ls.map fun x => x.2)
 each : ∀ x ∈ ls, OB w a.heap.size x.2 x.1
section
variable {a w : World} {g : Nat} {lv : Value} {ls pre : List (List UInt8 × Value)}
theorem Rd.below (h : Rd a w g lv ls) {W : World} (hb : Below w.heap.size w W) : Rd a W g lv ls :=
 ⟨h.bel.trans (hb.mono h.bel.size), h.up, (hb.block g (Cz h.row)).trans h.row, h.left.below hb, fun x hx => (h.each x hx).below hb⟩
theorem Rd.cells {x : List UInt8 × Value} (h : Rd a w g lv (pre ++ [x])) : ∃ q o cq A c, lv = .slice (some ⟨q, o, none⟩) (pre.length + 1) cq ∧ q ≠ g ∧ a.heap.size ≤ q ∧ w.cell? ⟨g, 0, none⟩ = some (.slice (some ⟨q, o, none⟩) (pre.length + 1) cq) ∧ w.cell? ⟨g, 1, none⟩ = some .nilIface ∧
  x.2 = .slice A x.1.length c ∧ w.cell? ⟨q, o + pre.length, none⟩ = some (.slice A x.1.length c) ∧ x.1.length ≤ c ∧ c ≤ maxLen ∧ RB w A x.1.length x.1 := by
 obtain ⟨q, o, cq, e, hq, -, hc⟩ := OwnS.cells h.left (by simp)
 obtain ⟨A, c, e2, h1, h2, h3⟩ := OB.form (h.each x (by simp))
 have hl : (pre ++ [x]).length = pre.length + 1 := by simp
 rw [hl] at e
 have hrow := h.row
 rw [e] at hrow
 refine ⟨q, o, cq, A, c, e, fun e1 => ?_, hq, Kq 0 hrow, Kq 1 hrow, e2, ?_, h1, h2, h3⟩
 ·subst e1
  obtain ⟨cur, hcur⟩ := own_type h.left (k := q) (by rw [e]; rfl)
  exact absurd (types_ne hcur h.row) (by decide)
 ·rw [hc pre.length x.2 (by simp), e2]

set_option maxHeartbeats 1000000 in
set_option maxRecDepth 100000 in
theorem now_any {x : List UInt8 × Value} (h : Rd a w g lv (pre ++ [x])) (hp : pre.length ≤ 100) : Calls Tryz.prog 128 #[.pointer (some ⟨g, 0, none⟩)] w fun e w' => e = .returned x.2 ∧ ∃ k, w' = w.drewN k := by
 obtain ⟨q, o, cq, A, c, -, -, -, c0, -, e2, c1, -, -, -⟩ := h.cells
 rw [e2]
 obtain ⟨n, hn⟩ : ∃ n, n = x.1.length := ⟨_, rfl⟩
 obtain ⟨J, hJ⟩ : ∃ J, J = pre.length := ⟨_, rfl⟩
 obtain ⟨N, hN⟩ : ∃ N, N = J + 1 := ⟨_, rfl⟩
 rw [← hn, ← hJ] at c1
 rw [← hJ, ← hN] at c0
 rw [← hn]
 have w1 : IntKind.i64.wrap ((N : Int) - 1) = (J : Int) := by rw [IntWalk.i64_in _ (by omega)]; omega
 have w2 : wrap64 ((N : Int) - 1) = (J : Int) := by unfold wrap64; omega
 have j0 : (0 : Int) ≤ (J : Int) ∧ (J : Int) < (N : Int) := by omega
 obtain ⟨j0, j1⟩ := j0
 clear h hp e2 hn hJ hN
 go_enter Tryz.func128, Tryz.ntmps128
 go_wp2
 refine wp_region_noPanic ?_
 refine wp_region_held_drew (S := (fun w' => w'.cell? ⟨g, 0, none⟩ = some (.slice (some ⟨q, o, none⟩) N cq) ∧ w'.cell? ⟨q, o + J, none⟩ = some (.slice A n c))) (by kernel_rfl) ?_ (fun hHeld => ?_)
 ·exact ⟨c0, c1⟩
 refine tk 0 hHeld ?_
 try simp only [pa]
 refine tk 1 hHeld ?_
 try simp only [pa]
 refine tk 2 hHeld ?_
 try simp only [pa]
 refine tk 3 hHeld ?_
 try simp only [pa]
 refine tk 4 hHeld ?_
 try simp only [pa]
 refine tk 5 hHeld ?_
 try simp only [pa]
 refine tk 6 hHeld ?_
 try simp only [pa]
 refine tk 7 hHeld ?_
 try simp only [pa]
 refine tk 8 hHeld ?_
 try simp only [pa]
 refine tk 9 hHeld ?_
 try simp only [pa]
 refine tk 10 hHeld ?_
 try simp only [pa]
 refine tk 11 hHeld ?_
 try simp only [pa]
 refine tk 12 hHeld ?_
 try simp only [pa]
 refine wpAnyH_done (by kernel_rfl) ?_ _
 refine NoPanic.normal ?_
 go_wp2
 go_ret
 exact ⟨rfl, 1, rfl⟩

theorem Rd.drew (h : Rd a w g lv ls) : Rd a w.drew g lv ls := ⟨below_dd h.bel, h.up, h.row, h.left.drew, fun x hx => (h.each x hx).drew⟩
theorem Rd.other {b i : Nat} {u : Value} {cs : Array Value} {T : TypeId} {fr : Nat × Nat} (h : Rd a w g lv ls) (hg : w.heap[b]? = some (.cells cs T fr)) (h1 : T ≠ 190) (h2 : T ≠ 24) (h3 : T ≠ 5) (hb : a.heap.size ≤ b) : Rd a (w.setCell ⟨b, i, none⟩ u) g lv ls := by
 have hG := (Fr.refl (fun k => k = b) w).setCell (p := ⟨b, i, none⟩) (fun _ => rfl) u
 refine ⟨h.bel.trans (hG.below h.bel.size fun i _ e => by rw [e]; exact hb), h.up, (hG.block g (Cz h.row) fun e => ?_).trans h.row, OwnS.kept h.left hG fun k hk e => ?_, fun x hx => OB.other (h.each x hx) hg h3⟩
 ·exact h1 (types_ne hg (by rw [← e]; exact h.row))
 ·subst e
  obtain ⟨cur, hcur⟩ := own_type h.left hk
  exact h2 (types_ne hg hcur)
theorem Rd.turn {x : List UInt8 × Value} {q o cq : Nat} (h : Rd a w g (.slice (some ⟨q, o, none⟩) (pre.length + 1) cq) (pre ++ [x])) (y : List UInt8) {v : Value} (hy : OB w a.heap.size v y) :
  (w.setCell ⟨q, o + pre.length, none⟩ v).cell? ⟨g, 0, none⟩ = some (.slice (some ⟨q, o, none⟩) (pre.length + 1) cq) ∧ w.frozen? ⟨q, o + pre.length, none⟩ = false ∧ Rd a (w.setCell ⟨q, o + pre.length, none⟩ v) g (.slice (some ⟨q, o, none⟩) (pre.length + 1) cq) (pre ++ [(y, v)]) := by
 have hl : (pre ++ [x]).length = pre.length + 1 := by simp
 have hleft := h.left
 rw [hl] at hleft
 obtain ⟨fz, l2⟩ := OwnS.setAt (k := pre.length) v hleft (by simp)
 have hg : q ≠ g := fun e1 => by
  subst e1
  obtain ⟨cur, hcur⟩ := own_type hleft (k := q) rfl
  exact absurd (types_ne hcur h.row) (by decide)
 have hG := (Fr.refl (fun k => k = q) w).setCell (p := ⟨q, o + pre.length, none⟩) (fun _ => rfl) v
 have hq : a.heap.size ≤ q := (OwnS.lt hleft q rfl).1
 have row2 := (hG.block g (Cz h.row) (fun e => hg e.symm)).trans h.row
 obtain ⟨cur', hcur'⟩ := own_type hleft (k := q) rfl
 have key : ∀ z : List UInt8 × Value, OB w a.heap.size z.2 z.1 → OB (w.setCell ⟨q, o + pre.length, none⟩ v) a.heap.size z.2 z.1 := fun z hz => OwnS.kept hz hG fun k hk e => by
  subst e
  obtain ⟨cur, hcur⟩ := own_type hz hk
  exact absurd (types_ne hcur hcur') (by decide)
 refine ⟨Kq 0 row2, fz, h.bel.trans (hG.below h.bel.size fun i _ e => by rw [e]; exact hq), h.up, row2, ?_, fun z hz => ?_⟩
 ·have e : (pre ++ [(y, v)]).length = pre.length + 1 := by simp
  have e2 : ((pre ++ [x]).map fun x => x.2).set pre.length v = (pre ++ [(y, v)]).map fun x => x.2 := by simp
  rw [e, ← e2]
  exact l2
 ·rcases List.mem_append.1 hz with hz | hz
  ·exact key z (h.each z (by simp [hz]))
  ·rw [List.mem_singleton.1 hz]
   exact key (y, v) hy

set_option maxHeartbeats 4000000 in
set_option maxRecDepth 100000 in
theorem next_der (tag : Nat) (body rest : List UInt8) {v : Value} (h : Rd a w g lv (pre ++ [(elemB tag body ++ rest, v)])) (hp : pre.length ≤ 100) (ht : Tag (tag : Int)) (ht0 : 0 < tag) (htl : tag < 256) (hbl : body.length ≤ 65530) (hrl : rest.length ≤ 1000000) :
  Calls Tryz.prog 130 #[.pointer (some ⟨g, 0, none⟩), .int .i64 (tag : Int)] w fun e w' => ∃ A1 c1 v2 v', e = .returned (.tuple #[.agg #[.int .i64 (tag : Int), .slice A1 body.length c1], v2, .bool true]) ∧ OB w' w.heap.size (.slice A1 body.length c1) body ∧ Rd a w' g lv (pre ++ [(rest, v')]) ∧ Fr (fun k => lv.ownBlock = some k) w w' := by
 obtain ⟨q, o, cq, A, c, e1, hqg, hqa, c0, ce, e2, c1', hc1, hc2, hrb⟩ := h.cells
 subst e1
 simp only at e2 c1' hc1 hrb
 subst e2
 obtain ⟨K, hK⟩ : ∃ K, K = rest.length := ⟨_, rfl⟩
 obtain ⟨M, hM⟩ : ∃ M, M = body.length := ⟨_, rfl⟩
 obtain ⟨L, hL⟩ : ∃ L, L = (elemB tag body ++ rest).length := ⟨_, rfl⟩
 have hLK : K ≤ L := by rw [hL, List.length_append]; omega
 have hLm : L ≤ 2000000 := by rw [hL, List.length_append]; have := elemB_length tag body (by omega); omega
 obtain ⟨wa, hwa⟩ : ∃ W, W = w.alloc (.cells #[.int .i64 0, .slice none 0 0] 141) := ⟨_, rfl⟩
 have hbb := (Below.refl w.heap.size w).alloc Kj (.cells #[.int .i64 0, .slice none 0 0] 141)
 have hrow := heap_alloc_new w (.cells #[.int .i64 0, .slice none 0 0] 141)
 have cea : ∀ ob, (w.alloc ob).cell? ⟨g, 1, none⟩ = some .nilIface := fun ob => Kz ((Below.refl w.heap.size w).alloc Kj ob) _ _ ce
 rw [← hwa] at hbb hrow
 have BB := Hj hbb
 have HRow : Hid (∀ W, Below wa.heap.size wa W → W.heap[w.heap.size]? = some (.cells #[.int .i64 0, .slice none 0 0] 141 (0, 0))) := Hj fun W hW => (hW.block _ (Cz hrow)).trans hrow
 have HNow : Hid (∀ W, Below wa.heap.size wa W → Calls Tryz.prog 128 #[.pointer (some ⟨g, 0, none⟩)] W fun e w' => e = .returned (.slice A L c) ∧ ∃ k, w' = W.drewN k) := Hj fun W hW => by
  have := now_any ((h.below hbb).below hW) hp
  rw [← hL] at this
  exact this
 have HNext : Hid (∀ W, Below wa.heap.size wa W → Calls Tryz.prog 121 #[.slice A L c] W fun e w' => ∃ A1 c1 A2 c2, e = .returned (.tuple #[.agg #[.int .i64 (tag : Int), .slice A1 M c1], .slice A2 K c2, .nilIface]) ∧
   OB w' W.heap.size (.slice A1 M c1) body ∧ OB w' W.heap.size (.slice A2 K c2) rest ∧ Below W.heap.size W w') := Hj fun W hW => by
  have := Next_any tag A L c body rest W (by rw [hL]; exact (hrb.keep (Kz hbb)).keep (Kz hW)) (by rw [hL]; exact hc1) hc2 ht htl hbl (by omega)
  rw [← hM, ← hK] at this
  exact this
 obtain ⟨N, hN⟩ : ∃ N, N = pre.length + 1 := ⟨_, rfl⟩
 obtain ⟨J, hJ⟩ : ∃ J, J = pre.length := ⟨_, rfl⟩
 have HC0 : Hid (∀ W, Below wa.heap.size wa W → W.cell? ⟨g, 0, none⟩ = some (.slice (some ⟨q, o, none⟩) N cq) ∧ W.cell? ⟨q, o + J, none⟩ = some (.slice A L c)) := Hj fun W hW => by
  rw [hN, hJ, hL]
  exact ⟨Kz hW _ _ (Kz hbb _ _ c0), Kz hW _ _ (Kz hbb _ _ c1')⟩
 have HTurn : Hid (∀ W v, Below wa.heap.size wa W → OB W a.heap.size v rest → (W.setCell ⟨q, o + J, none⟩ v).cell? ⟨g, 0, none⟩ = some (.slice (some ⟨q, o, none⟩) N cq) ∧ W.frozen? ⟨q, o + J, none⟩ = false ∧ Rd a (W.setCell ⟨q, o + J, none⟩ v) g (.slice (some ⟨q, o, none⟩) N cq) (pre ++ [(rest, v)]) ∧ ∃ cur, W.heap[q]? = some (.cells cur 24 (0, 0))) := Hj fun W v hW ho => by
  rw [hN, hJ]
  obtain ⟨r1, r2, r3⟩ := ((h.below hbb).below hW).turn rest ho
  exact ⟨r1, r2, r3, own_type ((h.below hbb).below hW).left rfl⟩
 have w1 : IntKind.i64.wrap ((N : Int) - 1) = (J : Int) := by rw [IntWalk.i64_in _ (by omega)]; omega
 have w2 : wrap64 ((N : Int) - 1) = (J : Int) := by unfold wrap64; omega
 have j0 : (0 : Int) ≤ (J : Int) ∧ (J : Int) < (N : Int) := by omega
 obtain ⟨j0, j1⟩ := j0
 have qt : ((tag : Int) != 0) = true := by rw [bne_iff_ne]; omega
 have qt2 : ((tag : Int) != (tag : Int)) = false := by simp
 have k0 : (0 : Int) ≤ (L : Int) - (K : Int) ∧ (L : Int) - (K : Int) ≤ (c : Int) ∧ (L : Int) ≤ 2000000 ∧ (0 : Int) ≤ (K : Int) := by omega
 obtain ⟨k0, k1, k2, k3⟩ := k0
 have hKL : K ≤ L := hLK
 have w3 : IntKind.i64.wrap ((L : Int) - (K : Int)) = (L : Int) - (K : Int) := IntWalk.i64_in _ (by omega)
 have w4 : wrap64 ((L : Int) - (K : Int)) = (L : Int) - (K : Int) := by unfold wrap64; omega
 have HAS : Hid (a.heap.size ≤ w.heap.size ∧ q < w.heap.size) := Hj ⟨h.bel.size, World.block_lt_of_cell? w ⟨q, o + pre.length, none⟩ c1'⟩
 rw [← hM, ← hN]
 clear h hp ht ht0 htl hbl hrl hc1 hc2 hrb c0 c1' hK hM hL hLK hLm hbb hrow hN hJ hqa
 go_enter Tryz.func130, Tryz.ntmps130
 go_wp2_with (first
  | (go_at_call 128; rw [← hwa]; (with_reducible refine (HNow.out wa (Below.refl _ _)).mono ?_); rintro e w1 ⟨rfl, k1, hk1⟩; have B1 : Hid (Below wa.heap.size wa w1) := Hj (by rw [hk1]; exact below_drewN (Below.refl _ _) k1); clear hk1)
  | (go_at_call 121; go_loud ((with_reducible refine (HNext.out w1 B1.out).mono ?_); rintro e w2 ⟨A1, c1, A2, c2, rfl, ho1, ho2, hb2⟩; have O1 := Hj ho1; have O2 := Hj ho2; have B2 := Hj (B1.out.trans (hb2.mono B1.out.size)); have S1 := Hj B1.out.size; clear ho1 ho2 hb2))
  | (go_at_call 128; go_loud ((with_reducible refine (HNow.out _ (B2.out.alloc B2.out.size _)).mono ?_); rintro e w4 ⟨rfl, k4, hk4⟩; have HK4 := Hj hk4; clear hk4))
  | fail)
 obtain ⟨W2, hW2⟩ : ∃ n, n = w2.heap.size := ⟨_, rfl⟩
 have D4 := (Below.refl w2.heap.size w2).alloc Kj (.cells #[.int .i64 (tag : Int), .slice A1 M c1] 141)
 have hr4 := heap_alloc_new w2 (.cells #[.int .i64 (tag : Int), .slice A1 M c1] 141)
 have D5 : Below w2.heap.size w2 w4 := by rw [HK4.out]; exact below_drewN D4 k4
 have B4 : Hid (Below wa.heap.size wa w4) := Hj (B2.out.trans (D5.mono B2.out.size))
 have R4 : Hid (∀ W : World, (∀ k, k = W2 → W.heap[k]? = w4.heap[k]?) → W.cell? ⟨W2, 0, none⟩ = some (.int .i64 (tag : Int)) ∧ W.cell? ⟨W2, 1, none⟩ = some (.slice A1 M c1)) := Hj fun W hW => by
  have hr : W.heap[W2]? = some (.cells #[.int .i64 (tag : Int), .slice A1 M c1] 141 (0, 0)) := by
   rw [hW W2 rfl, HK4.out, hW2]
   exact hr4
  exact ⟨Kq 0 hr, Kq 1 hr⟩
 have O4 : Hid (OB w4 w2.heap.size (.slice A1 M c1) body ∨ True) := Hj (.inr trivial)
 have P1 : Hid (OB w4 wa.heap.size (.slice A1 M c1) body) := Hj (OB.mono (O1.out.below D5) S1.out)
 have P2 : Hid (OB w4.drew a.heap.size (.slice A2 K c2) rest) := Hj (OwnS.drew (OB.mono (O2.out.below D5) (Kv HAS.out.1 (Kv BB.out.size S1.out))))
 rw [← hW2]
 have BD := Hj (below_dd B4.out)
 have HW4 : Hid (q ≠ W2 ∧ w.heap.size ≠ W2 ∧ w.heap.size < w4.heap.size ∧ q ≠ w.heap.size) := Hj (by
  have h1 := (Array.getElem?_eq_some_iff.1 (HRow.out wa (Below.refl _ _))).1
  have h2 := B2.out.size
  have h3 := HAS.out.2
  have h4 := B4.out.size
  omega)
 clear D4 hr4 D5 hW2 O4
 obtain ⟨x0, x1⟩ := HC0.out _ BD.out
 obtain ⟨y0, yf, hy, curq, hcurq⟩ := HTurn.out _ _ BD.out P2.out
 have HY := Hj hy
 have HQ := Hj hcurq
 clear hy hcurq
 have SD0 := Hj y0
 refine wp_region_noPanic ?_
 refine wp_region_held_drew (S := (fun w' => w'.cell? ⟨g, 0, none⟩ = some (.slice (some ⟨q, o, none⟩) N cq))) (by kernel_rfl) ?_ (fun hHeld => ?_)
 ·exact x0
 refine tk 0 hHeld ?_
 try simp only [pa]
 refine tk 1 hHeld ?_
 try simp only [pa]
 refine tk 2 hHeld ?_
 try simp only [pa]
 refine tk 3 hHeld ?_
 try simp only [pa]
 refine tk 4 hHeld ?_
 try simp only [pa]
 refine tk 5 hHeld ?_
 try simp only [pa]
 refine tk 6 hHeld ?_
 try simp only [pa]
 refine tk 7 hHeld ?_
 try simp only [pa]
 refine tk 8 hHeld ?_
 try simp only [pa]
 refine tk 9 hHeld ?_
 try simp only [pa]
 refine tk 10 hHeld ?_
 try simp only [pa]
 refine tk 11 hHeld ?_
 try simp only [pa]
 refine rd1 12 rfl (fun K hK => ?_)
 go_simp
 refine hK.out _ _ ?_ (fun hHeld => ?_)
 ·exact SD0.out
 clear hK K
 try simp only [pa]
 refine wpAnyH_done (by kernel_rfl) ?_ _
 refine NoPanic.normal ?_
 obtain ⟨w5, hw5⟩ : ∃ W, W = (w4.setCell ⟨q, o + J, none⟩ (.slice A2 K c2)).drew := ⟨_, rfl⟩
 rw [← hw5]
 have F5 : Hid (∀ k, k ≠ q → w5.heap[k]? = w4.heap[k]?) := Hj (fun k hk => by rw [hw5]; exact Below.heap_setCell w4 ⟨q, o + J, none⟩ _ k hk)
 have S5 : Hid (w5.heap.size = w4.heap.size) := Hj (by rw [hw5]; simp [World.setCell])
 have Y5 : Hid (Rd a w5 g (.slice (some ⟨q, o, none⟩) N cq) (pre ++ [(rest, .slice A2 K c2)])) := Hj (by rw [hw5]; exact HY.out)
 have P5 : Hid (OB w5 wa.heap.size (.slice A1 M c1) body) := Hj (by rw [hw5]; exact OB.other (OwnS.drew P1.out) HQ.out (by decide))
 obtain ⟨z0, z1⟩ := R4.out w5.drew (fun k hk => F5.out k (by rw [hk]; exact fun e => HW4.out.1 e.symm))
 have hra : w5.heap[w.heap.size]? = some (.cells #[.int .i64 0, .slice none 0 0] 141 (0, 0)) := (F5.out w.heap.size (fun e => HW4.out.2.2.2 e.symm)).trans (HRow.out w4 B4.out)
 have HRA := Hj hra
 have ra0 : w5.cell? ⟨w.heap.size, 0, none⟩ = some (.int .i64 0) := Kq 0 hra
 have ra1 : w5.cell? ⟨w.heap.size, 1, none⟩ = some (.slice none 0 0) := Kq 1 hra
 have fa0 : w5.frozen? ⟨w.heap.size, 0, none⟩ = false := Kx hra
 have fa1 : w5.frozen? ⟨w.heap.size, 1, none⟩ = false := Kx hra
 have HE2 : Hid (((w5.drew.setCell ⟨w.heap.size, 0, none⟩ (.int .i64 (tag : Int))).setCell ⟨w.heap.size, 1, none⟩ (.slice A1 M c1)).cell? ⟨W2, 0, none⟩ = some (.int .i64 (tag : Int)) ∧ ((w5.drew.setCell ⟨w.heap.size, 0, none⟩ (.int .i64 (tag : Int))).setCell ⟨w.heap.size, 1, none⟩ (.slice A1 M c1)).cell? ⟨W2, 1, none⟩ = some (.slice A1 M c1)) := Hj (R4.out _ fun k hk => by rw [Below.heap_setCell _ ⟨w.heap.size, 1, none⟩ _ k (by rw [hk]; exact fun e => HW4.out.2.1 e.symm), Below.heap_setCell _ ⟨w.heap.size, 0, none⟩ _ k (by rw [hk]; exact fun e => HW4.out.2.1 e.symm)]; exact F5.out k (by rw [hk]; exact fun e => HW4.out.1 e.symm))
 have HW5 := Hj hw5
 clear hra hw5
 go_wp2
 refine wp_region_noPanic ?_
 refine wp_region_held_drew (S := (fun w' => w'.cell? ⟨W2, 0, none⟩ = some (.int .i64 (tag : Int)) ∧ w'.cell? ⟨W2, 1, none⟩ = some (.slice A1 M c1))) (by kernel_rfl) ?_ (fun hHeld => ?_)
 ·exact ⟨z0, z1⟩
 refine tk 0 hHeld ?_
 try simp only [pa]
 refine tk 1 hHeld ?_
 try simp only [pa]
 refine tk 2 hHeld ?_
 try simp only [pa]
 refine tk 3 hHeld ?_
 try simp only [pa]
 refine tk 4 hHeld ?_
 try simp only [pa]
 refine tk 5 hHeld ?_
 try simp only [pa]
 refine tk 6 hHeld ?_
 try simp only [pa]
 refine tk 7 hHeld ?_
 try simp only [pa]
 refine rd1 8 rfl (fun K hK => ?_)
 go_simp
 refine hK.out _ _ ?_ (fun hHeld => ?_)
 ·exact HE2.out
 clear hK K
 try simp only [pa]
 refine tk 9 hHeld ?_
 try simp only [pa]
 refine tk 10 hHeld ?_
 try simp only [pa]
 refine wpAnyH_done (by kernel_rfl) ?_ _
 refine NoPanic.normal ?_
 go_wp2
 have ra := heap_setCell_same _ _ 0 _ _ (.int .i64 (tag : Int)) HRA.out
 refine bodyPost_ret (results_cellTT _ rfl rfl (heap_setCell_same _ _ 1 _ _ (.slice A1 M c1) ra) Tryz.underlying141 info_element) rfl ⟨A1, c1, .slice A (L - K) c, .slice A2 K c2, rfl, ?_, ?_, ?_⟩
 ·exact OwnS.drew (OB.other (OB.other (OB.mono P5.out BB.out.size) HRA.out (by decide)) ra (by decide))
 ·exact Rd.drew (Rd.other (Rd.other Y5.out HRA.out (by decide) (by decide) (by decide) HAS.out.1) ra (by decide) (by decide) (by decide) HAS.out.1)
 ·rw [HW5.out]; exact (((((Fr.of_below (S := fun k => (Value.slice (some ⟨q, o, none⟩) N cq).ownBlock = some k) (BB.out.trans (B4.out.mono BB.out.size))).setCell (p := ⟨q, o + J, none⟩) (fun _ => rfl) _).drew).setCell (p := ⟨w.heap.size, 0, none⟩) (fun h => absurd h (Nat.lt_irrefl _)) _).setCell (p := ⟨w.heap.size, 1, none⟩) (fun h => absurd h (Nat.lt_irrefl _)) _).drew
end
end Go.Proofs.YtfmagnpmjlppiaaGreatDoor

/- Layer 8 (der): the reader, where all is as it should be: Read, Enter, Leave, End. -/
namespace Go.Proofs.YtfmagnpmjlppiaaGreatDoor
open Go.RowKit

set_option maxHeartbeats 1000000 in
theorem Read_der (A : Option Addr) (n c : Nat) (ks : List (Nat × List UInt8)) (w : World) (hp : Plains ks) (hb : RB w A n (elemB 48 (elemsB ks))) (hnc : n ≤ c) (hc : c ≤ maxLen) (hn : (elemsB ks).length ≤ 65530) (hn2 : n ≤ 65536) :
  Calls Tryz.prog 79 #[.slice A n c] w fun e w' => ∃ g q v, e = .returned (.pointer (some ⟨g, 0, none⟩)) ∧ Rd w w' g (.slice (some ⟨q, 0, none⟩) 1 1) [(elemB 48 (elemsB ks), v)] := by
 have HC := Hj (Clone_any A n c _ w hb (by omega))
 have HCh : Hid (∀ W, Below w.heap.size w W → Calls Tryz.prog 127 #[.slice A n c] W fun e w' => e = .returned .nilIface ∧ Below W.heap.size W w') := Hj fun W hW => Check_list A n c ks W hp (hb.keep (Kz hW)) hnc hc hn hn2
 obtain ⟨X, hX⟩ : ∃ X, X = elemB 48 (elemsB ks) := ⟨_, rfl⟩
 rw [← hX] at HC ⊢
 clear hp hb hnc hc hn hn2 hX
 go_enter Tryz.func79, Tryz.ntmps79
 go_wp2_with (first
  | (go_at_call 78; go_loud ((with_reducible refine HC.out.mono ?_); rintro e w1 ⟨A1, c1, rfl, ho1, hb1⟩; have O1 := Hj ho1; have B1 := Hj hb1; have B2 := Hj (hb1.alloc hb1.size (.cells #[.slice A1 X.length c1] 24)); clear ho1 hb1))
  | (go_at_call 127; go_loud ((with_reducible refine (HCh.out _ B2.out).mono ?_); rintro e w3 ⟨rfl, hb3⟩; have D3 := Hj hb3; clear hb3))
  | fail)
 go_ret
 have D3 : Below (w1.alloc (.cells #[.slice A1 X.length c1] 24)).heap.size (w1.alloc (.cells #[.slice A1 X.length c1] 24)) w3 := D3.out
 have DA := (Below.refl w3.heap.size w3).alloc Kj (.cells #[.slice (some ⟨w1.heap.size, 0, none⟩) 1 1, .nilIface] 190)
 have hr1 : (w1.alloc (.cells #[.slice A1 X.length c1] 24)).heap[w1.heap.size]? = some (.cells #[.slice A1 X.length c1] 24 (0, 0)) := heap_alloc_new w1 _
 have hl := OwnS.made (size := 1) (cap := 1) (len := 1) B1.out.size hr1 rfl Kj (by simp [maxLen]) (by simp)
 have BW : Below w.heap.size w w3 := B2.out.trans (D3.mono B2.out.size)
 refine ⟨w3.heap.size, w1.heap.size, .slice A1 X.length c1, rfl, BW.trans (DA.mono BW.size), BW.size, heap_alloc_new w3 _, OwnS.below (OwnS.below hl D3) DA, fun x hx => ?_⟩
 rw [List.mem_singleton.1 hx]
 exact OB.below (OB.below (OB.alloc O1.out _) D3) DA

section
variable {a w : World} {g : Nat} {lv : Value} {ls pre : List (List UInt8 × Value)}
theorem End_der {v : Value} (h : Rd a w g lv [([], v)]) : Calls Tryz.prog 85 #[.pointer (some ⟨g, 0, none⟩)] w fun e w' => e = .returned .nilIface ∧ w = w' := by
 obtain ⟨q, o, cq, A, c, e1, -, -, c0, ce, e2, c1, -, -, -⟩ := Rd.cells (pre := []) h
 simp only [List.length_nil, Nat.add_zero, Nat.zero_add] at c0 c1
 clear h
 go_enter Tryz.func85, Tryz.ntmps85
 go_wp2
 go_ret
 exact ⟨rfl, rfl⟩

set_option maxHeartbeats 1000000 in
theorem Leave_der {x : List UInt8 × Value} {v : Value} (h : Rd a w g lv ([x] ++ [([], v)])) : Calls Tryz.prog 84 #[.pointer (some ⟨g, 0, none⟩)] w fun e w' => e = .returned (.tuple #[]) ∧ ∃ lv', Rd a w' g lv' [x] ∧ Fr (fun k => k = g) w w' := by
 obtain ⟨q, o, cq, A, c, e1, hqg, -, c0, ce, e2, c1, -, -, -⟩ := Rd.cells h
 have hcap : 2 ≤ cq := by
  obtain ⟨A', c', e', h1, h2⟩ := OwnS.form h.left
  rw [e1] at e'
  injection e' with _ _ e3
  subst e3
  simpa using h1
 subst e1
 have f0 : w.frozen? ⟨g, 0, none⟩ = false := Kx h.row
 have HR := Hj h
 have HQ := Hj hqg
 have m1 : (1 : Int) ≤ (cq : Int) := by omega
 have m2 : 1 ≤ cq := by omega
 simp only [List.length_cons, List.length_nil, Nat.zero_add, Nat.reduceAdd] at c0 c1
 clear h hqg
 go_enter Tryz.func84, Tryz.ntmps84
 go_wp2
 have hG := (Fr.refl (fun k => k = g) w).setCell (p := ⟨g, 0, none⟩) (fun _ => rfl) (.slice (some ⟨q, o, none⟩) 1 cq)
 refine bodyPost_end (results_none rfl _ _ _) rfl ⟨rfl, ⟨.slice (some ⟨q, o, none⟩) 1 cq, ⟨HR.out.bel.trans (hG.below HR.out.bel.size fun i _ e => by rw [e]; exact HR.out.up), HR.out.up, heap_setCell_same _ _ _ _ _ _ HR.out.row, ?_, fun y hy => ?_⟩⟩, hG⟩
 ·have hl := HR.out.left
  have hk : OwnS w a.heap.size 24 1 (.slice (some ⟨q, o, none⟩) 1 cq) 1 [x.2] := by
   obtain ⟨h1, h2⟩ := hl
   rcases h2 with ⟨h2, _⟩ | ⟨g', o', cap', cur, h2, h3, h4, h5, h6, h7, h8⟩
   ·cases h2
   ·injection h2 with e1 e2 e3
    injection e1 with e1
    injection e1 with e4 e5
    subst e4; subst e5; subst e3
    refine ⟨rfl, .inr ⟨_, _, _, _, rfl, h3, h4, by omega, h6, h7, ?_⟩⟩
    have : ((cur.toList.drop o).take (2 * 1)).take 1 = [x.2] := by
     rw [show (2 : Nat) = ([x] ++ [([], v)]).length from rfl, h8]
     rfl
    rwa [List.take_take] at this
  refine OwnS.kept hk hG fun k hk' e => ?_
  injection hk' with hk'
  exact HQ.out (hk'.trans e)
 ·rw [List.mem_singleton.1 hy]
  exact OB.other (HR.out.each x (by simp)) HR.out.row (by decide)

theorem Rd.grow (h : Rd a w g lv ls) {wa w3 : World} {v3 xv : Value} {x : List UInt8} (hb : Below w.heap.size w wa) (hgr : wa.grownBy w3 lv.ownBlock) (hv : OwnS w3 a.heap.size 24 1 v3 (ls.length + 1) (ls.map (fun x => x.2) ++ [xv]))
  (hx : OB wa a.heap.size xv x) : w3.cell? ⟨g, 0, none⟩ = some lv ∧ w3.frozen? ⟨g, 0, none⟩ = false ∧ Rd a (w3.setCell ⟨g, 0, none⟩ v3) g v3 (ls ++ [(x, xv)]) ∧ Fr (fun k => k = g ∨ lv.ownBlock = some k) w (w3.setCell ⟨g, 0, none⟩ v3) := by
 have hF := (Fr.of_below (S := fun k => lv.ownBlock = some k) hb).trans (Fr.of_grown hgr) (fun q _ hq => hq.symm)
 have hgl : g < w.heap.size := (Cz h.row)
 have hgk : lv.ownBlock ≠ some g := fun e => by
  obtain ⟨cur, hcur⟩ := own_type h.left e
  exact absurd (types_ne hcur h.row) (by decide)
 have row3 : w3.heap[g]? = _ := (hF.block g hgl hgk).trans h.row
 have hG := (Fr.refl (fun k => k = g) w3).setCell (p := ⟨g, 0, none⟩) (fun _ => rfl) v3
 have hB3 : Below a.heap.size a w3 := h.bel.trans (hF.below h.bel.size fun i _ e => (OwnS.lt h.left i e).1)
 refine ⟨Kq 0 row3, Kx row3, ⟨hB3.trans (hG.below hB3.size fun i _ e => by rw [e]; exact h.up), h.up, heap_setCell_same _ _ _ _ _ _ row3, ?_, fun y hy => ?_⟩, ?_⟩
 ·rw [List.length_append, List.map_append]
  refine OwnS.kept hv hG fun k hk e => ?_
  subst e
  obtain ⟨cur, hcur⟩ := own_type hv hk
  exact absurd (types_ne hcur row3) (by decide)
 ·have key : OB w3 a.heap.size y.2 y.1 := by
   rcases List.mem_append.1 hy with hy | hy
   ·exact OwnS.kept (h.each y hy) hF fun k hk e => by
     obtain ⟨cur, hcur⟩ := own_type (h.each y hy) hk
     obtain ⟨cur', hcur'⟩ := own_type h.left e
     exact absurd (types_ne hcur hcur') (by decide)
   ·rw [List.mem_singleton.1 hy]
    refine OwnS.kept hx (Fr.of_grown hgr) fun k hk e => ?_
    obtain ⟨cur, hcur⟩ := own_type hx hk
    obtain ⟨cur', hcur'⟩ := own_type (h.left.below hb) e.symm
    exact absurd (types_ne hcur hcur') (by decide)
  exact OB.other key row3 (by decide)
 ·exact (hF.mono fun k _ hk => .inr hk).setCell (p := ⟨g, 0, none⟩) (fun _ => .inl rfl) v3

set_option maxHeartbeats 4000000 in
set_option maxRecDepth 100000 in
theorem Enter_der (body : List UInt8) {v : Value} (h : Rd a w g lv [(elemB 48 body, v)]) (hbl : body.length ≤ 65530) :
  Calls Tryz.prog 80 #[.pointer (some ⟨g, 0, none⟩), .int .i64 48] w fun e w' => e = .returned (.bool true) ∧ ∃ lv' v' vb, Rd a w' g lv' [([], v'), (body, vb)] := by
 have hcs := Rd.cells (pre := []) h
 obtain ⟨q0, o0, cq0, A0, c0, e1, -, -, -, ce, e2, -⟩ := hcs
 simp only at e2
 subst e2
 obtain ⟨L, hL⟩ : ∃ L, L = (elemB 48 body).length := ⟨_, rfl⟩
 have hL0 : (0 : Int) < (L : Int) := by have := elemB_pos 48 body; omega
 have HNow : Hid (Calls Tryz.prog 128 #[.pointer (some ⟨g, 0, none⟩)] w fun e w' => e = .returned (.slice A0 L c0) ∧ ∃ k, w' = w.drewN k) := Hj (by
  have := now_any (pre := []) h (by simp)
  rw [hL]
  exact this)
 obtain ⟨M, hM⟩ : ∃ M, M = body.length := ⟨_, rfl⟩
 have HNext : Hid (∀ W, Below w.heap.size w W → Calls Tryz.prog 130 #[.pointer (some ⟨g, 0, none⟩), .int .i64 48] W fun e w' => ∃ A1 c1 v2 v', e = .returned (.tuple #[.agg #[.int .i64 48, .slice A1 M c1], v2, .bool true]) ∧ OB w' a.heap.size (.slice A1 M c1) body ∧ Rd a w' g lv ([] ++ [([], v')])) := Hj fun W hW => by
  have h2 : Rd a W g lv ([] ++ [(elemB 48 body ++ [], .slice A0 (elemB 48 body).length c0)]) := by
   have := h.below hW
   simpa using this
  have := next_der 48 body [] h2 (by simp) (.inl rfl) (by decide) (by decide) hbl (by simp)
  rw [← hM] at this
  refine this.mono ?_
  rintro e w' ⟨A1, c1, v2, v', rfl, ho, hr, -⟩
  exact ⟨A1, c1, v2, v', rfl, ho.mono (Kv h.bel.size hW.size), hr⟩
 have HMd := Hj (fun W => Made_list W)
 clear h hbl hL hM e1
 go_enter Tryz.func80, Tryz.ntmps80
 go_wp2_with (first
  | (go_at_call 128; (with_reducible refine HNow.out.mono ?_); rintro e w1 ⟨rfl, k1, hk1⟩; have B1 : Hid (Below w.heap.size w w1) := Hj (by rw [hk1]; exact below_drewN (Below.refl _ _) k1); clear hk1)
  | (go_at_call 129; (with_reducible refine (HMd.out w1).mono ?_); rintro e w2 ⟨rfl, rfl⟩)
  | (go_at_call 130; (with_reducible refine (HNext.out w1 B1.out).mono ?_); rintro e w3 ⟨A1, c1, v2, v', rfl, ho3, hr3⟩; have O3 := Hj ho3; have R3 := Hj hr3; clear ho3 hr3)
  | fail)
 obtain ⟨w5, hw5⟩ : ∃ W, W = w3.alloc (.cells #[.int .i64 48, .slice A1 M c1] 141) := ⟨_, rfl⟩
 have D5 := (Below.refl w3.heap.size w3).alloc Kj (.cells #[.int .i64 48, .slice A1 M c1] 141)
 have hr5 := heap_alloc_new w3 (.cells #[.int .i64 48, .slice A1 M c1] 141)
 rw [← hw5] at D5 hr5 ⊢
 obtain ⟨B5, hB5⟩ : ∃ n, n = w3.heap.size := ⟨_, rfl⟩
 rw [← hB5] at hr5 ⊢
 have RD5 : Hid (Rd a w5 g lv ([] ++ [([], v')])) := Hj (R3.out.below D5)
 have hAl := (below_dd (Below.refl w5.heap.size w5)).alloc (by simp) (.cells #[.slice A1 M c1] 24)
 have BAl := Hj hAl
 have SAl : Hid (a.heap.size ≤ (w5.drew.alloc (.cells #[.slice A1 M c1] 24)).heap.size) := Hj (Kv RD5.out.bel.size hAl.size)
 have OAl : Hid (OB (w5.drew.alloc (.cells #[.slice A1 M c1] 24)) a.heap.size (.slice A1 M c1) body) := Hj (OB.alloc (OwnS.drew (OB.below O3.out D5)) _)
 have hrA : (w5.drew.alloc (.cells #[.slice A1 M c1] 24)).heap[B5]? = some (.cells #[.int .i64 48, .slice A1 M c1] 141 (0, 0)) := (hAl.block B5 (Cz hr5)).trans hr5
 have xb : w5.drew.cell? ⟨B5, 1, none⟩ = some (.slice A1 M c1) := cell_of_row w5.drew _ 1 _ _ _ hr5
 have zb : (w5.drew.alloc (.cells #[.slice A1 M c1] 24)).cell? ⟨B5, 1, none⟩ = some (.slice A1 M c1) := Kq 1 hrA
 have hne : lv.ownBlock ≠ some B5 := fun e => by
  obtain ⟨cur, hcur⟩ := own_type RD5.out.left e
  exact absurd (types_ne hcur hr5) (by decide)
 have hng : B5 ≠ g := fun e => by
  rw [e] at hr5
  exact absurd (types_ne hr5 RD5.out.row) (by decide)
 have HB7 : Hid (∀ w7, (w5.drew.alloc (.cells #[.slice A1 M c1] 24)).grownBy w7 lv.ownBlock → w7.heap[B5]? = some (.cells #[.int .i64 48, .slice A1 M c1] 141 (0, 0))) := Hj fun w7 hg7 => ((Fr.of_grown hg7).block B5 (Cz hrA) (fun e => hne e.symm)).trans hrA
 have HU7 : Hid (∀ w7, (w5.drew.alloc (.cells #[.slice A1 M c1] 24)).grownBy w7 lv.ownBlock → ∀ v, (w7.setCell ⟨g, 0, none⟩ v).cell? ⟨B5, 1, none⟩ = some (.slice A1 M c1)) := Hj fun w7 hg7 v => Kq 1 ((Below.heap_setCell w7 ⟨g, 0, none⟩ v B5 hng).trans (HB7.out w7 hg7))
 obtain ⟨q5, o5, cq5, A5, c5, e5, -, -, g0, -⟩ := Rd.cells RD5.out
 subst e5
 simp only [List.length_nil, Nat.zero_add] at g0
 have g1 : (w5.alloc (.cells #[.slice A1 M c1] 24)).cell? ⟨g, 0, none⟩ = some (.slice (some ⟨q5, o5, none⟩) 1 cq5) := Kz hAl _ _ g0
 clear D5 hr5 hw5 hB5 hAl hrA hne
 refine wp_region_noPanic ?_
 refine wp_region_held_drew (S := (fun w' => w'.cell? ⟨B5, 1, none⟩ = some (.slice A1 M c1))) (by kernel_rfl) ?_ (fun hHeld => ?_)
 ·exact xb
 refine tk 0 hHeld ?_
 try simp only [pa]
 refine tk 1 hHeld ?_
 try simp only [pa]
 refine tk 2 hHeld ?_
 try simp only [pa]
 refine tk 3 hHeld ?_
 try simp only [pa]
 refine tk 5 hHeld ?_
 try simp only [pa]
 refine tk 6 hHeld ?_
 try simp only [pa]
 refine rd2 4 7 rfl rfl (fun K hK => ?_) (fun K hK => ?_)
 focus
  go_simp
  refine hK.out _ _ ?_ (fun hHeld => ?_)
  ·first | exact hHeld | exact xb
  clear hK K
  try simp only [pa]
  refine rd1 7 rfl (fun K hK => ?_)
  go_simp
  refine hK.out _ _ ?_ (fun hHeld => ?_)
  ·exact zb
 rotate_right
 focus
  go_simp
  refine hK.out _ _ ?_ (fun hHeld => ?_)
  ·exact zb
  clear hK K
  try simp only [pa]
  refine rd1 4 rfl (fun K hK => ?_)
  go_simp
  refine hK.out _ _ ?_ (fun hHeld => ?_)
  ·first | exact hHeld | exact xb
 all_goals
  clear hK K
  try simp only [pa]
  refine rd1 8 rfl (fun K hK => ?_)
  refine step_append_r0 rfl (.tmp 40) (.tmp 43) (by rfl) (RD5.out.left.below BAl.out) (by rfl) (Src.one w5.drew _ A1 M c1 1 (fun _ _ h => h)) (by rfl) (by simp) SAl.out ?_
  intro v7 w7 hown7 hgr7 hat7
  obtain ⟨A7, c7, rfl, -, -⟩ := OwnS.form hown7
  obtain ⟨u0, uf, hz, hu⟩ := RD5.out.grow (x := body) BAl.out hgr7 hown7 OAl.out
  have HZ := Hj hz
  have yb : w7.cell? ⟨B5, 1, none⟩ = some (.slice A1 M c1) := Kq 1 (HB7.out w7 hgr7)
  have ub := HU7.out w7 hgr7 (.slice A7 2 c7)
  clear hown7 hgr7 hat7 hz hu
  refine hK.out _ _ ?_ (fun hHeld => ?_)
  ·exact yb
  clear hK K
  try simp only [pa]
  refine tk 9 hHeld ?_
  try simp only [pa]
  refine tk 10 hHeld ?_
  try simp only [pa]
  refine rd1 11 rfl (fun K hK => ?_)
  go_simp
  refine hK.out _ _ ?_ (fun hHeld => ?_)
  ·exact ub
  clear hK K
  try simp only [pa]
  refine wpAnyH_done (by kernel_rfl) ?_ _
  refine NoPanic.normal ?_
  go_wp2
  go_ret
  exact ⟨rfl, _, _, _, HZ.out⟩
end
end Go.Proofs.YtfmagnpmjlppiaaGreatDoor

/- Layer 8 (der): the reader, where all is as it should be: Enum, Int, Octets. -/
namespace Go.Proofs.YtfmagnpmjlppiaaGreatDoor
open Go.RowKit
section
variable {a w : World} {g : Nat} {lv : Value} {pre : List (List UInt8 × Value)} {rest : List UInt8}

theorem clo_Enum (A : Option Addr) (m c n b1 b2 : Nat) (lo hi : Int) (w : World) (hb : RB w A m (intB n)) (hmc : m ≤ c) (hc : c ≤ maxLen) (hn : n < 4611686018427387904) (h1 : lo ≤ (n : Int)) (h2 : (n : Int) ≤ hi) (c1 : w.cell? ⟨b1, 0, none⟩ = some (.int .i64 lo)) (c2 : w.cell? ⟨b2, 0, none⟩ = some (.int .i64 hi)) :
  Calls Tryz.prog 132 #[.slice A m c, .pointer (some ⟨b1, 0, none⟩), .pointer (some ⟨b2, 0, none⟩)] w fun e w' => e = .returned (.tuple #[.int .i64 (n : Int), .nilIface]) ∧ w = w' := by
 have HR := Hj (Range_any A m c n lo hi w hb hmc hc hn h1 h2)
 clear hb hmc hc hn h1 h2
 go_enter Tryz.func132, Tryz.ntmps132
 go_wp2_with (first
  | (go_at_call 75; go_loud ((with_reducible refine HR.out.mono ?_); rintro e w1 ⟨rfl, rfl⟩))
  | fail)
 go_ret2
 exact ⟨rfl, rfl⟩

set_option maxHeartbeats 2000000 in
set_option maxRecDepth 100000 in
theorem value_Enum (n : Nat) {v : Value} (lo hi : Int) (b1 b2 : Nat) (h : Rd a w g lv (pre ++ [(elemB 10 (intB n) ++ rest, v)])) (hp : pre.length ≤ 100) (hn : n < 4611686018427387904) (hrl : rest.length ≤ 1000000) (h1 : lo ≤ (n : Int)) (h2 : (n : Int) ≤ hi)
  (c1 : w.cell? ⟨b1, 0, none⟩ = some (.int .i64 lo)) (c2 : w.cell? ⟨b2, 0, none⟩ = some (.int .i64 hi)) (o1 : lv.ownBlock ≠ some b1) (o2 : lv.ownBlock ≠ some b2) :
  Calls Tryz.prog 131 #[.pointer (some ⟨g, 0, none⟩), .int .i64 10, .func (.func 132) #[] #[.pointer (some ⟨b1, 0, none⟩), .pointer (some ⟨b2, 0, none⟩)]] w fun e w' => e = .returned (.int .i64 (n : Int)) ∧ (∃ v', Rd a w' g lv (pre ++ [(rest, v')])) ∧ Fr (fun k => lv.ownBlock = some k) w w' := by
 have hlen : (intB n).length ≤ 65530 := by unfold intB; rw [List.length_reverse]; have := lowI_len (n := n) 8 (by omega); omega
 have HNx : Hid (Calls Tryz.prog 130 #[.pointer (some ⟨g, 0, none⟩), .int .i64 10] w fun e w' => ∃ A1 c1 v2 v', e = .returned (.tuple #[.agg #[.int .i64 10, .slice A1 (intB n).length c1], v2, .bool true]) ∧ OB w' w.heap.size (.slice A1 (intB n).length c1) (intB n) ∧ Rd a w' g lv (pre ++ [(rest, v')]) ∧ Fr (fun k => lv.ownBlock = some k) w w') := Hj (next_der 10 (intB n) rest h hp (.inr (by simp [plainT])) (by decide) (by decide) hlen hrl)
 obtain ⟨M, hM⟩ : ∃ M, M = (intB n).length := ⟨_, rfl⟩
 rw [← hM] at HNx
 have l1 := World.block_lt_of_cell? w _ c1
 have l2 := World.block_lt_of_cell? w _ c2
 have HCl : Hid (∀ W A c, Fr (fun k => lv.ownBlock = some k) w W → OB W 0 (.slice A M c) (intB n) → Calls Tryz.prog 132 #[.slice A M c, .pointer (some ⟨b1, 0, none⟩), .pointer (some ⟨b2, 0, none⟩)] W fun e w' => e = .returned (.tuple #[.int .i64 (n : Int), .nilIface]) ∧ W = w') := Hj fun W A c hF ho => by
  obtain ⟨Ax, cx, ex, h3, h4, h5⟩ := OB.form ho
  rw [← hM] at ex h3 h5
  injection ex with ex1 _ ex2
  subst ex1
  subst ex2
  exact clo_Enum A M c n b1 b2 lo hi W h5 h3 h4 hn h1 h2 ((hF.cell l1 o1).trans c1) ((hF.cell l2 o2).trans c2)
 clear h hp hn hrl h1 h2 c1 c2 o1 o2 hM hlen l1 l2
 go_enter Tryz.func131, Tryz.ntmps131
 go_wp2_with (first
  | (go_at_call 130; go_loud ((with_reducible refine HNx.out.mono ?_); rintro e w3 ⟨A1, c1, v2, v', rfl, ho3, hr3, hf3⟩; have R3 := Hj (hr3.below ((Below.refl w3.heap.size w3).alloc Kj (.cells #[.int .i64 10, .slice A1 M c1] 141))); have F4 := Hj (hf3.alloc (.cells #[.int .i64 10, .slice A1 M c1] 141)); have C4 := Hj (HCl.out _ A1 c1 F4.out (OB.alloc (ho3.mono (Nat.zero_le _)) _)); clear ho3 hr3 hf3))
  | (go_at_call 132; go_loud ((with_reducible refine C4.out.mono ?_); rintro e w5 ⟨rfl, rfl⟩))
  | fail)
 go_ret
 exact ⟨rfl, ⟨v', R3.out⟩, F4.out⟩

set_option maxHeartbeats 1000000 in
theorem REnum (n : Nat) {v : Value} (lo hi : Int) (h : Rd a w g lv (pre ++ [(elemB 10 (intB n) ++ rest, v)])) (hp : pre.length ≤ 100) (hn : n < 4611686018427387904) (hrl : rest.length ≤ 1000000) (h1 : lo ≤ (n : Int)) (h2 : (n : Int) ≤ hi) :
  Calls Tryz.prog 81 #[.pointer (some ⟨g, 0, none⟩), .int .i64 lo, .int .i64 hi] w fun e w' => e = .returned (.int .i64 (n : Int)) ∧ (∃ v', Rd a w' g lv (pre ++ [(rest, v')])) ∧ Fr (fun k => lv.ownBlock = some k) w w' := by
 obtain ⟨w2, hw2⟩ : ∃ W, W = (w.alloc (.cells #[.int .i64 lo] 3)).alloc (.cells #[.int .i64 hi] 3) := ⟨_, rfl⟩
 have D1 := (Below.refl w.heap.size w).alloc Kj (.cells #[.int .i64 lo] 3)
 have D2 := D1.alloc D1.size (.cells #[.int .i64 hi] 3)
 have r1 := heap_alloc2_old w (.cells #[.int .i64 lo] 3) (.cells #[.int .i64 hi] 3)
 have r2 := heap_alloc2_new w (.cells #[.int .i64 lo] 3) (.cells #[.int .i64 hi] 3)
 rw [← hw2] at D2 r1 r2
 have hlt : ∀ k, lv.ownBlock = some k → k < w.heap.size := fun k hk => (OwnS.lt h.left k hk).2
 have HV := Hj (value_Enum n lo hi w.heap.size (w.heap.size + 1) (h.below D2) hp hn hrl h1 h2 (Kq 0 r1) (Kq 0 r2) (fun e => by have := hlt _ e; omega) (fun e => by have := hlt _ e; omega))
 have HD := Hj D2
 clear h hp hn hrl h1 h2 D1 D2 r1 r2 hlt
 go_enter Tryz.func81, Tryz.ntmps81
 go_wp2_with (first
  | (go_at_call 131; go_loud (rw [← hw2]; (with_reducible refine HV.out.mono ?_); rintro e w3 ⟨rfl, hr3, hf3⟩; have R3 := Hj hr3; have F3 := Hj hf3; clear hr3 hf3))
  | fail)
 go_ret
 exact ⟨rfl, R3.out, (Fr.of_below (S := fun k => lv.ownBlock = some k) HD.out).trans F3.out fun _ _ hk => hk⟩

theorem clo_Int (A : Option Addr) (m c n b1 b2 : Nat) (lo hi : Int) (w : World) (hb : RB w A m (intB n)) (hmc : m ≤ c) (hc : c ≤ maxLen) (hn : n < 4611686018427387904) (h1 : lo ≤ (n : Int)) (h2 : (n : Int) ≤ hi) (c1 : w.cell? ⟨b1, 0, none⟩ = some (.int .i64 lo)) (c2 : w.cell? ⟨b2, 0, none⟩ = some (.int .i64 hi)) :
  Calls Tryz.prog 135 #[.slice A m c, .pointer (some ⟨b1, 0, none⟩), .pointer (some ⟨b2, 0, none⟩)] w fun e w' => e = .returned (.tuple #[.int .i64 (n : Int), .nilIface]) ∧ w = w' := by
 have HR := Hj (Range_any A m c n lo hi w hb hmc hc hn h1 h2)
 clear hb hmc hc hn h1 h2
 go_enter Tryz.func135, Tryz.ntmps135
 go_wp2_with (first
  | (go_at_call 75; go_loud ((with_reducible refine HR.out.mono ?_); rintro e w1 ⟨rfl, rfl⟩))
  | fail)
 go_ret2
 exact ⟨rfl, rfl⟩

set_option maxHeartbeats 2000000 in
set_option maxRecDepth 100000 in
theorem value_Int (n : Nat) {v : Value} (lo hi : Int) (b1 b2 : Nat) (h : Rd a w g lv (pre ++ [(elemB 2 (intB n) ++ rest, v)])) (hp : pre.length ≤ 100) (hn : n < 4611686018427387904) (hrl : rest.length ≤ 1000000) (h1 : lo ≤ (n : Int)) (h2 : (n : Int) ≤ hi)
  (c1 : w.cell? ⟨b1, 0, none⟩ = some (.int .i64 lo)) (c2 : w.cell? ⟨b2, 0, none⟩ = some (.int .i64 hi)) (o1 : lv.ownBlock ≠ some b1) (o2 : lv.ownBlock ≠ some b2) :
  Calls Tryz.prog 131 #[.pointer (some ⟨g, 0, none⟩), .int .i64 2, .func (.func 135) #[] #[.pointer (some ⟨b1, 0, none⟩), .pointer (some ⟨b2, 0, none⟩)]] w fun e w' => e = .returned (.int .i64 (n : Int)) ∧ (∃ v', Rd a w' g lv (pre ++ [(rest, v')])) ∧ Fr (fun k => lv.ownBlock = some k) w w' := by
 have hlen : (intB n).length ≤ 65530 := by unfold intB; rw [List.length_reverse]; have := lowI_len (n := n) 8 (by omega); omega
 have HNx : Hid (Calls Tryz.prog 130 #[.pointer (some ⟨g, 0, none⟩), .int .i64 2] w fun e w' => ∃ A1 c1 v2 v', e = .returned (.tuple #[.agg #[.int .i64 2, .slice A1 (intB n).length c1], v2, .bool true]) ∧ OB w' w.heap.size (.slice A1 (intB n).length c1) (intB n) ∧ Rd a w' g lv (pre ++ [(rest, v')]) ∧ Fr (fun k => lv.ownBlock = some k) w w') := Hj (next_der 2 (intB n) rest h hp (.inr (by simp [plainT])) (by decide) (by decide) hlen hrl)
 obtain ⟨M, hM⟩ : ∃ M, M = (intB n).length := ⟨_, rfl⟩
 rw [← hM] at HNx
 have l1 := World.block_lt_of_cell? w _ c1
 have l2 := World.block_lt_of_cell? w _ c2
 have HCl : Hid (∀ W A c, Fr (fun k => lv.ownBlock = some k) w W → OB W 0 (.slice A M c) (intB n) → Calls Tryz.prog 135 #[.slice A M c, .pointer (some ⟨b1, 0, none⟩), .pointer (some ⟨b2, 0, none⟩)] W fun e w' => e = .returned (.tuple #[.int .i64 (n : Int), .nilIface]) ∧ W = w') := Hj fun W A c hF ho => by
  obtain ⟨Ax, cx, ex, h3, h4, h5⟩ := OB.form ho
  rw [← hM] at ex h3 h5
  injection ex with ex1 _ ex2
  subst ex1
  subst ex2
  exact clo_Int A M c n b1 b2 lo hi W h5 h3 h4 hn h1 h2 ((hF.cell l1 o1).trans c1) ((hF.cell l2 o2).trans c2)
 clear h hp hn hrl h1 h2 c1 c2 o1 o2 hM hlen l1 l2
 go_enter Tryz.func131, Tryz.ntmps131
 go_wp2_with (first
  | (go_at_call 130; go_loud ((with_reducible refine HNx.out.mono ?_); rintro e w3 ⟨A1, c1, v2, v', rfl, ho3, hr3, hf3⟩; have R3 := Hj (hr3.below ((Below.refl w3.heap.size w3).alloc Kj (.cells #[.int .i64 2, .slice A1 M c1] 141))); have F4 := Hj (hf3.alloc (.cells #[.int .i64 2, .slice A1 M c1] 141)); have C4 := Hj (HCl.out _ A1 c1 F4.out (OB.alloc (ho3.mono (Nat.zero_le _)) _)); clear ho3 hr3 hf3))
  | (go_at_call 135; go_loud ((with_reducible refine C4.out.mono ?_); rintro e w5 ⟨rfl, rfl⟩))
  | fail)
 go_ret
 exact ⟨rfl, ⟨v', R3.out⟩, F4.out⟩

set_option maxHeartbeats 1000000 in
theorem RInt (n : Nat) {v : Value} (lo hi : Int) (h : Rd a w g lv (pre ++ [(elemB 2 (intB n) ++ rest, v)])) (hp : pre.length ≤ 100) (hn : n < 4611686018427387904) (hrl : rest.length ≤ 1000000) (h1 : lo ≤ (n : Int)) (h2 : (n : Int) ≤ hi) :
  Calls Tryz.prog 83 #[.pointer (some ⟨g, 0, none⟩), .int .i64 lo, .int .i64 hi] w fun e w' => e = .returned (.int .i64 (n : Int)) ∧ (∃ v', Rd a w' g lv (pre ++ [(rest, v')])) ∧ Fr (fun k => lv.ownBlock = some k) w w' := by
 obtain ⟨w2, hw2⟩ : ∃ W, W = (w.alloc (.cells #[.int .i64 lo] 3)).alloc (.cells #[.int .i64 hi] 3) := ⟨_, rfl⟩
 have D1 := (Below.refl w.heap.size w).alloc Kj (.cells #[.int .i64 lo] 3)
 have D2 := D1.alloc D1.size (.cells #[.int .i64 hi] 3)
 have r1 := heap_alloc2_old w (.cells #[.int .i64 lo] 3) (.cells #[.int .i64 hi] 3)
 have r2 := heap_alloc2_new w (.cells #[.int .i64 lo] 3) (.cells #[.int .i64 hi] 3)
 rw [← hw2] at D2 r1 r2
 have hlt : ∀ k, lv.ownBlock = some k → k < w.heap.size := fun k hk => (OwnS.lt h.left k hk).2
 have HV := Hj (value_Int n lo hi w.heap.size (w.heap.size + 1) (h.below D2) hp hn hrl h1 h2 (Kq 0 r1) (Kq 0 r2) (fun e => by have := hlt _ e; omega) (fun e => by have := hlt _ e; omega))
 have HD := Hj D2
 clear h hp hn hrl h1 h2 D1 D2 r1 r2 hlt
 go_enter Tryz.func83, Tryz.ntmps83
 go_wp2_with (first
  | (go_at_call 131; go_loud (rw [← hw2]; (with_reducible refine HV.out.mono ?_); rintro e w3 ⟨rfl, hr3, hf3⟩; have R3 := Hj hr3; have F3 := Hj hf3; clear hr3 hf3))
  | fail)
 go_ret
 exact ⟨rfl, R3.out, (Fr.of_below (S := fun k => lv.ownBlock = some k) HD.out).trans F3.out fun _ _ hk => hk⟩

theorem clo_Octets (A : Option Addr) (m c b1 b2 : Nat) (lo hi : Int) (w : World) (h1 : lo ≤ (m : Int)) (h2 : (m : Int) ≤ hi) (c1 : w.cell? ⟨b1, 0, none⟩ = some (.int .i64 lo)) (c2 : w.cell? ⟨b2, 0, none⟩ = some (.int .i64 hi)) :
  Calls Tryz.prog 134 #[.slice A m c, .pointer (some ⟨b1, 0, none⟩), .pointer (some ⟨b2, 0, none⟩)] w fun e w' => e = .returned (.tuple #[.slice A m c, .nilIface]) ∧ w = w' := by
 have q1 : decide ((m : Int) < lo) = false := decide_eq_false (by omega)
 have q2 : decide ((m : Int) > hi) = false := decide_eq_false (by omega)
 have q2' : decide (hi < (m : Int)) = false := decide_eq_false (by omega)
 clear h1 h2
 go_enter Tryz.func134, Tryz.ntmps134
 go_wp2
 go_ret2
 exact ⟨rfl, rfl⟩

set_option maxHeartbeats 2000000 in
set_option maxRecDepth 100000 in
theorem value_Octets (x : List UInt8) {v : Value} (lo hi : Int) (b1 b2 : Nat) (h : Rd a w g lv (pre ++ [(elemB 4 x ++ rest, v)])) (hp : pre.length ≤ 100) (hx : x.length ≤ 65530) (hrl : rest.length ≤ 1000000) (h1 : lo ≤ (x.length : Int)) (h2 : (x.length : Int) ≤ hi)
  (c1 : w.cell? ⟨b1, 0, none⟩ = some (.int .i64 lo)) (c2 : w.cell? ⟨b2, 0, none⟩ = some (.int .i64 hi)) (o1 : lv.ownBlock ≠ some b1) (o2 : lv.ownBlock ≠ some b2) :
  Calls Tryz.prog 133 #[.pointer (some ⟨g, 0, none⟩), .int .i64 4, .func (.func 134) #[] #[.pointer (some ⟨b1, 0, none⟩), .pointer (some ⟨b2, 0, none⟩)]] w fun e w' => ∃ A c, e = .returned (.slice A x.length c) ∧ OB w' w.heap.size (.slice A x.length c) x ∧ (∃ v', Rd a w' g lv (pre ++ [(rest, v')])) ∧ Fr (fun k => lv.ownBlock = some k) w w' := by
 have HNx : Hid (Calls Tryz.prog 130 #[.pointer (some ⟨g, 0, none⟩), .int .i64 4] w fun e w' => ∃ A1 c1 v2 v', e = .returned (.tuple #[.agg #[.int .i64 4, .slice A1 x.length c1], v2, .bool true]) ∧ OB w' w.heap.size (.slice A1 x.length c1) x ∧ Rd a w' g lv (pre ++ [(rest, v')]) ∧ Fr (fun k => lv.ownBlock = some k) w w') := Hj (next_der 4 x rest h hp (.inr (by simp [plainT])) (by decide) (by decide) hx hrl)
 obtain ⟨M, hM⟩ : ∃ M, M = x.length := ⟨_, rfl⟩
 rw [← hM] at HNx h1 h2 ⊢
 have l1 := World.block_lt_of_cell? w _ c1
 have l2 := World.block_lt_of_cell? w _ c2
 have HCl : Hid (∀ W A c, Fr (fun k => lv.ownBlock = some k) w W → Calls Tryz.prog 134 #[.slice A M c, .pointer (some ⟨b1, 0, none⟩), .pointer (some ⟨b2, 0, none⟩)] W fun e w' => e = .returned (.tuple #[.slice A M c, .nilIface]) ∧ W = w') := Hj fun W A c hF =>
  clo_Octets A M c b1 b2 lo hi W h1 h2 ((hF.cell l1 o1).trans c1) ((hF.cell l2 o2).trans c2)
 clear h hp hx hrl h1 h2 c1 c2 o1 o2 hM l1 l2
 go_enter Tryz.func133, Tryz.ntmps133
 go_wp2_with (first
  | (go_at_call 130; go_loud ((with_reducible refine HNx.out.mono ?_); rintro e w3 ⟨A1, c1, v2, v', rfl, ho3, hr3, hf3⟩; have R3 := Hj (hr3.below ((Below.refl w3.heap.size w3).alloc Kj (.cells #[.int .i64 4, .slice A1 M c1] 141))); have F4 := Hj (hf3.alloc (.cells #[.int .i64 4, .slice A1 M c1] 141)); have C4 := Hj (HCl.out _ A1 c1 F4.out); have O4 := Hj (OB.alloc ho3 (.cells #[.int .i64 4, .slice A1 M c1] 141)); clear ho3 hr3 hf3))
  | (go_at_call 134; go_loud ((with_reducible refine C4.out.mono ?_); rintro e w5 ⟨rfl, rfl⟩))
  | fail)
 go_ret
 exact ⟨A1, c1, rfl, O4.out, ⟨v', R3.out⟩, F4.out⟩

set_option maxHeartbeats 1000000 in
theorem ROctets (x : List UInt8) {v : Value} (lo hi : Int) (h : Rd a w g lv (pre ++ [(elemB 4 x ++ rest, v)])) (hp : pre.length ≤ 100) (hx : x.length ≤ 65530) (hrl : rest.length ≤ 1000000) (h1 : lo ≤ (x.length : Int)) (h2 : (x.length : Int) ≤ hi) :
  Calls Tryz.prog 82 #[.pointer (some ⟨g, 0, none⟩), .int .i64 lo, .int .i64 hi] w fun e w' => ∃ A c, e = .returned (.slice A x.length c) ∧ OB w' w.heap.size (.slice A x.length c) x ∧ (∃ v', Rd a w' g lv (pre ++ [(rest, v')])) ∧ Fr (fun k => lv.ownBlock = some k) w w' := by
 obtain ⟨w2, hw2⟩ : ∃ W, W = (w.alloc (.cells #[.int .i64 lo] 3)).alloc (.cells #[.int .i64 hi] 3) := ⟨_, rfl⟩
 have D1 := (Below.refl w.heap.size w).alloc Kj (.cells #[.int .i64 lo] 3)
 have D2 := D1.alloc D1.size (.cells #[.int .i64 hi] 3)
 have r1 := heap_alloc2_old w (.cells #[.int .i64 lo] 3) (.cells #[.int .i64 hi] 3)
 have r2 := heap_alloc2_new w (.cells #[.int .i64 lo] 3) (.cells #[.int .i64 hi] 3)
 rw [← hw2] at D2 r1 r2
 have hlt : ∀ k, lv.ownBlock = some k → k < w.heap.size := fun k hk => (OwnS.lt h.left k hk).2
 have HV := Hj (value_Octets x lo hi w.heap.size (w.heap.size + 1) (h.below D2) hp hx hrl h1 h2 (Kq 0 r1) (Kq 0 r2) (fun e => by have := hlt _ e; omega) (fun e => by have := hlt _ e; omega))
 have HD := Hj D2
 clear h hp hx hrl h1 h2 D1 D2 r1 r2 hlt
 go_enter Tryz.func82, Tryz.ntmps82
 go_wp2_with (first
  | (go_at_call 133; go_loud (rw [← hw2]; (with_reducible refine HV.out.mono ?_); rintro e w3 ⟨A3, c3, rfl, ho3, hr3, hf3⟩; have R3 := Hj hr3; have F3 := Hj hf3; have O3 := Hj ho3; clear hr3 hf3 ho3))
  | fail)
 go_ret
 exact ⟨A3, c3, rfl, OB.mono O3.out HD.out.size, R3.out, (Fr.of_below (S := fun k => lv.ownBlock = some k) HD.out).trans F3.out fun _ _ hk => hk⟩
end
end Go.Proofs.YtfmagnpmjlppiaaGreatDoor

/- Layer 8 (der): the writer: Close, Done. -/
namespace Go.Proofs.YtfmagnpmjlppiaaGreatDoor
open Go.RowKit

/-- A writer whose list was taken off; what is done lies in dv. -/
structure Wr2 (a w : World) (g q o cq : Nat) (dv : Value) (d : List UInt8) : Prop where
 bel : Below a.heap.size a w
 up : a.heap.size ≤ g
 row : w.heap[g]? = some (.cells #[.slice (some ⟨q, o, none⟩) 0 cq, dv, .nilIface] 199 (0, 0))
 done : OB w a.heap.size dv d
section
variable {a w : World} {g q o cq : Nat} {kv dv : Value} {ws : List (List UInt8 × Value)} {d : List UInt8}
theorem Wr2.below (h : Wr2 a w g q o cq dv d) {W : World} (hb : Below w.heap.size w W) : Wr2 a W g q o cq dv d :=
 ⟨h.bel.trans (hb.mono h.bel.size), h.up, (hb.block g (Cz h.row)).trans h.row, h.done.below hb⟩

set_option maxHeartbeats 1000000 in
theorem add_done (h : Wr2 a w g q o cq dv d) (A : Option Addr) (n c : Nat) (x : List UInt8) (hb : RB w A n x) (hd : d.length ≤ 1000000) (hn : n ≤ 1000000) :
  Calls Tryz.prog 216 #[.pointer (some ⟨g, 0, none⟩), .slice A n c] w fun e w' => e = .returned (.tuple #[]) ∧ ∃ dv', Wr2 a w' g q o cq dv' (d ++ x) := by
 have HB := Hj hb
 have HW := Hj h
 have HN := Hj (And.intro hd hn)
 have c0 : w.cell? ⟨g, 0, none⟩ = some (.slice (some ⟨q, o, none⟩) 0 cq) := Kq 0 h.row
 obtain ⟨AD, cD, eD, -, -, -⟩ := OB.form h.done
 subst eD
 have c1 : w.cell? ⟨g, 1, none⟩ = some (.slice AD d.length cD) := Kq 1 h.row
 clear h hb hd hn
 go_enter Tryz.func216, Tryz.ntmps216
 go_wp2_with (first
  | (at_builtin; go_loud (refine wpList_append_b rfl (.tmp 37) (.tmp 38) 24 rfl HW.out.done rfl (RB.src Tryz.underlying24 HB.out) rfl (by have := HN.out; have := HB.out.1; omega) HW.out.bel.size ?_; intro v2 w2 hown2 hgr2 hat2; obtain ⟨A2, c2, e2, -, -, -⟩ := OB.form hown2; subst e2; have O2 := Hj hown2; have hB2 : Fr (fun k => (Value.slice AD d.length cD).ownBlock = some k) w w2 := (Fr.of_grown hgr2).mono (fun k _ hk => hk.symm); have hgk : (Value.slice AD d.length cD).ownBlock ≠ some g := (fun e => by obtain ⟨cur, hcur⟩ := own_type HW.out.done e; exact absurd (types_ne hcur HW.out.row) (by decide)); have row2 : w2.heap[g]? = some (.cells #[.slice (some ⟨q, o, none⟩) 0 cq, .slice AD d.length cD, .nilIface] 199 (0, 0)) := (hB2.block g (Cz HW.out.row) hgk).trans HW.out.row; have R2 := Hj row2; have F2 := Hj hB2; have d1 : w2.cell? ⟨g, 1, none⟩ = some (.slice AD d.length cD) := Kq 1 row2; have f1 : w2.frozen? ⟨g, 1, none⟩ = false := Kx row2; clear hown2 hgr2 hat2 hB2 hgk row2))
  | fail)
 refine bodyPost_end (results_none rfl _ _ _) rfl ⟨rfl, .slice A2 (d ++ x).length c2, ?_⟩
 rw [← List.length_append]
 have hG := (Fr.refl (fun k => k = g) w2).setCell (p := ⟨g, 1, none⟩) (fun _ => rfl) (.slice A2 (d ++ x).length c2)
 have hB3 : Below a.heap.size a w2 := HW.out.bel.trans (F2.out.below HW.out.bel.size fun i _ e => (OwnS.lt HW.out.done i e).1)
 refine ⟨hB3.trans (hG.below hB3.size fun i _ e => by rw [e]; exact HW.out.up), HW.out.up, heap_setCell_same _ g 1 _ _ _ R2.out, OwnS.kept O2.out hG fun k hk e => ?_⟩
 subst e
 obtain ⟨cur, hcur⟩ := own_type O2.out hk
 exact absurd (types_ne hcur R2.out) (by decide)
theorem put_done (h : Wr2 a w g q o cq (.slice none 0 0) []) (tag : Nat) (A : Option Addr) (m c : Nat) (body : List UInt8) (ht : Tag (tag : Int)) (htl : tag < 256) (hb : RB w A m body) (hmc : m ≤ c) (hc : c ≤ maxLen) (hm : m ≤ 65530) :
  Calls Tryz.prog 186 #[.pointer (some ⟨g, 0, none⟩), .int .i64 (tag : Int), .slice A m c, .nilIface] w fun e w' => e = .returned (.tuple #[]) ∧ ∃ dv', Wr2 a w' g q o cq dv' (elemB tag body) :=
 put_gen (R := fun _ w' => ∃ dv', Wr2 a w' g q o cq dv' (elemB tag body)) tag A m c body h.row rfl ht htl hb hmc hc hm fun W A' n' c' hW hA _ _ =>
  add_done (h.below hW) A' n' c' _ hA (by simp) (by rw [← hA.1]; have := elemB_le tag (b := body) (by rw [hb.1]; exact hm); omega)
/-- The kids as a list of bytes' slices. -/
theorem kids_rbl {B : Nat} (hk : OwnS w B 24 1 kv ws.length (ws.map fun x => x.2)) (he : ∀ x ∈ ws, OB w B x.2 x.1) : ∃ A c, kv = .slice A ws.length c ∧ ws.length ≤ c ∧ c ≤ maxLen ∧ RBL w A ws.length (ws.map fun x => x.1) := by
 obtain ⟨A, c, e, h1, h2⟩ := OwnS.form hk
 refine ⟨A, c, e, h1, h2, by simp, fun hn => ?_⟩
 obtain ⟨q', o', c', e', -, -, hc⟩ := OwnS.cells hk (by simpa using hn)
 rw [e] at e'
 injection e' with e1 _ _
 refine ⟨q', o', e1, fun k hk => ⟨(ws[k]).2, hc k _ (by simp [hk]), ?_⟩⟩
 have := (he ws[k] (List.getElem_mem hk)).sb
 rw [show ((ws.map fun x => x.1).getD k []) = (ws[k]).1 by simp [hk]]
 exact this

set_option maxHeartbeats 1000000 in
theorem body_any (tagv : Int) (htg : (tagv == 49) = false) (A : Option Addr) (n c : Nat) (ls : List (List UInt8)) (w : World) (hl : RBL w A n ls) (hn : n ≤ maxLen) (hlen : ls.flatten.length ≤ 1000000000) :
  Calls Tryz.prog 187 #[.agg #[.int .i64 tagv, .slice A n c]] w fun e w' => ∃ v, e = .returned v ∧ OB w' w.heap.size v ls.flatten ∧ Below w.heap.size w w' := by
 obtain ⟨wb, hwb⟩ : ∃ W, W = w.alloc (.cells #[.int .i64 tagv, .slice A n c] 255) := ⟨_, rfl⟩
 have hbb := (Below.refl w.heap.size w).alloc Kj (.cells #[.int .i64 tagv, .slice A n c] 255)
 have hrow := heap_alloc_new w (.cells #[.int .i64 tagv, .slice A n c] 255)
 have c0 : (w.alloc (.cells #[.int .i64 tagv, .slice A n c] 255)).cell? ⟨w.heap.size, 0, none⟩ = some (.int .i64 tagv) := Kq 0 hrow
 have c1 : (w.alloc (.cells #[.int .i64 tagv, .slice A n c] 255)).cell? ⟨w.heap.size, 1, none⟩ = some (.slice A n c) := Kq 1 hrow
 have HC := Hj (Concat_any A n c ls _ (hl.keep (Kz hbb)) hn hlen)
 have HB := Hj hbb
 clear hbb hrow hl hn hlen
 go_enter Tryz.func187, Tryz.ntmps187
 go_wp2_with (first
  | (go_at_call 124; go_loud ((with_reducible refine HC.out.mono ?_); rintro e w2 ⟨v2, rfl, ho2, hb2⟩; have O2 := Hj ho2; have B2 := Hj hb2; clear ho2 hb2))
  | fail)
 go_ret
 exact ⟨v2, rfl, OB.mono O2.out HB.out.size, HB.out.trans (B2.out.mono HB.out.size)⟩

set_option maxHeartbeats 1000000 in
theorem Done_der (h : Wr2 a w g q o cq dv d) (hd : d.length ≤ 65536) :
  Calls Tryz.prog 142 #[.pointer (some ⟨g, 0, none⟩)] w fun e w' => ∃ A c, e = .returned (.tuple #[.slice A d.length c, .nilIface]) ∧ OB w' w.heap.size (.slice A d.length c) d ∧ Below w.heap.size w w' := by
 obtain ⟨AD, cD, eD, -, -, hr⟩ := OB.form h.done
 subst eD
 have c0 : w.cell? ⟨g, 0, none⟩ = some (.slice (some ⟨q, o, none⟩) 0 cq) := Kq 0 h.row
 have c1 : w.cell? ⟨g, 1, none⟩ = some (.slice AD d.length cD) := Kq 1 h.row
 have c2 : w.cell? ⟨g, 2, none⟩ = some .nilIface := Kq 2 h.row
 have HC := Hj (Clone_any AD d.length cD d w hr (by omega))
 have q1 : decide ((d.length : Int) > 65536) = false := decide_eq_false (by omega)
 have q1' : decide (65536 < (d.length : Int)) = false := decide_eq_false (by omega)
 have q1n : decide (65536 < d.length) = false := decide_eq_false (by omega)
 have HD := Hj hd
 clear h hr hd
 go_enter Tryz.func142, Tryz.ntmps142
 go_wp2_with (first
  | (go_at_call 78; go_loud ((with_reducible refine HC.out.mono ?_); rintro e w2 ⟨A2, k2, rfl, ho2, hb2⟩; have O2 := Hj ho2; have B2 := Hj hb2; clear ho2 hb2))
  | fail)
 go_ret2
 exact ⟨A2, k2, rfl, O2.out, B2.out⟩

theorem Wr1.kcells (h : Wr1 a w g q o cq kv ws) : w.cell? ⟨g, 0, none⟩ = some (.slice (some ⟨q, o, none⟩) 1 cq) ∧ w.cell? ⟨g, 2, none⟩ = some .nilIface ∧ w.frozen? ⟨g, 0, none⟩ = false :=
 ⟨Kq 0 h.row, Kq 2 h.row, Kx h.row⟩
/-- The list is taken off. -/
theorem Wr1.off (h : Wr1 a w g q o cq kv ws) {W : World} (hb : Below w.heap.size w W) : Wr2 a (W.setCell ⟨g, 0, none⟩ (.slice (some ⟨q, o, none⟩) 0 cq)) g q o cq (.slice none 0 0) [] := by
 have h' := h.below hb
 have hG := (Fr.refl (fun k => k = g) W).setCell (p := ⟨g, 0, none⟩) (fun _ => rfl) (.slice (some ⟨q, o, none⟩) 0 cq)
 exact ⟨h'.bel.trans (hG.below h'.bel.size fun i _ e => by rw [e]; exact h.up), h.up, heap_setCell_same _ g 0 _ _ _ h'.row, OB.nil _ _⟩
theorem Wr1.off_rbl (h : Wr1 a w g q o cq kv ws) {W : World} (hb : Below w.heap.size w W) (v : Value) : ∃ A c, kv = .slice A ws.length c ∧ ws.length ≤ c ∧ c ≤ maxLen ∧ RBL (W.setCell ⟨g, 0, none⟩ v) A ws.length (ws.map fun x => x.1) := by
 have h' := h.below hb
 have hG := (Fr.refl (fun k => k = g) W).setCell (p := ⟨g, 0, none⟩) (fun _ => rfl) v
 refine kids_rbl (B := a.heap.size) (OwnS.kept h'.kids hG fun k hk e => ?_) fun x hx => OwnS.kept (h'.each x hx) hG fun k hk e => ?_
 ·subst e
  obtain ⟨cur, hcur⟩ := own_type h'.kids hk
  exact absurd (types_ne hcur h'.row) (by decide)
 ·subst e
  obtain ⟨cur, hcur⟩ := own_type (h'.each x hx) hk
  exact absurd (types_ne hcur h'.row) (by decide)

set_option maxHeartbeats 2000000 in
set_option maxRecDepth 100000 in
theorem Close_der (h : Wr1 a w g q o cq kv ws) (hlen : (ws.map fun x => x.1).flatten.length ≤ 65530) :
  Calls Tryz.prog 141 #[.pointer (some ⟨g, 0, none⟩)] w fun e w' => e = .returned (.tuple #[]) ∧ ∃ dv, Wr2 a w' g q o cq dv (elemB 48 (ws.map fun x => x.1).flatten) := by
 obtain ⟨c0, c2, -⟩ := h.kcells
 obtain ⟨cq0, cq1⟩ := Wr1.cells h
 obtain ⟨AV, cV, eV, hV1, hV2, -⟩ := h.off_rbl (Below.refl _ _) (.nilIface)
 subst eV
 obtain ⟨ls, hls⟩ : ∃ l, l = (ws.map fun x => x.1) := ⟨_, rfl⟩
 rw [← hls] at hlen ⊢
 obtain ⟨fl, hfl⟩ : ∃ l, l = ls.flatten := ⟨_, rfl⟩
 rw [← hfl] at hlen ⊢
 have D := (Below.refl w.heap.size w).alloc Kj (.cells #[.int .i64 48, .slice AV ws.length cV] 255)
 obtain ⟨wc, hwc⟩ : ∃ W, W = (w.alloc (.cells #[.int .i64 48, .slice AV ws.length cV] 255)).setCell ⟨g, 0, none⟩ (.slice (some ⟨q, o, none⟩) 0 cq) := ⟨_, rfl⟩
 have hoff := h.off D
 obtain ⟨AV', cV', e', -, -, hrb⟩ := h.off_rbl D (.slice (some ⟨q, o, none⟩) 0 cq)
 injection e' with e1 _ e3
 subst e1; subst e3
 rw [← hls] at hrb
 have f0 : ∀ ob, (w.alloc ob).frozen? ⟨g, 0, none⟩ = false := fun ob => Kx (h.below ((Below.refl w.heap.size w).alloc Kj ob)).row
 have b0 : ∀ ob, (w.alloc ob).cell? ⟨g, 0, none⟩ = some (.slice (some ⟨q, o, none⟩) 1 cq) := fun ob => Kq 0 (h.below ((Below.refl w.heap.size w).alloc Kj ob)).row
 have HO := Hj hoff
 have HR := Hj hrb
 have HLS := Hj hls
 have HV := Hj (And.intro hV1 hV2)
 have HH := Hj h
 have HL := Hj hlen
 have HWC := Hj hwc
 have hgn : g ≠ w.heap.size := fun e => by have := (Cz h.row); omega
 have hrow : wc.heap[w.heap.size]? = some (.cells #[.int .i64 48, .slice AV ws.length cV] 255 (0, 0)) := by
  rw [hwc]
  exact (Below.heap_setCell _ ⟨g, 0, none⟩ _ _ (fun e => hgn e.symm)).trans (heap_alloc_new w _)
 have HK : Hid (∀ W, Below wc.heap.size wc W → W.cell? ⟨w.heap.size, 0, none⟩ = some (.int .i64 48) ∧ W.cell? ⟨w.heap.size, 1, none⟩ = some (.slice AV ws.length cV)) := Hj fun W hW => ⟨Kz hW _ _ (Kq 0 hrow), Kz hW _ _ (Kq 1 hrow)⟩
 have HBd : Hid (∀ W, Below wc.heap.size wc W → Calls Tryz.prog 187 #[.agg #[.int .i64 48, .slice AV ws.length cV]] W fun e w' => ∃ v, e = .returned v ∧ OB w' W.heap.size v fl ∧ Below W.heap.size W w') := Hj fun W hW => by
  rw [hfl]
  exact body_any 48 rfl AV ws.length cV ls W (by rw [← hwc] at hrb; exact hrb.keep (Kz hW)) (Kv hV1 hV2) (by rw [← hfl]; omega)
 have HPt : Hid (∀ W A c, Below wc.heap.size wc W → OB W wc.heap.size (.slice A fl.length c) fl → Calls Tryz.prog 186 #[.pointer (some ⟨g, 0, none⟩), .int .i64 48, .slice A fl.length c, .nilIface] W fun e w' => e = .returned (.tuple #[]) ∧ ∃ dv', Wr2 a w' g q o cq dv' (elemB 48 fl)) := Hj fun W A c hW ho => by
  obtain ⟨A', c', e, h1, h2, h3⟩ := OB.form ho
  injection e with e1 _ e3
  subst e1; subst e3
  rw [← hwc] at hoff
  exact put_done (hoff.below hW) 48 A _ c fl (.inl rfl) (by decide) h3 h1 h2 hlen
 clear hfl hoff hrb hls hV1 hV2 h hlen hwc D hrow
 go_enter Tryz.func141, Tryz.ntmps141
 go_wp2
 rw [← HWC.out]
 have BD := Hj (below_dd (Below.refl wc.heap.size wc))
 obtain ⟨b0', b1'⟩ := HK.out _ BD.out
 obtain ⟨e0, e1⟩ := HK.out _ (Below.refl _ _)
 refine wp_region_noPanic ?_
 refine wp_region_held_drew (S := (fun _ => True)) (by kernel_rfl) ?_ (fun hHeld => ?_)
 ·trivial
 refine tk 0 hHeld ?_
 try simp only [pa]
 refine tk 1 hHeld ?_
 try simp only [pa]
 refine rd2 2 3 rfl rfl (fun K hK => ?_) (fun K hK => ?_)
 focus
  go_simp
  refine hK.out _ _ ?_ (fun hHeld => ?_)
  ·trivial
  clear hK K
  try simp only [pa]
  refine rd1 3 rfl (fun K hK => ?_)
  go_simp
  refine hK.out _ _ ?_ (fun hHeld => ?_)
  ·trivial
  clear hK K
  try simp only [pa]
  refine rd1 4 rfl (fun K hK => ?_)
  go_simp
  (with_reducible refine (HBd.out wc.drew BD.out).mono ?_)
  rintro e w2 ⟨v2, rfl, ho2, hb2⟩
  obtain ⟨A2, k2, e2, -, -, -⟩ := OB.form ho2
  subst e2
  have B2 := Hj (Below.undrewW hb2)
  obtain ⟨x0, x1⟩ := HK.out w2 B2.out
  have P2 := Hj (HPt.out w2 A2 k2 B2.out ho2)
  clear ho2 hb2
 rotate_right
 focus
  go_simp
  refine hK.out _ _ ?_ (fun hHeld => ?_)
  ·trivial
  clear hK K
  try simp only [pa]
  refine rd2 2 4 rfl rfl (fun K hK => ?_) (fun K hK => ?_)
  focus
   go_simp
   refine hK.out _ _ ?_ (fun hHeld => ?_)
   ·trivial
   clear hK K
   try simp only [pa]
   refine rd1 4 rfl (fun K hK => ?_)
   go_simp
   (with_reducible refine (HBd.out wc.drew BD.out).mono ?_)
   rintro e w2 ⟨v2, rfl, ho2, hb2⟩
   obtain ⟨A2, k2, e2, -, -, -⟩ := OB.form ho2
   subst e2
   have B2 := Hj (Below.undrewW hb2)
   obtain ⟨x0, x1⟩ := HK.out w2 B2.out
   have P2 := Hj (HPt.out w2 A2 k2 B2.out ho2)
   clear ho2 hb2
  rotate_right
  focus
   go_simp
   (with_reducible refine (HBd.out wc.drew BD.out).mono ?_)
   rintro e w2 ⟨v2, rfl, ho2, hb2⟩
   obtain ⟨A2, k2, e2, -, -, -⟩ := OB.form ho2
   subst e2
   have B2 := Hj (Below.undrewW hb2)
   obtain ⟨x0, x1⟩ := HK.out w2 B2.out
   have P2 := Hj (HPt.out w2 A2 k2 B2.out ho2)
   clear ho2 hb2
   refine hK.out _ _ ?_ (fun hHeld => ?_)
   ·trivial
   clear hK K
   try simp only [pa]
   refine rd1 2 rfl (fun K hK => ?_)
   go_simp
 all_goals
  refine hK.out _ _ ?_ (fun hHeld => ?_)
  ·trivial
  clear hK K
  try simp only [pa]
  refine rd1 5 rfl (fun K hK => ?_)
  go_simp
  (with_reducible refine P2.out.mono ?_)
  rintro e w3 ⟨rfl, hz⟩
  have R3 := Hj hz
  clear hz
  refine hK.out _ _ ?_ (fun hHeld => ?_)
  ·trivial
  clear hK K
  try simp only [pa]
  refine wpAnyH_done (by kernel_rfl) ?_ _
  refine NoPanic.normal ?_
  go_wp2
  exact bodyPost_end (results_none rfl _ _ _) rfl ⟨rfl, R3.out⟩
end
end Go.Proofs.YtfmagnpmjlppiaaGreatDoor
