/- Layer 16, tables of int to int: Fold, with the law's add. -/
import Derived.Test.YtbpmigcbfbdnjaaKeysII
import Derived.Test.YtbpmigcbfbdnjaaRound
import Derived.RangeFuncNested
namespace Go.Proofs.Ytbpmigcbfbdnjaa.II
open Go.RowKit Go.Shelf
attribute [local go_sem] Oper.semAt_some

def addI (s k v : Int) : Int := wrap64 (wrap64 (wrap64 (s * 3) + k.tmod 7) + v)

theorem add_any (s k v : Int) (w : World) : Calls Try.prog 11 #[.int .i64 s, .int .i64 k, .int .i64 v] w fun e w' => e = .returned (.int .i64 (addI s k v)) ∧ w = w' := by
  go_enter Try.func11, Try.ntmps11
  go_wp2
  go_ret
  exact ⟨rfl, rfl⟩

def foldN {w : World} (first : Int) (pre : List (Nd w)) : Int := pre.foldl (fun s y => addI s y.1.2.1 y.1.2.2) first
theorem foldN_snoc {w : World} (first : Int) (pre : List (Nd w)) (x : Nd w) : foldN first (pre ++ [x]) = addI (foldN first pre) x.1.2.1 x.1.2.2 := by simp [foldN]

set_option maxRecDepth 100000 in
set_option maxHeartbeats 4000000 in
theorem Fold_in (F : Fence) (hwf : Hid (F = Fence.wide)) (hd : F.depth = none) (n : Nat) (h3 : F.fn 13) (h4 : F.fn 43) (h5 : F.fn 59) (h6 : F.fn 60) (hro : F.round = none) (hn : 3 ≤ n) (g0 : Nat) (s : Code) (first : Int) (l : List (Int × Int)) (w : World) (a : TabAt w g0 s l) :
    CallsIn F n Try.prog 13 #[.pointer (some ⟨g0, 0, none⟩), .int .i64 first, .func (.func 11) #[] #[]] w fun e W' => e = .returned (.int .i64 (l.foldl (fun s y => addI s y.1 y.2) first)) ∧ Below w.heap.size w W' := by
  obtain ⟨p0, hg, ht⟩ := a
  obtain ⟨ns, hns, hT⟩ := NTr.of_T _ s p0 l (Nat.le_refl _) ht
  obtain ⟨f, hf⟩ : ∃ f, f = sz s := ⟨_, rfl⟩
  rw [← hf] at hT
  clear hf
  have Hns := Lib.hid hns
  have hglt := (Array.getElem?_eq_some_iff.1 hg).1
  have h1 : 1 ≤ n := by omega
  clear ht hns
  refine callsIn_of_wp_marks Try.func13 rfl h3 ?_ hro
  simp only [Try.ntmps13, List.size_toArray, List.length_cons, List.length_nil, Nat.reduceAdd, Nat.reduceSub, Array.replicate_succ, Array.replicate_zero, List.push_toArray, List.append_toArray, List.nil_append, List.cons_append]
  gi_wp2_with (gi_at_call 43; refine (all_in F (n - 1) h4 hro _ _).mono ?_; rintro e w' ⟨rfl, rfl⟩)
  have bO := Boxed.new w 3 (.int .i64 first)
  have bF := Boxed.new (w.alloc (.cells #[.int .i64 first] 3)) 30 (.func (.func 11) #[] #[])
  have bN := Boxed.new ((w.alloc (.cells #[.int .i64 first] 3)).alloc (.cells #[.func (.func 11) #[] #[]] 30)) 24 (.pointer (some ⟨g0, 0, none⟩))
  simp only [World.size_alloc] at bF bN
  have hB0 : Below w.heap.size w (((w.alloc (.cells #[.int .i64 first] 3)).alloc (.cells #[.func (.func 11) #[] #[]] 30)).alloc (.cells #[.pointer (some ⟨g0, 0, none⟩)] 24)) := (((Below.refl _ w).alloc (Nat.le_refl _) _).alloc (by simp) _).alloc (by simp; omega) _
  refine wpIn_rangeFunc_ownG hro h1 (gf := 59) (lb := #[.pointer (some ⟨w.heap.size + 1 + 1, 0, none⟩)]) rfl h5 (enters_of Try.func59 (by kernel_rfl) rfl)
    (all_stops F hwf hd (n - 1) h5 h6 hro w (w.heap.size + 1 + 1) g0 f p0 ns _ hB0 (by simp) bN.cell (Keeps.of_below hB0 _ _ (cell_of_one hg)) hT) belowK_t (belowK_b (by simp; omega)) (Below.refl _ _) (fun _ => rfl)
    (fun pre W => (Boxed W w.heap.size 3 (.int .i64 (foldN first pre)) ∧ Boxed W (w.heap.size + 1) 30 (.func (.func 11) #[] #[])) ∧ Below w.heap.size w W)
    (fun _ _ _ => False)
    (OwnFrom.and (Own.from (fun s X Y row h hg hr => ⟨boxed_own w.heap.size 3 (fun pre : List (Nd w) => .int .i64 (foldN first pre)) s X Y row h.1 hg hr, boxed_own (w.heap.size + 1) 30 (fun _ : List (Nd w) => .func (.func 11) #[] #[]) s X Y row h.2 hg hr⟩) _) (ownFrom_below (Nat.le_refl _) (by simp; omega)))
    (fun _ _ _ _ _ hs _ _ => hs)
    ⟨⟨(bO.alloc _).alloc _, bF.alloc _⟩, hB0⟩
    (fun x => { tmps := #[.pointer (some ⟨g0, 0, none⟩), .int .i64 first, .func (.func 11) #[] #[], undef, .pointer (some ⟨w.heap.size, 0, none⟩), .pointer (some ⟨w.heap.size + 1, 0, none⟩), .int .i64 0, .pointer (some ⟨x.1.1, 0, none⟩), .pointer (some ⟨g0, 0, none⟩), .func (.func 59) #[] #[.pointer (some ⟨w.heap.size + 1 + 1, 0, none⟩)], .pointer (some ⟨x.1.1, 0, none⟩), undef, undef, undef, undef, undef, undef, undef, undef, undef, undef, undef, undef], defers := [] }) ?assign ?body ?done ?stop
  case assign =>
    intro l x W K hK
    gi_wp2
    exact hK
  case body =>
    rintro l pre x W ⟨⟨hv, hf⟩, hB⟩ hlt
    have hwe := hwf.out
    subst hwe
    have hc := hv.cell
    have hcf := hv.frozen
    have hc2 := hf.cell
    have hx := (hB.cell (p := ⟨x.1.1, 0, none⟩) x.2.1).trans x.2.2.1
    have hy := (hB.cell (p := ⟨x.1.1, 1, none⟩) x.2.1).trans x.2.2.2
    have hmx : Try.prog.follows .mixedOrders = true := by kernel_rfl
    gi_wp2
    refine wpIn_region_round (S := fun W' => W'.cell? ⟨w.heap.size + 1, 0, none⟩ = W.cell? ⟨w.heap.size + 1, 0, none⟩ ∧ W'.cell? ⟨x.1.1, 0, none⟩ = W.cell? ⟨x.1.1, 0, none⟩ ∧ W'.cell? ⟨x.1.1, 1, none⟩ = W.cell? ⟨x.1.1, 1, none⟩) l _ hmx (by kernel_rfl) (by rintro ⟨_, _, h⟩; exact h) ⟨rfl, rfl, rfl⟩ (fun hHeld => ?_)
    refine wpAnyH_take (i := 0) (v := ?_) rfl (by kernel_rfl) (by kernel_rfl) (by kernel_rfl) (fun _ _ _ h => h) (Or.inl ⟨by rfl, ?_⟩) hHeld ?_
    rotate_left
    · intro w2 hSw
      obtain ⟨s0, s1, s2⟩ := hSw
      go_simp
      first | done | (with_reducible rfl)
    try simp only [Act.put, List.setIfInBounds_toArray, List.set_cons_zero, List.set_cons_succ, List.getElem_toArray, List.getElem_cons_zero]
    refine wpAnyH_take (i := 2) (v := ?_) rfl (by kernel_rfl) (by kernel_rfl) (by kernel_rfl) (fun _ _ _ h => h) (Or.inl ⟨by rfl, ?_⟩) hHeld ?_
    rotate_left
    · intro w2 hSw
      obtain ⟨s0, s1, s2⟩ := hSw
      go_simp
      first | done | (with_reducible rfl)
    try simp only [Act.put, List.setIfInBounds_toArray, List.set_cons_zero, List.set_cons_succ, List.getElem_toArray, List.getElem_cons_succ, List.getElem_cons_zero]
    refine wpAnyH_take (i := 3) (v := ?_) rfl (by kernel_rfl) (by kernel_rfl) (by kernel_rfl) (fun _ _ _ h => h) (Or.inl ⟨by rfl, ?_⟩) hHeld ?_
    rotate_left
    · intro w2 hSw
      obtain ⟨s0, s1, s2⟩ := hSw
      go_simp
      first | done | (with_reducible rfl)
    try simp only [Act.put, List.setIfInBounds_toArray, List.set_cons_zero, List.set_cons_succ, List.getElem_toArray, List.getElem_cons_succ, List.getElem_cons_zero]
    refine wpAnyH_take (i := 4) (v := ?_) rfl (by kernel_rfl) (by kernel_rfl) (by kernel_rfl) (fun _ _ _ h => h) (Or.inl ⟨by rfl, ?_⟩) hHeld ?_
    rotate_left
    · intro w2 hSw
      obtain ⟨s0, s1, s2⟩ := hSw
      go_simp
      first | done | (with_reducible rfl)
    try simp only [Act.put, List.setIfInBounds_toArray, List.set_cons_zero, List.set_cons_succ, List.getElem_toArray, List.getElem_cons_succ, List.getElem_cons_zero]
    refine wpAnyH_take (i := 5) (v := ?_) rfl (by kernel_rfl) (by kernel_rfl) (by kernel_rfl) (fun _ _ _ h => h) (Or.inl ⟨by rfl, ?_⟩) hHeld ?_
    rotate_left
    · intro w2 hSw
      obtain ⟨s0, s1, s2⟩ := hSw
      go_simp
      first | done | (with_reducible rfl)
    try simp only [Act.put, List.setIfInBounds_toArray, List.set_cons_zero, List.set_cons_succ, List.getElem_toArray, List.getElem_cons_succ, List.getElem_cons_zero]
    refine wpAnyH_take (i := 6) (v := ?_) rfl (by kernel_rfl) (by kernel_rfl) (by kernel_rfl) (fun _ _ _ h => h) (Or.inl ⟨by rfl, ?_⟩) hHeld ?_
    rotate_left
    · intro w2 hSw
      obtain ⟨s0, s1, s2⟩ := hSw
      go_simp
      first | done | (with_reducible rfl)
    try simp only [Act.put, List.setIfInBounds_toArray, List.set_cons_zero, List.set_cons_succ, List.getElem_toArray, List.getElem_cons_succ, List.getElem_cons_zero]
    refine wpAnyH_take (i := 7) (v := ?_) rfl (by kernel_rfl) (by kernel_rfl) (by kernel_rfl) (fun _ _ _ h => h) (Or.inl ⟨by rfl, ?_⟩) hHeld ?_
    rotate_left
    · intro w2 hSw
      obtain ⟨s0, s1, s2⟩ := hSw
      go_simp
      first | done | (with_reducible rfl)
    try simp only [Act.put, List.setIfInBounds_toArray, List.set_cons_zero, List.set_cons_succ, List.getElem_toArray, List.getElem_cons_succ, List.getElem_cons_zero]
    refine wpAnyH_take (i := 8) (v := ?_) rfl (by kernel_rfl) (by kernel_rfl) (by kernel_rfl) (fun _ _ _ h => h) (Or.inl ⟨by rfl, ?_⟩) hHeld ?_
    rotate_left
    · intro w2 hSw
      obtain ⟨s0, s1, s2⟩ := hSw
      go_simp
      first | done | (with_reducible rfl)
    try simp only [Act.put, List.setIfInBounds_toArray, List.set_cons_zero, List.set_cons_succ, List.getElem_toArray, List.getElem_cons_succ, List.getElem_cons_zero]
    refine wpAnyH_take (i := 9) (v := ?_) rfl (by kernel_rfl) (by kernel_rfl) (by kernel_rfl) (fun _ _ _ h => h) (Or.inl ⟨by rfl, ?_⟩) hHeld ?_
    rotate_left
    · intro w2 hSw
      obtain ⟨s0, s1, s2⟩ := hSw
      go_simp
      first | done | (with_reducible rfl)
    try simp only [Act.put, List.setIfInBounds_toArray, List.set_cons_zero, List.set_cons_succ, List.getElem_toArray, List.getElem_cons_succ, List.getElem_cons_zero]
    refine wpAnyH_ready (rs := [1]) (by kernel_rfl) (by simp) ?_
    refine AllReadyH.cons (o := _) rfl (fun K hK => ?_) AllReadyH.nil
    go_simp
    refine hK.out _ _ hHeld (fun hHeld => ?_)
    clear hK K
    try simp only [Act.put, List.setIfInBounds_toArray, List.set_cons_zero, List.set_cons_succ, List.getElem_toArray, List.getElem_cons_succ, List.getElem_cons_zero]
    refine wpAnyH_ready (rs := [10]) (by kernel_rfl) (by simp) ?_
    refine AllReadyH.cons (o := _) rfl (fun K hK => ?_) AllReadyH.nil
    go_simp
    refine (add_any _ _ _ _).mono ?_
    rintro e w5 ⟨rfl, rfl⟩
    refine hK.out _ _ hHeld (fun hHeld => ?_)
    clear hK K
    try simp only [Act.put, List.setIfInBounds_toArray, List.set_cons_zero, List.set_cons_succ, List.getElem_toArray, List.getElem_cons_succ, List.getElem_cons_zero]
    refine wpAnyH_ready (rs := [11]) (by kernel_rfl) (by simp) ?_
    refine AllReadyH.cons (o := _) rfl (fun K hK => ?_) AllReadyH.nil
    go_simp
    refine hK.out _ _ ⟨World.cell?_setCell_far W _ _ _ (by simp), World.cell?_setCell_far W _ _ _ (by have := x.2.1; simp; omega), World.cell?_setCell_far W _ _ _ (by have := x.2.1; simp; omega)⟩ (fun hHeld => ?_)
    clear hK K
    refine wpAnyH_done (by kernel_rfl) ?_ _
    refine ⟨((KeepsOthers.setCell W ⟨w.heap.size, 0, none⟩ _).trans (KeepsOthers.drew _)).from _, below_dr ((Below.refl _ W).setCell (p := ⟨w.heap.size, 0, none⟩) (Nat.le_refl _) _), ⟨?_, ?_⟩, ?_⟩
    · rw [foldN_snoc]
      exact hv.set _
    · exact hf.other (by omega) _
    · exact hB.trans (below_dr ((Below.refl _ W).setCell (p := ⟨w.heap.size, 0, none⟩) (Nat.le_refl _) _))
  case done =>
    rintro D ys W hD rfl ⟨⟨hv, hf⟩, hB⟩ hK
    have hc := hv.cell
    gi_wp2
    refine ⟨by simp, .inl ⟨_, _, rfl, run_takeDeferred hK, ?_⟩⟩
    refine ⟨_, results_tmp rfl _ _ _, ?_, hB.trans (belowK_b (w := w) (Nat.le_refl _) W D _ _ (by simp at hD; omega) hK rfl rfl)⟩
    rw [← Hns.out, List.foldl_map]
    rfl
  case stop =>
    rintro D c pre W _ _ h _
    exact h.elim
end Go.Proofs.Ytbpmigcbfbdnjaa.II
