/- Layer 16, tables of int to bool: what the nodes' functions compute. -/
import Derived.Test.YtgiaifglkecdjaaTree
import Derived.Test.YtgiaifglkecdjaaRowP
import Derived.Test.YtgiaifglkecdjaaOwn
import Derived.Test.YtgiaifglkecdjaaRows
import Derived.Deep.RegionHeld3
import Derived.StillTailTactics
namespace Go.Proofs.Ytgiaifglkecdjaa.IB
open Go.RowKit

/-- Block b is a node. -/
def NP (w : World) (b : Nat) (k : Int) (v : Bool) (pl pr : Option Addr) (h s : Nat) : Prop :=
  w.heap[b]? = some (.cells #[(.int .i64 k), (.bool v), .pointer pl, .pointer pr, .int .i64 (h : Int), .int .i64 (s : Int)] 72 (0, 0))

theorem NP.cells {w : World} {b : Nat} {k : Int} {v : Bool} {pl pr : Option Addr} {h s : Nat} (x : NP w b k v pl pr h s) :
    w.cell? ⟨b, 0, none⟩ = some (.int .i64 k) ∧ w.cell? ⟨b, 1, none⟩ = some (.bool v) ∧ w.cell? ⟨b, 2, none⟩ = some (.pointer pl) ∧ w.cell? ⟨b, 3, none⟩ = some (.pointer pr) ∧
    w.cell? ⟨b, 4, none⟩ = some (.int .i64 (h : Int)) ∧ w.cell? ⟨b, 5, none⟩ = some (.int .i64 (s : Int)) :=
  ⟨cell_of_row w b 0 _ _ _ x, cell_of_row w b 1 _ _ _ x, cell_of_row w b 2 _ _ _ x, cell_of_row w b 3 _ _ _ x, cell_of_row w b 4 _ _ _ x, cell_of_row w b 5 _ _ _ x⟩

/-- The nodes stay. -/
def KN (w w' : World) : Prop := ∀ (b : Nat) (cs : Array Value), w.heap[b]? = some (.cells cs 72 (0, 0)) → w'.heap[b]? = some (.cells cs 72 (0, 0))

theorem NP.keepN {w w' : World} (hk : KN w w') (b : Nat) (k : Int) (v : Bool) (pl pr : Option Addr) (h s : Nat) (x : NP w b k v pl pr h s) : NP w' b k v pl pr h s := hk _ _ x
theorem NP.keep {w w' : World} (hk : BK w w') (b : Nat) (k : Int) (v : Bool) (pl pr : Option Addr) (h s : Nat) (x : NP w b k v pl pr h s) : NP w' b k v pl pr h s :=
  (hk b (Array.getElem?_eq_some_iff.1 x).1).trans x

theorem NP.new {w : World} {b : Nat} {k : Int} {v : Bool} {pl pr : Option Addr} {h s : Nat} {h' s' : Int} (hb : w.heap[b]? = some (.cells #[(.int .i64 k), (.bool v), .pointer pl, .pointer pr, .int .i64 h', .int .i64 s'] 72 (0, 0))) (e1 : h' = (h : Int)) (e2 : s' = (s : Int)) : NP w b k v pl pr h s := by
  subst e1 e2
  exact hb

abbrev T (w : World) (s : Code) (p : Option Addr) (l : List (Int × Bool)) : Prop := Tr NP w s p l
theorem T.keep {w w' : World} {s : Code} {p : Option Addr} {l : List (Int × Bool)} (a : T w s p l) (hk : BK w w') : T w' s p l := Tr.keep a (NP.keep hk)
theorem T.keepN {w w' : World} {s : Code} {p : Option Addr} {l : List (Int × Bool)} (a : T w s p l) (hk : KN w w') : T w' s p l := Tr.keep a (NP.keepN hk)

theorem high_T (s : Code) (p : Option Addr) (l : List (Int × Bool)) (w : World) (a : T w s p l) :
    Calls Try.prog 33 #[.pointer p] w fun e w' => e = .returned (.int .i64 (ht s : Int)) ∧ w = w' := by
  rcases a.open with ⟨rfl, rfl, rfl⟩ | ⟨b, k, v, pl, pr, ll, lr, sl, sr, rfl, hn, -, rfl, -, -⟩
  · clear a
    go_enter Try.func33, Try.ntmps33
    go_wp2
    go_ret
    exact ⟨rfl, rfl⟩
  · obtain ⟨-, -, -, -, c4, -⟩ := NP.cells hn
    clear a
    go_enter Try.func33, Try.ntmps33
    go_wp2
    go_ret
    exact ⟨ret_int (by rw [ht_seq]; omega), rfl⟩

theorem many_T (s : Code) (p : Option Addr) (l : List (Int × Bool)) (w : World) (a : T w s p l) :
    Calls Try.prog 34 #[.pointer p] w fun e w' => e = .returned (.int .i64 (l.length : Int)) ∧ w = w' := by
  rcases a.open with ⟨rfl, rfl, rfl⟩ | ⟨b, k, v, pl, pr, ll, lr, sl, sr, rfl, hn, hll, rfl, -, -⟩
  · clear a
    go_enter Try.func34, Try.ntmps34
    go_wp2
    go_ret
    exact ⟨rfl, rfl⟩
  · obtain ⟨-, -, -, -, -, c5⟩ := NP.cells hn
    clear a
    have HL := Lib.hid hll
    clear hll
    go_enter Try.func34, Try.ntmps34
    go_wp2
    go_ret
    exact ⟨ret_int (by rw [HL.out, List.length_append, List.length_cons]; omega), rfl⟩

theorem high_S {s : Code} {p : Option Addr} {l : List (Int × Bool)} {w : World} (a : T w s p l) (w2 : World) (hk : BK w w2) :
    Calls Try.prog 33 #[.pointer p] w2 fun e w' => e = .returned (.int .i64 (ht s : Int)) ∧ w' = w2 := (high_T s p l w2 (T.keep a hk)).mono fun _ _ x => ⟨x.1, x.2.symm⟩
theorem many_S {s : Code} {p : Option Addr} {l : List (Int × Bool)} {w : World} (a : T w s p l) (w2 : World) (hk : BK w w2) :
    Calls Try.prog 34 #[.pointer p] w2 fun e w' => e = .returned (.int .i64 (l.length : Int)) ∧ w' = w2 := (many_T s p l w2 (T.keep a hk)).mono fun _ _ x => ⟨x.1, x.2.symm⟩

set_option maxHeartbeats 1000000 in
set_option maxRecDepth 100000 in
/-- with: a node of the same key and value over two trees. -/
theorem with_T (b : Nat) (k : Int) (v : Bool) (sl sr : Code) (pl pr : Option Addr) (ll lr : List (Int × Bool)) (w : World)
    (c0 : w.cell? ⟨b, 0, none⟩ = some (.int .i64 k)) (c1 : w.cell? ⟨b, 1, none⟩ = some (.bool v)) (al : T w sl pl ll) (ar : T w sr pr lr) (hs : ll.length + lr.length ≤ 1099511627776) :
    Calls Try.prog 50 #[.pointer (some ⟨b, 0, none⟩), .pointer pl, .pointer pr] w fun e w' => ∃ p, e = .returned (.pointer p) ∧ T w' (.seq sl sr) p (ll ++ (k, v) :: lr) ∧ Below w.heap.size w w' := by
  have Al := Lib.hid al
  have Ar := Lib.hid ar
  have hlb := al.le
  have hrb := ar.le
  have nl : ll.length ≤ 1099511627776 := by omega
  have nr : lr.length ≤ 1099511627776 := by omega
  have hlb2 : ht sl ≤ 1099511627776 := by omega
  have hrb2 : ht sr ≤ 1099511627776 := by omega
  clear al ar hlb hrb
  go_enter Try.func50, Try.ntmps50
  go_wp2_with fail
  refine wp_region_still_tail 22 (by kernel_rfl) (by kernel_rfl) ?_
  simp only [List.take_succ_cons, List.take_zero, List.drop_succ_cons, List.drop_zero]
  iterate 11 still_step
  still_call (high_S Al.out _ (BK.drew _))
  still_step
  still_call (high_S Ar.out _ (BK.drew _))
  iterate 3 still_step
  still_call (many_S Al.out _ (BK.drew _))
  iterate 2 still_step
  still_call (many_S Ar.out _ (BK.drew _))
  still_step
  refine wpStill_nil ?_
  change wpList _ _ _ _ _ w.drew
  go_wp2
  all_goals
    go_ret
    refine ⟨_, rfl, Tr.node (b := w.heap.size) (NP.new (heap_alloc_new w.drew _) (by omega) (by omega)) (T.keep Al.out ((BK.drew w).trans (BK.of_below ((Below.refl _ _).alloc (Nat.le_refl _) _)))) (T.keep Ar.out ((BK.drew w).trans (BK.of_below ((Below.refl _ _).alloc (Nat.le_refl _) _)))), ?_⟩
    exact (below_dr (Below.refl _ w)).alloc (Nat.le_refl _) _

theorem with_K (b : Nat) (k : Int) (v : Bool) (sl sr : Code) (pl pr : Option Addr) (ll lr : List (Int × Bool)) (w : World)
    (c : w.cell? ⟨b, 0, none⟩ = some (.int .i64 k) ∧ w.cell? ⟨b, 1, none⟩ = some (.bool v)) (al : T w sl pl ll) (ar : T w sr pr lr) (hs : ll.length + lr.length ≤ 1099511627776) (w2 : World) (hk : BK w w2) :
    Calls Try.prog 50 #[.pointer (some ⟨b, 0, none⟩), .pointer pl, .pointer pr] w2 fun e w' => ∃ p, e = .returned (.pointer p) ∧ T w' (.seq sl sr) p (ll ++ (k, v) :: lr) ∧ Below w2.heap.size w2 w' ∧ BK w w' :=
  (with_T b k v sl sr pl pr ll lr w2 (hk.cell _ _ c.1) (hk.cell _ _ c.2) (T.keep al hk) (T.keep ar hk) hs).mono fun _ _ ⟨p, e, t, hb⟩ => ⟨p, e, t, hb, hk.trans (BK.of_below hb)⟩


set_option maxHeartbeats 4000000 in
set_option maxRecDepth 100000 in
/-- lower: one side is too high. -/
theorem lower_T (b : Nat) (k : Int) (v : Bool) (sl sr : Code) (pl pr : Option Addr) (ll lr : List (Int × Bool)) (w : World)
    (c0 : w.cell? ⟨b, 0, none⟩ = some (.int .i64 k)) (c1 : w.cell? ⟨b, 1, none⟩ = some (.bool v)) (al : T w sl pl ll) (ar : T w sr pr lr) (h1 : 0 < ht sl) (hs : ll.length + lr.length ≤ 1099511627776) :
    Calls Try.prog 48 #[.pointer (some ⟨b, 0, none⟩), .pointer pl, .pointer pr] w fun e w' => ∃ p, e = .returned (.pointer p) ∧ T w' (lowS sl sr) p (ll ++ (k, v) :: lr) ∧ Below w.heap.size w w' := by
  obtain ⟨bl, kl, vl, p1, p2, l1, l2, s1, s2, rfl, hnl, rfl, rfl, t1, t2⟩ := al.pos h1
  simp only [List.length_append, List.length_cons] at hs
  have H1 := Lib.hid t1
  have H2 := Lib.hid t2
  have HR := Lib.hid ar
  have HK := Lib.hid (And.intro c0 c1)
  obtain ⟨d0, d1, d2, d3, -, -⟩ := NP.cells hnl
  have HL := Lib.hid (And.intro d0 d1)
  clear c0 c1 al ar t1 t2 d0 d1 h1 hnl
  by_cases hlt : ht s1 < ht s2
  · have hd : decide ((ht s1 : Int) < (ht s2 : Int)) = true := decide_eq_true (by omega)
    obtain ⟨bm, km, vm, p3, p4, l3, l4, s3, s4, rfl, hnm, rfl, rfl, t3, t4⟩ := H2.out.pos (by omega)
    simp only [List.length_append, List.length_cons] at hs
    have H3 := Lib.hid t3
    have H4 := Lib.hid t4
    obtain ⟨e0, e1, e2, e3, -, -⟩ := NP.cells hnm
    have HM := Lib.hid (And.intro e0 e1)
    have HS : Hid (lowS (.seq s1 (.seq s3 s4)) sr = .seq (.seq s1 s3) (.seq s4 sr)) := by
      show _ = _
      simp only [lowS]
      rw [if_pos hlt]
    clear t3 t4 e0 e1 hnm
    go_enter Try.func48, Try.ntmps48
    go_wp2_with fail
    refine wp_region_still_lit (by kernel_rfl) (by kernel_rfl) ?_
    iterate 4 still_step
    still_call (high_S H1.out _ (BK.drew _))
    iterate 4 still_step
    still_call (high_S H2.out _ (BK.drew _))
    still_step
    refine wpStill_nil ?_
    change Exit.then _ _ _ _ w.drew
    go_wp2_with fail
    have Hk1 : Hid (BK w w.drew.drew) := (BK.drew w).trans (BK.drew _)
    have Hb1 : Hid (Below w.heap.size w w.drew.drew) := below_dr (below_dr (Below.refl _ w))
    go_region_held3 (fun w' => w'.cell? ⟨bl, 2, none⟩ = some (.pointer p1) ∧ w'.cell? ⟨bm, 2, none⟩ = some (.pointer p3) ∧ w'.cell? ⟨bm, 3, none⟩ = some (.pointer p4)) (go_keep)
      (first
        | (go_at_call 50; (with_reducible refine (with_K bl kl vl s1 s3 p1 p3 l1 l3 w HL.out H1.out H3.out (by omega) _ Hk1.out).mono ?_); rintro e w5 ⟨q5, rfl, t5, hb5, hk5⟩; have Hb5 := Lib.hid (Hb1.out.trans (hb5.mono Hb1.out.size)); have Ht5 := Lib.hid t5; have Hk5 := Lib.hid hk5; have r1 := hk5.cell _ _ d2; have r2 := hk5.cell _ _ e2; have r3 := hk5.cell _ _ e3; clear t5 hb5 hk5)
        | (go_at_call 50; (with_reducible refine (with_K b k v s4 sr p4 pr l4 lr w HK.out H4.out HR.out (by omega) _ Hk5.out).mono ?_); rintro e w6 ⟨q6, rfl, t6, hb6, hk6⟩; have Ht56 := Lib.hid (T.keep Ht5.out (BK.of_below hb6)); have Hb6 := Lib.hid (Hb5.out.trans (hb6.mono Hb5.out.size)); have Ht6 := Lib.hid t6; have Hk6 := Lib.hid hk6; have r1 := hk6.cell _ _ d2; have r2 := hk6.cell _ _ e2; have r3 := hk6.cell _ _ e3; have m0 := hk6.cell _ _ HM.out.1; have m1 := hk6.cell _ _ HM.out.2; clear t6 hb6 hk6)
        | (go_at_call 50; (with_reducible refine (with_T bm km vm _ _ q5 q6 _ _ w6 m0 m1 Ht56.out Ht6.out (by simp only [List.length_append, List.length_cons]; omega)).mono ?_); rintro e w7 ⟨q7, rfl, t7, hb7⟩; have Hb7 := Lib.hid (Hb6.out.trans (hb7.mono Hb6.out.size)); have Ht7 := Lib.hid t7; have r1 := (BK.of_below hb7).cell _ _ (Hk6.out.cell _ _ d2); have r2 := (BK.of_below hb7).cell _ _ (Hk6.out.cell _ _ e2); have r3 := (BK.of_below hb7).cell _ _ (Hk6.out.cell _ _ e3); clear t7 hb7))
    go_wp2
    go_ret
    refine ⟨q7, rfl, ?_, Hb7.out⟩
    rw [HS.out]
    have := Ht7.out
    simpa using this
  · have hd : decide ((ht s1 : Int) < (ht s2 : Int)) = false := decide_eq_false (by omega)
    have HS : Hid (lowS (.seq s1 s2) sr = .seq s1 (.seq s2 sr)) := by
      show _ = _
      simp only [lowS]
      rw [if_neg hlt]
    go_enter Try.func48, Try.ntmps48
    go_wp2_with fail
    refine wp_region_still_lit (by kernel_rfl) (by kernel_rfl) ?_
    iterate 4 still_step
    still_call (high_S H1.out _ (BK.drew _))
    iterate 4 still_step
    still_call (high_S H2.out _ (BK.drew _))
    still_step
    refine wpStill_nil ?_
    change Exit.then _ _ _ _ w.drew
    go_wp2_with fail
    have Hk1 : Hid (BK w w.drew.drew) := (BK.drew w).trans (BK.drew _)
    have Hb1 : Hid (Below w.heap.size w w.drew.drew) := below_dr (below_dr (Below.refl _ w))
    go_region_held3 (fun w' => w'.cell? ⟨bl, 2, none⟩ = some (.pointer p1) ∧ w'.cell? ⟨bl, 3, none⟩ = some (.pointer p2)) (go_keep)
      (first
        | (go_at_call 50; (with_reducible refine (with_K b k v s2 sr p2 pr l2 lr w HK.out H2.out HR.out (by omega) _ Hk1.out).mono ?_); rintro e w5 ⟨q5, rfl, t5, hb5, hk5⟩; have Hb5 := Lib.hid (Hb1.out.trans (hb5.mono Hb1.out.size)); have Ht5 := Lib.hid t5; have Hk5 := Lib.hid hk5; have r1 := hk5.cell _ _ d2; have r2 := hk5.cell _ _ d3; have m0 := hk5.cell _ _ HL.out.1; have m1 := hk5.cell _ _ HL.out.2; clear t5 hb5 hk5)
        | (go_at_call 50; (with_reducible refine (with_T bl kl vl _ _ p1 q5 l1 _ w5 m0 m1 (T.keep H1.out Hk5.out) Ht5.out (by simp only [List.length_append, List.length_cons]; omega)).mono ?_); rintro e w7 ⟨q7, rfl, t7, hb7⟩; have Hb7 := Lib.hid (Hb5.out.trans (hb7.mono Hb5.out.size)); have Ht7 := Lib.hid t7; have r1 := (BK.of_below hb7).cell _ _ (Hk5.out.cell _ _ d2); have r2 := (BK.of_below hb7).cell _ _ (Hk5.out.cell _ _ d3); clear t7 hb7))
    go_wp2
    go_ret
    refine ⟨q7, rfl, ?_, Hb7.out⟩
    rw [HS.out]
    have := Ht7.out
    simpa using this

set_option maxHeartbeats 4000000 in
set_option maxRecDepth 100000 in
/-- raise: one side is too high. -/
theorem raise_T (b : Nat) (k : Int) (v : Bool) (sl sr : Code) (pl pr : Option Addr) (ll lr : List (Int × Bool)) (w : World)
    (c0 : w.cell? ⟨b, 0, none⟩ = some (.int .i64 k)) (c1 : w.cell? ⟨b, 1, none⟩ = some (.bool v)) (al : T w sl pl ll) (ar : T w sr pr lr) (h1 : 0 < ht sr) (hs : ll.length + lr.length ≤ 1099511627776) :
    Calls Try.prog 49 #[.pointer (some ⟨b, 0, none⟩), .pointer pl, .pointer pr] w fun e w' => ∃ p, e = .returned (.pointer p) ∧ T w' (raiS sl sr) p (ll ++ (k, v) :: lr) ∧ Below w.heap.size w w' := by
  obtain ⟨bl, kl, vl, p1, p2, l1, l2, s1, s2, rfl, hnl, rfl, rfl, t1, t2⟩ := ar.pos h1
  simp only [List.length_append, List.length_cons] at hs
  have H1 := Lib.hid t1
  have H2 := Lib.hid t2
  have HR := Lib.hid al
  have HK := Lib.hid (And.intro c0 c1)
  obtain ⟨d0, d1, d2, d3, -, -⟩ := NP.cells hnl
  have HL := Lib.hid (And.intro d0 d1)
  clear c0 c1 al ar t1 t2 d0 d1 h1 hnl
  by_cases hlt : ht s2 < ht s1
  · have hd : decide ((ht s2 : Int) < (ht s1 : Int)) = true := decide_eq_true (by omega)
    obtain ⟨bm, km, vm, p3, p4, l3, l4, s3, s4, rfl, hnm, rfl, rfl, t3, t4⟩ := H1.out.pos (by omega)
    simp only [List.length_append, List.length_cons] at hs
    have H3 := Lib.hid t3
    have H4 := Lib.hid t4
    obtain ⟨e0, e1, e2, e3, -, -⟩ := NP.cells hnm
    have HM := Lib.hid (And.intro e0 e1)
    have HS : Hid (raiS sl (.seq (.seq s3 s4) s2) = .seq (.seq sl s3) (.seq s4 s2)) := by
      show _ = _
      simp only [raiS]
      rw [if_pos hlt]
    clear t3 t4 e0 e1 hnm
    go_enter Try.func49, Try.ntmps49
    go_wp2_with fail
    refine wp_region_still_lit (by kernel_rfl) (by kernel_rfl) ?_
    iterate 4 still_step
    still_call (high_S H2.out _ (BK.drew _))
    iterate 4 still_step
    still_call (high_S H1.out _ (BK.drew _))
    still_step
    refine wpStill_nil ?_
    change Exit.then _ _ _ _ w.drew
    go_wp2_with fail
    have Hk1 : Hid (BK w w.drew.drew) := (BK.drew w).trans (BK.drew _)
    have Hb1 : Hid (Below w.heap.size w w.drew.drew) := below_dr (below_dr (Below.refl _ w))
    go_region_held3 (fun w' => w'.cell? ⟨bm, 2, none⟩ = some (.pointer p3) ∧ w'.cell? ⟨bm, 3, none⟩ = some (.pointer p4) ∧ w'.cell? ⟨bl, 3, none⟩ = some (.pointer p2)) (go_keep)
      (first
        | (go_at_call 50; (with_reducible refine (with_K b k v sl s3 pl p3 ll l3 w HK.out HR.out H3.out (by omega) _ Hk1.out).mono ?_); rintro e w5 ⟨q5, rfl, t5, hb5, hk5⟩; have Hb5 := Lib.hid (Hb1.out.trans (hb5.mono Hb1.out.size)); have Ht5 := Lib.hid t5; have Hk5 := Lib.hid hk5; have r1 := hk5.cell _ _ e2; have r2 := hk5.cell _ _ e3; have r3 := hk5.cell _ _ d3; clear t5 hb5 hk5)
        | (go_at_call 50; (with_reducible refine (with_K bl kl vl s4 s2 p4 p2 l4 l2 w HL.out H4.out H2.out (by omega) _ Hk5.out).mono ?_); rintro e w6 ⟨q6, rfl, t6, hb6, hk6⟩; have Ht56 := Lib.hid (T.keep Ht5.out (BK.of_below hb6)); have Hb6 := Lib.hid (Hb5.out.trans (hb6.mono Hb5.out.size)); have Ht6 := Lib.hid t6; have Hk6 := Lib.hid hk6; have r1 := hk6.cell _ _ e2; have r2 := hk6.cell _ _ e3; have r3 := hk6.cell _ _ d3; have m0 := hk6.cell _ _ HM.out.1; have m1 := hk6.cell _ _ HM.out.2; clear t6 hb6 hk6)
        | (go_at_call 50; (with_reducible refine (with_T bm km vm _ _ q5 q6 _ _ w6 m0 m1 Ht56.out Ht6.out (by simp only [List.length_append, List.length_cons]; omega)).mono ?_); rintro e w7 ⟨q7, rfl, t7, hb7⟩; have Hb7 := Lib.hid (Hb6.out.trans (hb7.mono Hb6.out.size)); have Ht7 := Lib.hid t7; have r1 := (BK.of_below hb7).cell _ _ (Hk6.out.cell _ _ e2); have r2 := (BK.of_below hb7).cell _ _ (Hk6.out.cell _ _ e3); have r3 := (BK.of_below hb7).cell _ _ (Hk6.out.cell _ _ d3); clear t7 hb7))
    go_wp2
    go_ret
    refine ⟨q7, rfl, ?_, Hb7.out⟩
    rw [HS.out]
    have := Ht7.out
    simpa using this
  · have hd : decide ((ht s2 : Int) < (ht s1 : Int)) = false := decide_eq_false (by omega)
    have HS : Hid (raiS sl (.seq s1 s2) = .seq (.seq sl s1) s2) := by
      show _ = _
      simp only [raiS]
      rw [if_neg hlt]
    go_enter Try.func49, Try.ntmps49
    go_wp2_with fail
    refine wp_region_still_lit (by kernel_rfl) (by kernel_rfl) ?_
    iterate 4 still_step
    still_call (high_S H2.out _ (BK.drew _))
    iterate 4 still_step
    still_call (high_S H1.out _ (BK.drew _))
    still_step
    refine wpStill_nil ?_
    change Exit.then _ _ _ _ w.drew
    go_wp2_with fail
    have Hk1 : Hid (BK w w.drew.drew) := (BK.drew w).trans (BK.drew _)
    have Hb1 : Hid (Below w.heap.size w w.drew.drew) := below_dr (below_dr (Below.refl _ w))
    go_region_held3 (fun w' => w'.cell? ⟨bl, 2, none⟩ = some (.pointer p1) ∧ w'.cell? ⟨bl, 3, none⟩ = some (.pointer p2)) (go_keep)
      (first
        | (go_at_call 50; (with_reducible refine (with_K b k v sl s1 pl p1 ll l1 w HK.out HR.out H1.out (by omega) _ Hk1.out).mono ?_); rintro e w5 ⟨q5, rfl, t5, hb5, hk5⟩; have Hb5 := Lib.hid (Hb1.out.trans (hb5.mono Hb1.out.size)); have Ht5 := Lib.hid t5; have Hk5 := Lib.hid hk5; have r1 := hk5.cell _ _ d2; have r2 := hk5.cell _ _ d3; have m0 := hk5.cell _ _ HL.out.1; have m1 := hk5.cell _ _ HL.out.2; clear t5 hb5 hk5)
        | (go_at_call 50; (with_reducible refine (with_T bl kl vl _ _ q5 p2 _ l2 w5 m0 m1 Ht5.out (T.keep H2.out Hk5.out) (by simp only [List.length_append, List.length_cons]; omega)).mono ?_); rintro e w7 ⟨q7, rfl, t7, hb7⟩; have Hb7 := Lib.hid (Hb5.out.trans (hb7.mono Hb5.out.size)); have Ht7 := Lib.hid t7; have r1 := (BK.of_below hb7).cell _ _ (Hk5.out.cell _ _ d2); have r2 := (BK.of_below hb7).cell _ _ (Hk5.out.cell _ _ d3); clear t7 hb7))
    go_wp2
    go_ret
    refine ⟨q7, rfl, ?_, Hb7.out⟩
    rw [HS.out]
    have := Ht7.out
    simpa using this

end Go.Proofs.Ytgiaifglkecdjaa.IB
