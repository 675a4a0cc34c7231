/- WalPower: a round. -/
import Derived.Test.YtjodehdmafagoaaDoorPowA
import Derived.Deep.LoopGhost
namespace Go.Proofs.YtjodehdmafagoaaDoor
open Go.RowKit

theorem grown_new {w wa w7 : World} {q : Nat} {n c : Nat} (hb : Below w.heap.size w wa) (hg : wa.grownBy w7 (Value.slice (some ⟨q, 0, none⟩) n c).ownBlock) (hq : w.heap.size ≤ q) : Below w.heap.size w w7 :=
  hb.grown hg hb.size fun k hk => by injection hk with hk; subst hk; exact hq

theorem two_allocs (w : World) (o1 o2 : Obj) : ((w.alloc o1).alloc o2).heap[w.heap.size]? = some o1 ∧ ((w.alloc o1).alloc o2).heap[w.heap.size + 1]? = some o2 ∧ Below w.heap.size w ((w.alloc o1).alloc o2) := by
  have hs : (w.alloc o1).heap.size = w.heap.size + 1 := by simp
  refine ⟨?_, ?_, ((Below.refl _ w).alloc (Nat.le_refl _) _).alloc (by simp) _⟩
  · rw [heap_alloc_old (w.alloc o1) o2 (by rw [hs]; omega)]
    exact heap_alloc_new w o1
  · rw [← hs]
    exact heap_alloc_new (w.alloc o1) o2
theorem src_kept {wa w7 : World} {q qX n c : Nat} {A : Option Addr} (hc : wa.heap[qX]? = some (.cells #[.slice A n c] 31 (0, 0))) (hg : wa.grownBy w7 (Value.slice (some ⟨q, 0, none⟩) 0 0).ownBlock) (hne : qX ≠ q) : Src Tryd.prog 1 22 (.slice (some ⟨qX, 0, none⟩) 1 1) 1 [.slice A n c] w7 := by
  have h7 : w7.heap[qX]? = some (.cells #[.slice A n c] 31 (0, 0)) := ((Fr.of_grown hg).block qX (Array.getElem?_eq_some_iff.1 hc).1 (fun e => by injection e with e; exact hne e)).trans hc
  exact Src.ofSlice _ Tryd.underlying22 _ _ 1 _ rfl (fun j u hu => World.news_of_block (cs := #[.slice A n c]) h7 j u hu) (fun u hu => by
    rw [List.mem_singleton.1 hu]; rfl)

theorem DM.Is.okL {m : DM} {A : Nat → List UInt8} {L : LM} (h : m.Is A) (hR : Reads A L) : L.Ok :=
  hR.ok (by rw [← h.sure 0 (by decide)]; exact h.ok.len _ (by decide)) (by rw [← h.sure 1 (by decide)]; exact h.ok.len _ (by decide)) (by rw [← h.sure 2 (by decide)]; exact h.ok.len _ (by decide))

set_option maxHeartbeats 4000000 in
set_option maxRecDepth 100000 in
theorem pow_append {w0 : World} {ea : Nat → Addr} (fr : Act) (w : World) (Q : Exit → Act → World → Prop) (g gl b o n cw i : Nat) (v5 : Value) (x : Act18) (hJ : PJ w0 g gl v5 (.slice (some ⟨b, o, none⟩) n cw) n i fr w) (hi : i < n) (hn : n ≤ 40) (hk : x.kind ≠ 1)
    (g0 : w0.cell? ⟨b, o + i * 5, none⟩ = some (.int .i64 x.kind)) (g1 : w0.cell? ⟨b, o + i * 5 + 1, none⟩ = some (.int .i64 x.n)) (g2 : w0.cell? ⟨b, o + i * 5 + 2, none⟩ = some (.int .i64 x.torn)) (g3 : w0.cell? ⟨b, o + i * 5 + 3, none⟩ = some (.int .u64 x.scat)) (g4 : w0.cell? ⟨b, o + i * 5 + 4, none⟩ = some x.v)
    (hx : RB w0 x.A x.bs.length x.bs) (hxc : x.bs.length ≤ x.c) (hxm : x.c ≤ maxLen) (hbl : x.bs.length ≤ 200) (hE : EW w0 ea) (hR : Errs w0 ea)
    (hN : ∀ (fr' : Act) (w' : World), PJ w0 g gl v5 (.slice (some ⟨b, o, none⟩) n cw) n (i + 1) fr' w' → Q .normal fr' w') (hX : ∀ (fr' : Act) (w' : World), PE w0 g v5 fr' w' → Q (.exit 0) fr' w') :
    Code.wp Tryd.prog (lpC Tryd.f4.body 0) Q fr w := by
  obtain ⟨h0, h5, h7, h9, h48, h49, h50, m, L, S, A, T', R', hD, hI, hO, hd, hrl, h10, h11, h12, h13⟩ := hJ
  have HN := Lib.hid hN
  have HX := Lib.hid hX
  have HE := Lib.hid hE
  have HRR := Lib.hid hR
  have HD := Lib.hid hD
  have HI := Lib.hid hI
  have HO := Lib.hid hO
  have HDE := Lib.hid hd
  have HRL := Lib.hid hrl
  have HB := Lib.hid hx
  have HXC := Lib.hid (And.intro hxc hxm)
  have HBL := Lib.hid hbl
  have H11 := Lib.hid h11
  have H13 := Lib.hid h13
  have kk := Keeps.of_below hD.bel
  have c0 := kk _ _ g0
  have c1 := kk _ _ g1
  have c2 := kk _ _ g2
  have c3 := kk _ _ g3
  have c4 := kk _ _ g4
  have qk : (x.kind == 1) = false := beq_eq_false_iff_ne.2 hk
  have k0 : (0 : Int) ≤ (i : Int) := by omega
  have k1 : (i : Int) < (n : Int) := by omega
  have k2 : (n : Int) ≤ 40 := by omega
  have D0 := (Below.refl w.heap.size w).alloc (Nat.le_refl _) (.cells #[.int .i64 x.kind, .int .i64 x.n, .int .i64 x.torn, .int .u64 x.scat, x.v] 38)
  have HBx := Lib.hid D0
  obtain ⟨A11, n11, c11, vs11, e11, r11⟩ := h11
  obtain ⟨A13, n13, c13, vs13, e13, -⟩ := h13
  have h11n : n11 ≤ 40 := by have := r11.ll; omega
  have R11 := Lib.hid (r11.below D0)
  have HUp : Hid (∀ k, S k → k < (w.alloc (.cells #[.int .i64 x.kind, .int .i64 x.n, .int .i64 x.torn, .int .u64 x.scat, x.v] 38)).heap.size) := Lib.hid fun k hk => Nat.lt_of_lt_of_le (hD.hi k hk) D0.size
  have DX := Lib.hid (hD.below D0)
  unfold Act18.v at c4 HBx R11 HUp DX
  obtain ⟨wb, hwb⟩ : ∃ W, W = w.alloc (.cells #[.int .i64 x.kind, .int .i64 x.n, .int .i64 x.torn, .int .u64 x.scat, .slice x.A x.bs.length x.c] 38) := ⟨_, rfl⟩
  rw [← hwb] at HBx R11 HUp DX
  have hrow : wb.heap[w.heap.size]? = some (.cells #[.int .i64 x.kind, .int .i64 x.n, .int .i64 x.torn, .int .u64 x.scat, .slice x.A x.bs.length x.c] 38 (0, 0)) := by rw [hwb]; exact heap_alloc_new w _
  have b4 : wb.cell? ⟨w.heap.size, 4, none⟩ = some (.slice x.A x.bs.length x.c) := cell_of_row _ _ 4 _ _ _ hrow
  have HRow := Lib.hid hrow
  clear hN hX hE hR hD hI hO hd hrl hx hxc hxm kk g0 g1 g2 g3 g4 hk D0 r11 hrow
  unfold IsP at h0
  generalize slotP fr = f at *
  subst h0
  unfold PF
  rw [h5, h7, h9, h10, e11, h12, e13, h48, h49, h50]
  conv => arg 2; whnf
  clear h5 h7 h9 h48 h49 h50 h10 h12
  go_wp2_with fail
  rw [← hwb]
  clear hwb
  go_region_held3 (fun w' => w'.cell? ⟨w.heap.size, 4, none⟩ = some (.slice x.A x.bs.length x.c)) (first | assumption | go_keep)
    (first
      | (refine step_append_rr rfl (.tmp 55) (.tmp 56) (by rfl) (own_empty (w := (wb.alloc (.cells #[] 31)).drew) (q := wb.heap.size) (base := wb.heap.size) (heap_alloc_new wb _) (Nat.le_refl _)) (by rfl) (R11.out.below (below_d1 ((Below.refl _ wb).alloc (Nat.le_refl _) _))).src (by rfl) (by omega) (by simp) ?_; intro v7 w7 hown7 hgr7 hat7; rw [Nat.zero_add, List.nil_append] at hown7; obtain ⟨A7, c7, rfl, -, -⟩ := hown7.form; have B7 : Hid (Below wb.heap.size wb w7) := Lib.hid (grown_new (below_d1 ((Below.refl _ wb).alloc (Nat.le_refl _) _)) hgr7 (Nat.le_refl _)); have b7 := Keeps.of_below B7.out _ _ b4; have O7 := Lib.hid hown7; clear hown7 hgr7 hat7)
      | (refine step_append_rr rfl (.tmp 55) (.tmp 56) (by rfl) (own_empty (w := ((wb.alloc (.cells #[] 31)).alloc (.cells #[.slice x.A x.bs.length x.c] 31)).drew) (q := wb.heap.size) (base := wb.heap.size) (two_allocs wb (.cells #[] 31) (.cells #[.slice x.A x.bs.length x.c] 31)).1 (by omega)) (by rfl) (R11.out.below (below_d1 (two_allocs wb (.cells #[] 31) (.cells #[.slice x.A x.bs.length x.c] 31)).2.2)).src (by rfl) (by omega) (by simp; omega) ?_; intro v7 w7 hown7 hgr7 hat7; rw [Nat.zero_add, List.nil_append] at hown7; obtain ⟨A7, c7, rfl, -, -⟩ := hown7.form; have B7 : Hid (Below wb.heap.size wb w7) := Lib.hid (grown_new (below_d1 (two_allocs wb (.cells #[] 31) (.cells #[.slice x.A x.bs.length x.c] 31)).2.2) hgr7 (by omega)); have b7 := Keeps.of_below B7.out _ _ b4; have O7 := Lib.hid hown7; have X7 := Lib.hid (src_kept (wa := ((wb.alloc (.cells #[] 31)).alloc (.cells #[.slice x.A x.bs.length x.c] 31)).drew) (two_allocs wb (.cells #[] 31) (.cells #[.slice x.A x.bs.length x.c] 31)).2.1 hgr7 (by omega)); clear hown7 hgr7 hat7)
      | (refine step_append_rr rfl (.tmp 55) (.tmp 56) (by rfl) (own_empty (w := ((wb.alloc (.cells #[.slice x.A x.bs.length x.c] 31)).alloc (.cells #[] 31)).drew) (q := wb.heap.size + 1) (base := wb.heap.size) (two_allocs wb (.cells #[.slice x.A x.bs.length x.c] 31) (.cells #[] 31)).2.1 (by omega)) (by rfl) (R11.out.below (below_d1 (two_allocs wb (.cells #[.slice x.A x.bs.length x.c] 31) (.cells #[] 31)).2.2)).src (by rfl) (by omega) (by simp; omega) ?_; intro v7 w7 hown7 hgr7 hat7; rw [Nat.zero_add, List.nil_append] at hown7; obtain ⟨A7, c7, rfl, -, -⟩ := hown7.form; have B7 : Hid (Below wb.heap.size wb w7) := Lib.hid (grown_new (below_d1 (two_allocs wb (.cells #[.slice x.A x.bs.length x.c] 31) (.cells #[] 31)).2.2) hgr7 (by omega)); have b7 := Keeps.of_below B7.out _ _ b4; have O7 := Lib.hid hown7; have X7 := Lib.hid (src_kept (wa := ((wb.alloc (.cells #[.slice x.A x.bs.length x.c] 31)).alloc (.cells #[] 31)).drew) (two_allocs wb (.cells #[.slice x.A x.bs.length x.c] 31) (.cells #[] 31)).1 hgr7 (by omega)); clear hown7 hgr7 hat7)
      | (refine step_append_rr rfl (.tmp 57) (.tmp 60) (by rfl) (O7.out.alloc _) (by rfl) (Src.one w7 (w7.alloc (.cells #[.slice x.A x.bs.length x.c] 31)) x.A x.bs.length x.c 1 (fun _ _ h => h)) (by rfl) (by omega) (by have := B7.out.size; simp; omega) ?_; intro v8 w8 hown8 hgr8 hat8; obtain ⟨A8, c8, rfl, -, -⟩ := hown8.form; have B8 : Hid (Below wb.heap.size wb w8) := Lib.hid ((B7.out.alloc B7.out.size _).grown hgr8 (by have := B7.out.size; simp; omega) fun k hk => (OwnS.lt O7.out k hk).1); have b8 := Keeps.of_below B8.out _ _ b4; have O8 := Lib.hid hown8; clear hown8 hgr8 hat8)
      | (refine step_append_rr rfl (.tmp 57) (.tmp 60) (by rfl) O7.out (by rfl) X7.out (by rfl) (by omega) B7.out.size ?_; intro v8 w8 hown8 hgr8 hat8; obtain ⟨A8, c8, rfl, -, -⟩ := hown8.form; have B8 : Hid (Below wb.heap.size wb w8) := Lib.hid (B7.out.grown hgr8 B7.out.size fun k hk => (OwnS.lt O7.out k hk).1); have b8 := Keeps.of_below B8.out _ _ b4; have O8 := Lib.hid hown8; clear hown8 hgr8 hat8)
      | fail)
  all_goals
    have D8 : Hid (DW w0 w8 S g m gl L) := Lib.hid (DX.out.below B8.out)
    have r0 : w8.cell? ⟨w.heap.size, 0, none⟩ = some (.int .i64 x.kind) := Keeps.of_below B8.out _ _ (cell_of_row _ _ 0 _ _ _ HRow.out)
    have R8 : Hid (RR w0 w8 S (.slice A8 (n11 + 1) c8) (L.recs ++ [x.bs])) := Lib.hid (R11.out.snoc (w := wb) HUp.out O8.out (SB.of_rb HB.out HXC.out.1 HXC.out.2))
    have E8 : Hid (RR w0 w8 S (.slice A11 n11 c11) L.recs) := Lib.hid ⟨_, _, _, _, rfl, R11.out.below B8.out⟩
    have HOk : Hid (m.waits.length ≤ 1000) := Lib.hid (by rw [HI.out.waits]; exact Nat.zero_le _)
    have HAp0 : Hid (∀ W, DW w0 W S g m gl L → Below wb.heap.size wb W → Calls Tryd.prog 12 #[.pointer (some ⟨gl, 0, none⟩), .slice x.A x.bs.length x.c] W fun e w' => e = .returned (dErr ea (L.appE m x.bs)) ∧ DW w0 w' (ext S W w') g (L.appM m x.bs) gl (L.app m x.bs) ∧ Fr S W w') := Lib.hid fun W hW hb =>
      Append_any x.A x.bs.length x.c x.bs hW HE.out HI.out.ok (HI.out.okL HO.out.reads) (HB.out.keep (Keeps.of_below hW.bel)) (fun h => off_arg hW HB.out h) HXC.out.1 HXC.out.2 HOk.out
    have HNum0 : Hid (∀ k W, k ≤ 28 → Below w0.heap.size w0 W → Calls Tryd.prog 19 #[dErr ea k] W fun e w' => e = .returned (.int .i64 (k : Int)) ∧ Below W.heap.size W w') := Lib.hid fun k W hk hW => by
      rw [← errOf_dErr]
      exact Num_any (HRR.out.below hW) k hk
    rcases pow_app HI.out HO.out HDE.out x.bs (by omega) with ⟨p1, p2, p3⟩ | ⟨p1, ⟨B', p2, p2'⟩, p3⟩ | ⟨p1, p2⟩
    · have HAp : Hid (∀ W, DW w0 W S g m gl L → Below wb.heap.size wb W → Calls Tryd.prog 12 #[.pointer (some ⟨gl, 0, none⟩), .slice x.A x.bs.length x.c] W fun e w' => e = .returned (.iface 143 (.pointer (some (ea 26)))) ∧ DW w0 w' (ext S W w') g m gl L ∧ Fr S W w') := Lib.hid fun W h1 h2 => by
        have := HAp0.out W h1 h2
        rw [p1, p2, p3, dErr_pos ea (by decide)] at this
        exact this
      have HNum : Hid (∀ W, Below w0.heap.size w0 W → Calls Tryd.prog 19 #[.iface 143 (.pointer (some (ea 26)))] W fun e w' => e = .returned (.int .i64 26) ∧ Below W.heap.size W w') := Lib.hid fun W h => by
        have := HNum0.out 26 W (by decide) h
        rw [dErr_pos ea (by decide)] at this
        exact this
      clear p1 p2 p3
      go_wp2_with (first
        | (go_at_call 12; go_loud ((with_reducible refine (HAp.out w8 D8.out B8.out).mono ?_); rintro e w9 ⟨rfl, hd9, hf9⟩; have D9 := Lib.hid hd9; have F9 := Lib.hid hf9; clear hd9 hf9))
        | (go_at_call 19; go_loud ((with_reducible refine (HNum.out w9 D9.out.bel).mono ?_); rintro e w10 ⟨rfl, hb10⟩; have B10 := Lib.hid hb10; clear hb10))
        | fail)
      refine HN.out _ _ ?_
      unfold PJ
      exact ⟨rfl, rfl, rfl, rfl, rfl, rfl, rfl, m, L, ext S w8 w9, A, L.text, L.recs, D9.out.below B10.out, HI.out, HO.out, HDE.out, Nat.le_succ_of_le HRL.out, rfl, (E8.out.fr F9.out).below B10.out, rfl, (E8.out.fr F9.out).below B10.out⟩
    · have HAp : Hid (∀ W, DW w0 W S g m gl L → Below wb.heap.size wb W → Calls Tryd.prog 12 #[.pointer (some ⟨gl, 0, none⟩), .slice x.A x.bs.length x.c] W fun e w' => e = .returned .nilIface ∧ DW w0 w' (ext S W w') g (L.appM m x.bs) gl (L.with x.bs) ∧ Fr S W w') := Lib.hid fun W h1 h2 => by
        have := HAp0.out W h1 h2
        rw [p1, p3, dErr_zero] at this
        exact this
      have HNum : Hid (∀ W, Below w0.heap.size w0 W → Calls Tryd.prog 19 #[.nilIface] W fun e w' => e = .returned (.int .i64 0) ∧ Below W.heap.size W w') := Lib.hid fun W h => HNum0.out 0 W (by decide) h
      have P2 := Lib.hid p2
      have P2' := Lib.hid p2'
      clear p1 p2 p3 p2'
      go_wp2_with (first
        | (go_at_call 12; go_loud ((with_reducible refine (HAp.out w8 D8.out B8.out).mono ?_); rintro e w9 ⟨rfl, hd9, hf9⟩; have D9 := Lib.hid hd9; have F9 := Lib.hid hf9; clear hd9 hf9))
        | (go_at_call 19; go_loud ((with_reducible refine (HNum.out w9 D9.out.bel).mono ?_); rintro e w10 ⟨rfl, hb10⟩; have B10 := Lib.hid hb10; clear hb10))
        | fail)
      refine HN.out _ _ ?_
      unfold PJ
      exact ⟨rfl, rfl, rfl, rfl, rfl, rfl, rfl, L.appM m x.bs, L.with x.bs, ext S w8 w9, B', L.text, L.recs ++ [x.bs], D9.out.below B10.out, P2.out, P2'.out, HDE.out, by show (L.recs ++ [x.bs]).length ≤ i + 1; rw [List.length_append]; exact Nat.succ_le_succ HRL.out, rfl, (R8.out.fr F9.out).below B10.out, rfl, (R8.out.fr F9.out).below B10.out⟩
    · have HAp : Hid (∀ W, DW w0 W S g m gl L → Below wb.heap.size wb W → Calls Tryd.prog 12 #[.pointer (some ⟨gl, 0, none⟩), .slice x.A x.bs.length x.c] W fun e w' => e = .returned (.iface 143 (.pointer (some (ea 25)))) ∧ DW w0 w' (ext S W w') g (L.appM m x.bs) gl (L.app m x.bs) ∧ Fr S W w') := Lib.hid fun W h1 h2 => by
        have := HAp0.out W h1 h2
        rw [p1, dErr_pos ea (by decide)] at this
        exact this
      have HNum : Hid (∀ W, Below w0.heap.size w0 W → Calls Tryd.prog 19 #[.iface 143 (.pointer (some (ea 25)))] W fun e w' => e = .returned (.int .i64 25) ∧ Below W.heap.size W w') := Lib.hid fun W h => by
        have := HNum0.out 25 W (by decide) h
        rw [dErr_pos ea (by decide)] at this
        exact this
      have P2 := Lib.hid p2
      clear p1 p2
      go_wp2_with (first
        | (go_at_call 12; go_loud ((with_reducible refine (HAp.out w8 D8.out B8.out).mono ?_); rintro e w9 ⟨rfl, hd9, hf9⟩; have D9 := Lib.hid hd9; have F9 := Lib.hid hf9; clear hd9 hf9))
        | (go_at_call 19; go_loud ((with_reducible refine (HNum.out w9 D9.out.bel).mono ?_); rintro e w10 ⟨rfl, hb10⟩; have B10 := Lib.hid hb10; clear hb10))
        | fail)
      refine HX.out _ _ ?_
      unfold PE
      exact ⟨rfl, rfl, rfl, L.appM m x.bs, gl, _, L, L.with x.bs, ext S w8 w9, D9.out.below B10.out, HI.out.ok.appM L x.bs, Nat.le_trans (appM_waits m L x.bs) (by rw [HI.out.waits]; decide), rfl, (E8.out.fr F9.out).below B10.out, rfl, (R8.out.fr F9.out).below B10.out, P2.out⟩

set_option maxHeartbeats 4000000 in
set_option maxRecDepth 100000 in
theorem pow_compact {w0 : World} {ea : Nat → Addr} (fr : Act) (w : World) (Q : Exit → Act → World → Prop) (g gl b o n cw i : Nat) (v5 : Value) (x : Act18) (hJ : PJ w0 g gl v5 (.slice (some ⟨b, o, none⟩) n cw) n i fr w) (hi : i < n) (hn : n ≤ 40) (hk : x.kind = 1)
    (g0 : w0.cell? ⟨b, o + i * 5, none⟩ = some (.int .i64 x.kind)) (g1 : w0.cell? ⟨b, o + i * 5 + 1, none⟩ = some (.int .i64 x.n)) (g2 : w0.cell? ⟨b, o + i * 5 + 2, none⟩ = some (.int .i64 x.torn)) (g3 : w0.cell? ⟨b, o + i * 5 + 3, none⟩ = some (.int .u64 x.scat)) (g4 : w0.cell? ⟨b, o + i * 5 + 4, none⟩ = some x.v)
    (hx : RB w0 x.A x.bs.length x.bs) (hxc : x.bs.length ≤ x.c) (hxm : x.c ≤ maxLen) (hbl : x.bs.length ≤ 200) (hE : EW w0 ea) (hR : Errs w0 ea)
    (hN : ∀ (fr' : Act) (w' : World), PJ w0 g gl v5 (.slice (some ⟨b, o, none⟩) n cw) n (i + 1) fr' w' → Q .normal fr' w') (hX : ∀ (fr' : Act) (w' : World), PE w0 g v5 fr' w' → Q (.exit 0) fr' w') :
    Code.wp Tryd.prog (lpC Tryd.f4.body 0) Q fr w := by
  obtain ⟨h0, h5, h7, h9, h48, h49, h50, m, L, S, A, T', R', hD, hI, hO, hd, hrl, h10, h11, h12, h13⟩ := hJ
  have HN := Lib.hid hN
  have HX := Lib.hid hX
  have HE := Lib.hid hE
  have HRR := Lib.hid hR
  have HD := Lib.hid hD
  have HI := Lib.hid hI
  have HO := Lib.hid hO
  have HDE := Lib.hid hd
  have HRL := Lib.hid hrl
  have HB := Lib.hid hx
  have HXC := Lib.hid (And.intro hxc hxm)
  have HBL := Lib.hid hbl
  have H11 := Lib.hid h11
  have H13 := Lib.hid h13
  have kk := Keeps.of_below hD.bel
  have c0 := kk _ _ g0
  have c1 := kk _ _ g1
  have c2 := kk _ _ g2
  have c3 := kk _ _ g3
  have c4 := kk _ _ g4
  have qk : (x.kind == 1) = true := by rw [hk]; rfl
  have k0 : (0 : Int) ≤ (i : Int) := by omega
  have k1 : (i : Int) < (n : Int) := by omega
  have k2 : (n : Int) ≤ 40 := by omega
  have D0 := (Below.refl w.heap.size w).alloc (Nat.le_refl _) (.cells #[.int .i64 x.kind, .int .i64 x.n, .int .i64 x.torn, .int .u64 x.scat, x.v] 38)
  have HBx := Lib.hid D0
  obtain ⟨A11, n11, c11, vs11, e11, r11⟩ := h11
  obtain ⟨A13, n13, c13, vs13, e13, -⟩ := h13
  have h11n : n11 ≤ 40 := by have := r11.ll; omega
  have R11 := Lib.hid (r11.below D0)
  have HUp : Hid (∀ k, S k → k < (w.alloc (.cells #[.int .i64 x.kind, .int .i64 x.n, .int .i64 x.torn, .int .u64 x.scat, x.v] 38)).heap.size) := Lib.hid fun k hk => Nat.lt_of_lt_of_le (hD.hi k hk) D0.size
  have DX := Lib.hid (hD.below D0)
  unfold Act18.v at c4 HBx R11 HUp DX
  obtain ⟨wb, hwb⟩ : ∃ W, W = w.alloc (.cells #[.int .i64 x.kind, .int .i64 x.n, .int .i64 x.torn, .int .u64 x.scat, .slice x.A x.bs.length x.c] 38) := ⟨_, rfl⟩
  rw [← hwb] at HBx R11 HUp DX
  have hrow : wb.heap[w.heap.size]? = some (.cells #[.int .i64 x.kind, .int .i64 x.n, .int .i64 x.torn, .int .u64 x.scat, .slice x.A x.bs.length x.c] 38 (0, 0)) := by rw [hwb]; exact heap_alloc_new w _
  have b4 : wb.cell? ⟨w.heap.size, 4, none⟩ = some (.slice x.A x.bs.length x.c) := cell_of_row _ _ 4 _ _ _ hrow
  have HRow := Lib.hid hrow
  clear hN hX hE hR hD hI hO hd hrl hx hxc hxm kk g0 g1 g2 g3 g4 hk D0 r11 hrow
  unfold IsP at h0
  generalize slotP fr = f at *
  subst h0
  unfold PF
  rw [h5, h7, h9, h10, e11, h12, e13, h48, h49, h50]
  conv => arg 2; whnf
  clear h5 h7 h9 h48 h49 h50 h10 h12
  go_wp2_with fail
  rw [← hwb]
  clear hwb
  go_region_held3 (fun w' => w'.cell? ⟨w.heap.size, 4, none⟩ = some (.slice x.A x.bs.length x.c)) (first | assumption | go_keep)
    (first
      | (refine step_append_rr rfl (.tmp 55) (.tmp 56) (by rfl) (own_empty (w := (wb.alloc (.cells #[] 31)).drew) (q := wb.heap.size) (base := wb.heap.size) (heap_alloc_new wb _) (Nat.le_refl _)) (by rfl) (R11.out.below (below_d1 ((Below.refl _ wb).alloc (Nat.le_refl _) _))).src (by rfl) (by omega) (by simp) ?_; intro v7 w7 hown7 hgr7 hat7; rw [Nat.zero_add, List.nil_append] at hown7; obtain ⟨A7, c7, rfl, -, -⟩ := hown7.form; have B7 : Hid (Below wb.heap.size wb w7) := Lib.hid (grown_new (below_d1 ((Below.refl _ wb).alloc (Nat.le_refl _) _)) hgr7 (Nat.le_refl _)); have b7 := Keeps.of_below B7.out _ _ b4; have O7 := Lib.hid hown7; clear hown7 hgr7 hat7)
      | (refine step_append_rr rfl (.tmp 55) (.tmp 56) (by rfl) (own_empty (w := ((wb.alloc (.cells #[] 31)).alloc (.cells #[.slice x.A x.bs.length x.c] 31)).drew) (q := wb.heap.size) (base := wb.heap.size) (two_allocs wb (.cells #[] 31) (.cells #[.slice x.A x.bs.length x.c] 31)).1 (by omega)) (by rfl) (R11.out.below (below_d1 (two_allocs wb (.cells #[] 31) (.cells #[.slice x.A x.bs.length x.c] 31)).2.2)).src (by rfl) (by omega) (by simp; omega) ?_; intro v7 w7 hown7 hgr7 hat7; rw [Nat.zero_add, List.nil_append] at hown7; obtain ⟨A7, c7, rfl, -, -⟩ := hown7.form; have B7 : Hid (Below wb.heap.size wb w7) := Lib.hid (grown_new (below_d1 (two_allocs wb (.cells #[] 31) (.cells #[.slice x.A x.bs.length x.c] 31)).2.2) hgr7 (by omega)); have b7 := Keeps.of_below B7.out _ _ b4; have O7 := Lib.hid hown7; have X7 := Lib.hid (src_kept (wa := ((wb.alloc (.cells #[] 31)).alloc (.cells #[.slice x.A x.bs.length x.c] 31)).drew) (two_allocs wb (.cells #[] 31) (.cells #[.slice x.A x.bs.length x.c] 31)).2.1 hgr7 (by omega)); clear hown7 hgr7 hat7)
      | (refine step_append_rr rfl (.tmp 55) (.tmp 56) (by rfl) (own_empty (w := ((wb.alloc (.cells #[.slice x.A x.bs.length x.c] 31)).alloc (.cells #[] 31)).drew) (q := wb.heap.size + 1) (base := wb.heap.size) (two_allocs wb (.cells #[.slice x.A x.bs.length x.c] 31) (.cells #[] 31)).2.1 (by omega)) (by rfl) (R11.out.below (below_d1 (two_allocs wb (.cells #[.slice x.A x.bs.length x.c] 31) (.cells #[] 31)).2.2)).src (by rfl) (by omega) (by simp; omega) ?_; intro v7 w7 hown7 hgr7 hat7; rw [Nat.zero_add, List.nil_append] at hown7; obtain ⟨A7, c7, rfl, -, -⟩ := hown7.form; have B7 : Hid (Below wb.heap.size wb w7) := Lib.hid (grown_new (below_d1 (two_allocs wb (.cells #[.slice x.A x.bs.length x.c] 31) (.cells #[] 31)).2.2) hgr7 (by omega)); have b7 := Keeps.of_below B7.out _ _ b4; have O7 := Lib.hid hown7; have X7 := Lib.hid (src_kept (wa := ((wb.alloc (.cells #[.slice x.A x.bs.length x.c] 31)).alloc (.cells #[] 31)).drew) (two_allocs wb (.cells #[.slice x.A x.bs.length x.c] 31) (.cells #[] 31)).1 hgr7 (by omega)); clear hown7 hgr7 hat7)
      | (refine step_append_rr rfl (.tmp 57) (.tmp 60) (by rfl) (O7.out.alloc _) (by rfl) (Src.one w7 (w7.alloc (.cells #[.slice x.A x.bs.length x.c] 31)) x.A x.bs.length x.c 1 (fun _ _ h => h)) (by rfl) (by omega) (by have := B7.out.size; simp; omega) ?_; intro v8 w8 hown8 hgr8 hat8; obtain ⟨A8, c8, rfl, -, -⟩ := hown8.form; have B8 : Hid (Below wb.heap.size wb w8) := Lib.hid ((B7.out.alloc B7.out.size _).grown hgr8 (by have := B7.out.size; simp; omega) fun k hk => (OwnS.lt O7.out k hk).1); have b8 := Keeps.of_below B8.out _ _ b4; have O8 := Lib.hid hown8; clear hown8 hgr8 hat8)
      | (refine step_append_rr rfl (.tmp 57) (.tmp 60) (by rfl) O7.out (by rfl) X7.out (by rfl) (by omega) B7.out.size ?_; intro v8 w8 hown8 hgr8 hat8; obtain ⟨A8, c8, rfl, -, -⟩ := hown8.form; have B8 : Hid (Below wb.heap.size wb w8) := Lib.hid (B7.out.grown hgr8 B7.out.size fun k hk => (OwnS.lt O7.out k hk).1); have b8 := Keeps.of_below B8.out _ _ b4; have O8 := Lib.hid hown8; clear hown8 hgr8 hat8)
      | fail)
  all_goals
    have D8 : Hid (DW w0 w8 S g m gl L) := Lib.hid (DX.out.below B8.out)
    have r0 : w8.cell? ⟨w.heap.size, 0, none⟩ = some (.int .i64 x.kind) := Keeps.of_below B8.out _ _ (cell_of_row _ _ 0 _ _ _ HRow.out)
    have R8 : Hid (RR w0 w8 S (.slice A8 (n11 + 1) c8) (L.recs ++ [x.bs])) := Lib.hid (R11.out.snoc (w := wb) HUp.out O8.out (SB.of_rb HB.out HXC.out.1 HXC.out.2))
    have hcv := run_bytes_string (P := Tryd.prog) Tryd.underlying31 Tryd.underlying5 Tryd.underlying9 (c := x.c) (HB.out.keep (Keeps.of_below D8.out.bel))
    have E8 : Hid (RR w0 w8 S (.slice A11 n11 c11) L.recs) := Lib.hid ⟨_, _, _, _, rfl, R11.out.below B8.out⟩
    have HOk : Hid (m.waits.length ≤ 1000) := Lib.hid (by rw [HI.out.waits]; exact Nat.zero_le _)
    have HAp0 : Hid (∀ W, DW w0 W S g m gl L → Below wb.heap.size wb W → Calls Tryd.prog 11 #[.pointer (some ⟨gl, 0, none⟩), .slice x.A x.bs.length x.c] W fun e w' => e = .returned (dErr ea (L.cpE m x.bs)) ∧ DW w0 w' (ext S W w') g (L.cpM m x.bs) gl (L.cp m x.bs) ∧ Fr S W w') := Lib.hid fun W hW hb =>
      Compact_any x.A x.bs.length x.c x.bs hW HE.out HI.out.ok (HI.out.okL HO.out.reads) (HB.out.keep (Keeps.of_below hW.bel)) (by omega) HOk.out
    have HNum0 : Hid (∀ k W, k ≤ 28 → Below w0.heap.size w0 W → Calls Tryd.prog 19 #[dErr ea k] W fun e w' => e = .returned (.int .i64 (k : Int)) ∧ Below W.heap.size W w') := Lib.hid fun k W hk hW => by
      rw [← errOf_dErr]
      exact Num_any (HRR.out.below hW) k hk
    rcases pow_cp HI.out HO.out HDE.out x.bs with ⟨p1, p2, p3⟩ | ⟨p1, ⟨B', p2, p2'⟩, p3⟩ | ⟨p1, p2⟩
    · have HAp : Hid (∀ W, DW w0 W S g m gl L → Below wb.heap.size wb W → Calls Tryd.prog 11 #[.pointer (some ⟨gl, 0, none⟩), .slice x.A x.bs.length x.c] W fun e w' => e = .returned (.iface 143 (.pointer (some (ea 26)))) ∧ DW w0 w' (ext S W w') g m gl L ∧ Fr S W w') := Lib.hid fun W h1 h2 => by
        have := HAp0.out W h1 h2
        rw [p1, p2, p3, dErr_pos ea (by decide)] at this
        exact this
      have HNum : Hid (∀ W, Below w0.heap.size w0 W → Calls Tryd.prog 19 #[.iface 143 (.pointer (some (ea 26)))] W fun e w' => e = .returned (.int .i64 26) ∧ Below W.heap.size W w') := Lib.hid fun W h => by
        have := HNum0.out 26 W (by decide) h
        rw [dErr_pos ea (by decide)] at this
        exact this
      clear p1 p2 p3
      go_wp2_with (first
        | (go_at_call 11; go_loud ((with_reducible refine (HAp.out w8 D8.out B8.out).mono ?_); rintro e w9 ⟨rfl, hd9, hf9⟩; have D9 := Lib.hid hd9; have F9 := Lib.hid hf9; clear hd9 hf9))
        | (go_at_call 19; go_loud ((with_reducible refine (HNum.out w9 D9.out.bel).mono ?_); rintro e w10 ⟨rfl, hb10⟩; have B10 := Lib.hid hb10; clear hb10))
        | fail)
      refine HN.out _ _ ?_
      unfold PJ
      exact ⟨rfl, rfl, rfl, rfl, rfl, rfl, rfl, m, L, ext S w8 w9, A, L.text, L.recs, D9.out.below B10.out, HI.out, HO.out, HDE.out, Nat.le_succ_of_le HRL.out, rfl, (E8.out.fr F9.out).below B10.out, rfl, (E8.out.fr F9.out).below B10.out⟩
    · have HAp : Hid (∀ W, DW w0 W S g m gl L → Below wb.heap.size wb W → Calls Tryd.prog 11 #[.pointer (some ⟨gl, 0, none⟩), .slice x.A x.bs.length x.c] W fun e w' => e = .returned .nilIface ∧ DW w0 w' (ext S W w') g (L.cpM m x.bs) gl (L.new x.bs) ∧ Fr S W w') := Lib.hid fun W h1 h2 => by
        have := HAp0.out W h1 h2
        rw [p1, p3, dErr_zero] at this
        exact this
      have HNum : Hid (∀ W, Below w0.heap.size w0 W → Calls Tryd.prog 19 #[.nilIface] W fun e w' => e = .returned (.int .i64 0) ∧ Below W.heap.size W w') := Lib.hid fun W h => HNum0.out 0 W (by decide) h
      have P2 := Lib.hid p2
      have P2' := Lib.hid p2'
      clear p1 p2 p3 p2'
      go_wp2_with (first
        | (go_at_call 11; go_loud ((with_reducible refine (HAp.out w8 D8.out B8.out).mono ?_); rintro e w9 ⟨rfl, hd9, hf9⟩; have D9 := Lib.hid hd9; have F9 := Lib.hid hf9; clear hd9 hf9))
        | (go_at_call 19; go_loud ((with_reducible refine (HNum.out w9 D9.out.bel).mono ?_); rintro e w10 ⟨rfl, hb10⟩; have B10 := Lib.hid hb10; clear hb10))
        | fail)
      refine HN.out _ _ ?_
      unfold PJ
      exact ⟨rfl, rfl, rfl, rfl, rfl, rfl, rfl, L.cpM m x.bs, L.new x.bs, ext S w8 w9, B', x.bs, [], D9.out.below B10.out, P2.out, P2'.out, HDE.out, Nat.zero_le _, rfl, RR.nil _ _ _ _, rfl, RR.nil _ _ _ _⟩
    · have HAp : Hid (∀ W, DW w0 W S g m gl L → Below wb.heap.size wb W → Calls Tryd.prog 11 #[.pointer (some ⟨gl, 0, none⟩), .slice x.A x.bs.length x.c] W fun e w' => e = .returned (.iface 143 (.pointer (some (ea 25)))) ∧ DW w0 w' (ext S W w') g (L.cpM m x.bs) gl (L.cp m x.bs) ∧ Fr S W w') := Lib.hid fun W h1 h2 => by
        have := HAp0.out W h1 h2
        rw [p1, dErr_pos ea (by decide)] at this
        exact this
      have HNum : Hid (∀ W, Below w0.heap.size w0 W → Calls Tryd.prog 19 #[.iface 143 (.pointer (some (ea 25)))] W fun e w' => e = .returned (.int .i64 25) ∧ Below W.heap.size W w') := Lib.hid fun W h => by
        have := HNum0.out 25 W (by decide) h
        rw [dErr_pos ea (by decide)] at this
        exact this
      have P2 := Lib.hid p2
      clear p1 p2
      go_wp2_with (first
        | (go_at_call 11; go_loud ((with_reducible refine (HAp.out w8 D8.out B8.out).mono ?_); rintro e w9 ⟨rfl, hd9, hf9⟩; have D9 := Lib.hid hd9; have F9 := Lib.hid hf9; clear hd9 hf9))
        | (go_at_call 19; go_loud ((with_reducible refine (HNum.out w9 D9.out.bel).mono ?_); rintro e w10 ⟨rfl, hb10⟩; have B10 := Lib.hid hb10; clear hb10))
        | fail)
      refine HX.out _ _ ?_
      unfold PE
      exact ⟨rfl, rfl, rfl, L.cpM m x.bs, gl, _, L, L.new x.bs, ext S w8 w9, D9.out.below B10.out, HI.out.ok.cpM L x.bs, Nat.le_trans (cpM_waits m L x.bs) (by rw [HI.out.waits]; decide), rfl, (E8.out.fr F9.out).below B10.out, rfl, RR.nil _ _ _ _, P2.out⟩
end Go.Proofs.YtjodehdmafagoaaDoor
