/- ShaSum: its walk. -/
import Derived.Test.YtbpmigcbfbdnjaaDoorShaLaw1
import Derived.Test.YtbpmigcbfbdnjaaDoorRefSum
import Derived.Stop.BytesEq
import Derived.Deep.MidRow
import Derived.Laws.StructEq
namespace Go.Proofs.YtbpmigcbfbdnjaaDoor
open Go.RowKit

theorem Laid.start (w : World) : Laid ((w.alloc (.cells #[] 5)).alloc (.cells #[] 27)) w.heap.size (.slice (some ⟨w.heap.size, 0, none⟩) 0 0) (.slice (some ⟨w.heap.size + 1, 0, none⟩) 0 0) [] [] [] := by
  have h3 := (OB.lit w w.heap.size (Nat.le_refl _) [] 0 rfl (by decide)).alloc (.cells #[] 27)
  have h4 := OwnS.made (w := (w.alloc (.cells #[] 5)).alloc (.cells #[] 27)) (base := w.heap.size) (n := w.heap.size + 1) (e := 27) (size := 1) (by omega) (g := w.heap.size + 1) (cap := 0) (len := 0) (cur := #[])
    (by have := heap_alloc_new (w.alloc (.cells #[] 5)) (.cells #[] 27); rwa [show (w.alloc (.cells #[] 5)).heap.size = w.heap.size + 1 by simp] at this) rfl (by omega) (by unfold maxLen; omega) (by simp)
  refine ⟨h3, h4, rfl, fun k hk => absurd hk (by simp), fun k hk => absurd hk (by simp), fun q hq => ?_⟩
  simp [Value.ownBlock] at hq ⊢
  omega

theorem Laid.frame3 {B base : Nat} {a w w' : World} {v3 v4 : Value} {l3 : List UInt8} {vs : List Value} {ls : List (List UInt8)} (hb : Below B a w) (h : Laid w base v3 v4 l3 vs ls) (hg : w.grownBy w' v3.ownBlock) (hB : B ≤ base) (hw : B ≤ w.heap.size) : Below B a w' :=
  hb.grown hg hw fun k hk => Nat.le_trans hB (h.o3.lt k hk).1
theorem Laid.frame4 {B base : Nat} {a w w' : World} {v3 v4 : Value} {l3 : List UInt8} {vs : List Value} {ls : List (List UInt8)} (hb : Below B a w) (h : Laid w base v3 v4 l3 vs ls) (hg : w.grownBy w' v4.ownBlock) (hB : B ≤ base) (hw : B ≤ w.heap.size) : Below B a w' :=
  hb.grown hg hw fun k hk => Nat.le_trans hB (h.o4.lt k hk).1

theorem rangeAt_row {w : World} {b : Nat} {l : List Value} {T : TypeId} {fr : Nat × Nat} (h : w.heap[b]? = some (.cells l.toArray T fr)) : w.rangeAt b 0 l := fun j v hv => by
  rw [cell_of_row _ _ _ _ _ _ h, Nat.zero_add, List.getElem?_toArray]
  exact hv

theorem rangeAt_keep {w w' : World} {b o : Nat} {cs : List Value} (h : w.rangeAt b o cs) (k : Keeps w w') : w'.rangeAt b o cs := fun j v hv => k _ _ (h j v hv)

theorem flat_le (ls : List (List UInt8)) (m : Nat) (h : ls.any partOver1 = false) (hm : ls.length ≤ m) : ls.flatten.length ≤ 300 * m := by
  induction ls generalizing m with
  | nil => simp
  | cons p ls ih =>
    simp only [List.any_cons, Bool.or_eq_false_iff] at h
    have h1 : p.length ≤ 300 := by have := h.1; simp [partOver1] at this; omega
    have h2 := ih (m - 1) h.2 (by simp at hm; omega)
    simp only [List.flatten_cons, List.length_append]
    simp at hm
    omega

theorem part_le (ls : List (List UInt8)) (h : ls.any partOver1 = false) (k : Nat) : (ls.getD k []).length ≤ 300 := by
  rw [List.getD_eq_getElem?_getD]
  cases hk : ls[k]? with
  | none => simp
  | some p =>
    have := List.any_eq_false.1 h p (List.mem_of_getElem? hk)
    simp [partOver1] at this
    simpa using this

set_option maxHeartbeats 2000000 in
set_option maxRecDepth 100000 in
theorem ShaSum_long (A : Option Addr) (n c : Nat) (ls : List (List UInt8)) (w : World) (hl : RBL w A n ls) (hn : n ≤ maxLen) (ht : ShaTabs w) (hbad : (decide (20 < n) || ls.any partOver1) = true) :
    Calls Tryd.prog 7 #[.slice A n c] w fun e w' => e = .returned (.bool true) ∧ Below w.heap.size w w' := by
  have Hl := Lib.hid hl
  have Ht := Lib.hid ht
  have Hbad := Lib.hid hbad
  clear hl ht hbad
  go_enter Tryd.func7, Tryd.ntmps7
  go_wp2_with (first
    | (go_at_call 17; refine (alive01_any w Ht.out).mono ?_; rintro e w1 ⟨rfl, hb1⟩)
    | (go_at_call 28; refine (long01_any _ _ _ _ ls (Hl.out.keep (Keeps.of_below hb1)) hn).mono ?_; rintro e w' ⟨rfl, rfl⟩; rw [Hbad.out])
    | fail)
  go_ret
  exact ⟨rfl, hb1⟩

set_option linter.unusedSimpArgs false in
set_option maxHeartbeats 4000000 in
set_option maxRecDepth 100000 in
theorem ShaSum_short (A : Option Addr) (n c : Nat) (ls : List (List UInt8)) (w : World) (hl : RBL w A n ls) (hn : n ≤ maxLen) (ht : ShaTabs w) (hbad : (decide (20 < n) || ls.any partOver1) = false) :
    Calls Tryd.prog 7 #[.slice A n c] w fun e w' => e = .returned (.bool true) ∧ Below w.heap.size w w' := by
  have Hl := Lib.hid hl
  have Hlen := Lib.hid hl.1
  have Ht := Lib.hid ht
  have Hbad := Lib.hid hbad
  have hn20 : n ≤ 20 := by simp at hbad; omega
  have Hany : Hid (ls.any partOver1 = false) := by show _ = _; simp only [Bool.or_eq_false_iff] at hbad; exact hbad.2
  have Hfl := Lib.hid (flat_le ls n Hany.out (by rw [Hlen.out]; omega))
  clear hl ht hbad
  go_enter Tryd.func7, Tryd.ntmps7
  go_wp2_with (first
    | (go_at_call 17; refine (alive01_any w Ht.out).mono ?_; rintro e w1 ⟨rfl, hb1⟩)
    | (go_at_call 28; refine (long01_any _ _ _ _ ls (Hl.out.keep (Keeps.of_below hb1)) hn).mono ?_; rintro e w' ⟨rfl, rfl⟩; rw [Hbad.out])
    | fail)
  have Hb1 := Lib.hid hb1
  have Hst := Lib.hid (Laid.start w1)
  clear hb1
  go_loopg [3, 4, 18] n (fun k s3 s4 s18 wr => ∃ (v3 v4 : Value) (vs : List Value) (i : Nat), s3 = v3 ∧ s4 = v4 ∧ s18 = .int .i64 (i : Int) ∧ i + k = n ∧ Laid wr w1.heap.size v3 v4 (ls.take i).flatten vs (ls.take i) ∧ Below w1.heap.size w1 wr)
  case atStart => exact ⟨_, _, [], 0, rfl, rfl, rfl, by omega, Hst.out, ((Below.refl _ w1).alloc (Nat.le_refl _) _).alloc (by simp) _⟩
  case round =>
    obtain ⟨v3, v4, vs, i, rfl, rfl, rfl, hik, hlaid, hbel⟩ := hrel
    have HL := Lib.hid hlaid
    have Hbel := Lib.hid hbel
    have Hbw := Lib.hid (Hb1.out.trans (hbel.mono Hb1.out.size))
    clear hlaid hbel
    by_cases hi : i < n
    · /-S-/
      obtain ⟨b, o, hA, hc⟩ := Hl.out.2 (by omega)
      subst hA
      obtain ⟨v, c1, A', c', hv, hc1, hc2, hrb⟩ := hc i hi
      subst hv
      have c2 := Keeps.of_below Hbw.out _ _ c1
      have Hrb0 := Lib.hid hrb
      have Hrb := Lib.hid (hrb.keep (Keeps.of_below Hbw.out))
      obtain ⟨j0, gi, gz0, gz1, gz2⟩ := info_parts info_bs
      have HG := Lib.hid (And.intro gi (And.intro gz0 (And.intro gz1 gz2)))
      clear gi gz0 gz1 gz2
      have Hpl := Lib.hid (part_le ls Hany.out i)
      have Hft := Lib.hid (flat_take ls i (by rw [Hlen.out]; exact hi))
      have Htt := Lib.hid (show ls.take (i + 1) = ls.take i ++ [ls.getD i []] by
        rw [List.take_succ_eq_append_getElem (by rw [Hlen.out]; exact hi), List.getD_eq_getElem?_getD, List.getElem?_eq_getElem (by rw [Hlen.out]; exact hi)]; rfl)
      have Hfi := Lib.hid (Nat.le_trans (flat_take_le ls i) Hfl.out)
      have Hti := Lib.hid (show (ls.take i).length ≤ 20 by rw [List.length_take]; omega)
      clear hc c1 hrb
      generalize ls.getD i [] = p at *
      generalize hls1 : ls.take (i + 1) = ls1 at *
      have Hls1 := Lib.hid hls1
      clear hls1
      generalize ls.take i = ls0 at *
      have i0 : (0 : Int) ≤ (i : Int) := by omega
      have i1 : (i : Int) < (n : Int) := by omega
      have hpl := Hpl.out
      have hbase : w1.heap.size ≤ wr.heap.size := Hbel.out.size
      go_wp2_with (first
        | (at_builtin; refine wpList_append_b rfl (.tmp 22) (.tmp 23) 27 rfl HL.out.o3 rfl (RB.src Tryd.underlying27 Hrb.out) rfl (by have := Hfi.out; omega) hbase ?_; intro v5 w5 hown5 hgr5 hat5; have HL5 := Lib.hid (HL.out.add3 hgr5 hown5 hat5); have Hb5 := Lib.hid (Laid.frame3 Hbel.out HL.out hgr5 (Nat.le_refl _) hbase); have Hbw5 := Lib.hid (Hb1.out.trans (Hb5.out.mono Hb1.out.size)); clear hown5 hgr5 hat5)
        | (go_at_call 29; refine (Bytes_any _ _ _ p w5 (Hrb0.out.keep (Keeps.of_below Hbw5.out)) (by omega)).mono ?_; rintro e w6 ⟨u6, rfl, hmk6, hb6, hf6⟩; obtain ⟨A6, cap6, rfl, hz6⟩ := hmk6; have Hmk6 := Lib.hid (show Mk w6 (.slice A6 p.length cap6) p from ⟨A6, cap6, rfl, hz6⟩); have HL6 := Lib.hid (HL5.out.below hb6); have Hb6 := Lib.hid (Hb5.out.trans (hb6.mono Hb5.out.size)); have Hf6 := Lib.hid hf6; have Hs6 := Lib.hid hb6.size; clear hb6 hf6 hz6)
        | (at_builtin; refine wpList_append_ownS rfl (.tmp 25) (.tmp 28) 22 22 rfl j0 _ 24 Tryd.underlying22 HG.out.1 HG.out.2.1 HG.out.2.2.1 HG.out.2.2.2 rfl (by omega) rfl (HL6.out.o4.alloc _) _ 1 [.slice A6 p.length cap6] rfl (Src.ofSlice _ Tryd.underlying22 _ _ 1 _ rfl (fun j u hu => World.news_of_block (heap_alloc_new w6 _) j u hu) (by intro u hu; simp at hu; subst hu; rfl)) ?_ ?_ ?_ ?_; rotate_right; intro v7 w7 hown7 hgr7 hat7)
        | fail)
      case refine_1 => have := HL6.out.len; have := Hti.out; unfold maxLen; omega
      case refine_2 => have := HL6.out.len; have := Hti.out; omega
      case refine_3 => have := Hb6.out.size; simp; omega
      have hA6 := HL6.out.below ((Below.refl _ w6).alloc (Nat.le_refl _) (.cells #[.slice A6 p.length cap6] 27))
      have hl7 := hA6.add4 (p := p) hgr7 hown7 hat7 (Hmk6.out.keep (Keeps.of_below ((Below.refl _ w6).alloc (Nat.le_refl _) _))) (fun q hq => by
        have h1 := Hf6.out q hq
        have h2 := Hb5.out.size
        refine ⟨by omega, by simp; omega, fun e => ?_, fun e => ?_⟩
        · have := (HL5.out.o3.lt q e).2; omega
        · have := (HL5.out.o4.lt q e).2; omega)
      have hb7 := hA6.frame4 (Hb6.out.alloc Hb6.out.size _) hgr7 (Nat.le_refl _) (Hb6.out.alloc Hb6.out.size _).size
      have HL7 := Lib.hid hl7
      have Hb7 := Lib.hid hb7
      clear hA6 hl7 hb7 hown7 hgr7 hat7
      go_wp2
      go_roundg (gk - 1)
      case measure => omega
      case rel => exact ⟨_, _, _, i + 1, rfl, rfl, by go_num, by omega, by rw [Hls1.out, Hft.out, Htt.out]; exact HL7.out, Hb7.out⟩
      /-E-/
    · obtain rfl : i = n := by omega
      rw [List.take_of_length_le (by rw [Hlen.out]; exact Nat.le_refl _)] at HL
      obtain ⟨A4, cap4, hv4, _, _, hrbl, hmks⟩ := HL.out.rbl
      obtain ⟨A3, cap3, hv3, hc3, hm3, hrb3⟩ := HL.out.o3.form
      rw [Hlen.out] at hv4 hrbl hmks
      have Hrbl := Lib.hid hrbl
      have Hmks := Lib.hid hmks
      have Hrb3 := Lib.hid hrb3
      subst hv4
      subst hv3
      clear hrbl hmks hrb3
      have hfll : ls.flatten.length ≤ 6000 := by have := Hfl.out; omega
      generalize hall : ls.flatten = all at *
      have Hall := Lib.hid hall
      have Hfll := Lib.hid hfll
      clear hall hfll Hfl
      generalize hm : all.length = m at *
      have Hm := Lib.hid hm
      clear hm
      obtain ⟨dg, hdg⟩ : ∃ dg, dg = shaB kfun htab all := ⟨_, rfl⟩
      have HDg := Lib.hid hdg
      have Hd32 : Hid (dg.length = 32) := by show _ = _; rw [hdg]; exact shaB_length _ _ _
      obtain ⟨cur, hcur⟩ : ∃ cur, cur = (bcells dg).toArray := ⟨_, rfl⟩
      have HCur := Lib.hid hcur
      have HB1 : Hid (cur.all (·.oneCell') = true) := by
        show _ = true
        rw [hcur, Array.all_eq_true_iff_forall_mem]
        intro y hy
        exact bcells_one _ y (by simpa using hy)
      have Hcs : Hid (cur.size = 32) := by show _ = _; rw [hcur]; simp [bcells, Hd32.out]
      clear hcur hdg
      go_wp2_with fail
      refine (Sum_any A4 i cap4 ls kfun htab wr Hrbl.out (Ht.out.k.keep (Keeps.of_below Hbw.out)) (Ht.out.f.keep (Keeps.of_below Hbw.out)) (by have := Ht.out.lt; have := Hbw.out.size; omega) hn (by rw [Hall.out]; have := Hfll.out; have := Hm.out; omega)).mono ?_
      rintro e w5 ⟨rfl, hb5⟩
      rw [Hall.out, ← HDg.out, ← HCur.out]
      have Hb5 := Lib.hid hb5
      clear hb5
      go_wp2_with (first
        | (refine wpList_store_row rfl 44 (.tmp 7) (.tmp 32) rfl w5.heap.size cur rfl rfl 44 _ (heap_alloc_new w5 _) (by rw [Hcs.out]; exact info_32) (by rw [Hcs.out]; rfl) HB1.out ?_)
        | fail)
      obtain ⟨w6, hw6⟩ : ∃ W, W = (w5.alloc (.cells zeros32 44)).setRow w5.heap.size cur := ⟨_, rfl⟩
      have Hr6 : Hid (w6.heap[w5.heap.size]? = some (.cells cur 44 (0, 0))) := by show _ = _; rw [hw6]; exact setRow_heap _ _ _ _ _ _ (heap_alloc_new w5 _)
      have Hb6 : Hid (Below wr.heap.size wr w6) := by show Below _ _ _; rw [hw6]; exact below_setRow (Hb5.out.alloc Hb5.out.size _) Hb5.out.size cur
      change Calls _ _ _ ((w5.alloc (.cells zeros32 44)).setRow w5.heap.size cur) _
      rw [← hw6]
      clear hw6
      refine (RefSum_any A3 m cap3 all w6 (Hrb3.out.keep (Keeps.of_below Hb6.out)) (by have := Hfll.out; have := Hm.out; omega)).mono ?_
      rintro e w7 ⟨rfl, hb7⟩
      rw [← HDg.out, ← HCur.out]
      have Hr7 := Lib.hid ((hb7.block _ (Array.getElem?_eq_some_iff.1 Hr6.out).1).trans Hr6.out)
      have Hb7 := Lib.hid (Hb6.out.trans (hb7.mono Hb6.out.size))
      clear hb7
      go_wp2_with (first
        | (refine wpList_store_row rfl 44 (.tmp 8) (.tmp 34) rfl w7.heap.size cur rfl rfl 44 _ (heap_alloc_new w7 _) (by rw [Hcs.out]; exact info_32) (by rw [Hcs.out]; rfl) HB1.out ?_)
        | fail)
      obtain ⟨w8, hw8⟩ : ∃ W, W = (w7.alloc (.cells zeros32 44)).setRow w7.heap.size cur := ⟨_, rfl⟩
      have Hr8 : Hid (w8.heap[w7.heap.size]? = some (.cells cur 44 (0, 0))) := by show _ = _; rw [hw8]; exact setRow_heap _ _ _ _ _ _ (heap_alloc_new w7 _)
      have Hr8' : Hid (w8.heap[w5.heap.size]? = some (.cells cur 44 (0, 0))) := by
        show _ = _
        rw [hw8]
        have hlt := (Array.getElem?_eq_some_iff.1 Hr7.out).1
        exact (setRow_other _ _ _ _ (by omega)).trans ((Below.heap_alloc w7 _ _ hlt).trans Hr7.out)
      have Hb8 : Hid (Below wr.heap.size wr w8) := by show Below _ _ _; rw [hw8]; exact below_setRow (Hb7.out.alloc Hb7.out.size _) Hb7.out.size cur
      change Code.wp _ _ _ _ ((w7.alloc (.cells zeros32 44)).setRow w7.heap.size cur)
      rw [← hw8]
      clear hw8
      have HK8 := Lib.hid (Keeps.of_below Hb8.out)
      go_loopw [37] (fun s37 wq => ∃ j : Nat, j ≤ i ∧ s37 = .int .i64 (j : Int) ∧ ∃ q, wq = w8.drewN q) (fun s37 _ => i - (intOf s37).toNat)
      case atStart => exact ⟨0, by omega, rfl, 0, rfl⟩
      case round =>
        rename World => wq
        obtain ⟨j, hj, rfl, q, hwq⟩ := hrel
        have Hwq := Lib.hid hwq
        have Hk8 : Hid (Keeps wr wq) := by show Keeps _ _; rw [hwq]; exact HK8.out.trans (Keeps.drewN _ _)
        clear hwq
        by_cases hji : j < i
        · obtain ⟨b4, o4, e4, hc4⟩ := Hmks.out (by omega)
          subst e4
          obtain ⟨u, hu1, A5, cap5, hu2, hu3, hu4, hu5⟩ := hc4 j hji
          subst hu2
          have d1 := Hk8.out _ _ hu1
          obtain ⟨b0, o0, e0, hc0⟩ := Hl.out.2 (by omega)
          subst e0
          obtain ⟨u', hp1, A6, cap6, hp2, hp3, hp4, hp5⟩ := hc0 j hji
          subst hp2
          have d2 := Hk8.out _ _ (Keeps.of_below Hbw.out _ _ hp1)
          obtain ⟨b5, o5, e5, _⟩ := hu5.2 (by omega)
          subst e5
          have Hk5 := Lib.hid (hu5.keep Hk8.out)
          have Hk6 := Lib.hid ((hp5.keep (Keeps.of_below Hbw.out)).keep Hk8.out)
          have Hpl := Lib.hid (part_le ls Hany.out j)
          clear hc4 hu1 hu5 hc0 hp1 hp5
          generalize ls.getD j [] = p at *
          have i0 : (0 : Int) ≤ (j : Int) := by omega
          have i1 : (j : Int) < (i : Int) := by omega
          go_wp2_with fail
          go_quiet ((go_at_call 30; with_reducible exact Calls.quiet_of (Kept_any b5 o5 A6 p.length cap5 cap6 p _ (Hk5.out.keep (Keeps.drewN wq _)) (Hk6.out.keep (Keeps.drewN wq _)) hu3 hu4 (by have := Hpl.out; omega))))
          go_wp2
          go_roundw
          case rel => exact ⟨j + 1, by omega, by go_num, _, by rw [Hwq.out, World.drewN_drewN]⟩
          case measure => simp [intOf]; omega
        · obtain rfl : j = i := by omega
          have hr5 : wq.heap[w5.heap.size]? = some (.cells (bcells dg).toArray 44 (0, 0)) := by rw [Hwq.out, ← HCur.out]; exact Hr8'.out
          have hr7 : wq.heap[w7.heap.size]? = some (.cells (bcells dg).toArray 44 (0, 0)) := by rw [Hwq.out, ← HCur.out]; exact Hr8.out
          have Hr5q := Lib.hid hr5
          have Hr7q := Lib.hid hr7
          have r5 : wq.rangeAt w5.heap.size 0 (bcells dg) := rangeAt_row hr5
          have r7 : wq.rangeAt w7.heap.size 0 (bcells dg) := rangeAt_row hr7
          clear hr5 hr7
          have hu := Tryd.underlying44
          have hsz : (bcells dg).length = 32 := by rw [bcells_length, Hd32.out]
          have hin : (Tryd.prog.info? 44).map (·.size) = some (bcells dg).length := by rw [hsz]; exact info_32
          have hone := bcells_one dg
          have heq : ∀ W, (binOp .eql 44 (.agg (bcells dg).toArray) (.agg (bcells dg).toArray)).run Tryd.prog W = .ok (.bool true) W := fun W => by
            have h := run_eql_bytes (P := Tryd.prog) W 44 5 32 Tryd.underlying44 Tryd.underlying5 (fun _ => by kernel_rfl) dg dg Hd32.out Hd32.out
            rw [beq_self_eq_true] at h
            exact h
          go_wp2_with fail
          refine wp_region_noPanic ?_
          refine wp_region_held_drew (S := (fun w' => w'.rangeAt w5.heap.size 0 (bcells dg) ∧ w'.rangeAt w7.heap.size 0 (bcells dg))) (by kernel_rfl) ?_ (fun hHeld => ?_)
          · exact ⟨r5, r7⟩
          refine wpAnyH_take (i := 0) (oi := _) (v := _) rfl (by kernel_rfl) (by kernel_rfl) (by kernel_rfl) (fun _ _ _ h => h) (yieldsIf_load_mid (by rfl) _ _ rfl _ _ rfl _ _ (fun w hSw => hSw.1) hu rfl hin) hHeld ?_
          try simp only [Act.put, List.setIfInBounds_toArray, List.set_cons_zero, List.set_cons_succ, List.getElem_toArray, List.getElem_cons_succ, List.getElem_cons_zero]
          refine wpAnyH_take (i := 1) (oi := _) (v := _) rfl (by kernel_rfl) (by kernel_rfl) (by kernel_rfl) (fun _ _ _ h => h) (yieldsIf_load_mid (by rfl) _ _ rfl _ _ rfl _ _ (fun w hSw => hSw.2) hu rfl hin) hHeld ?_
          try simp only [Act.put, List.setIfInBounds_toArray, List.set_cons_zero, List.set_cons_succ, List.getElem_toArray, List.getElem_cons_succ, List.getElem_cons_zero]
          refine wpAnyH_take (i := 2) (v := ?_) rfl (by kernel_rfl) (by kernel_rfl) (by kernel_rfl) (fun _ _ _ h => h) (Or.inl ⟨by rfl, ?_⟩) hHeld ?_
          rotate_left
          · intro w hSw
            go_simp
            first | done | (with_reducible rfl)
          try simp only [Act.put, List.setIfInBounds_toArray, List.set_cons_zero, List.set_cons_succ, List.getElem_toArray, List.getElem_cons_succ, List.getElem_cons_zero]
          refine wpAnyH_take (i := 3) (v := ?_) rfl (by kernel_rfl) (by kernel_rfl) (by kernel_rfl) (fun _ _ _ h => h) (Or.inl ⟨by rfl, ?_⟩) hHeld ?_
          rotate_left
          · intro w hSw
            go_simp
            first | done | (with_reducible rfl)
          try simp only [Act.put, List.setIfInBounds_toArray, List.set_cons_zero, List.set_cons_succ, List.getElem_toArray, List.getElem_cons_succ, List.getElem_cons_zero]
          refine wpAnyH_take (i := 4) (v := ?_) rfl (by kernel_rfl) (by kernel_rfl) (by kernel_rfl) (fun _ _ _ h => h) (Or.inl ⟨by rfl, ?_⟩) hHeld ?_
          rotate_left
          · intro w hSw
            go_simp
            first | done | (with_reducible rfl)
          try simp only [Act.put, List.setIfInBounds_toArray, List.set_cons_zero, List.set_cons_succ, List.getElem_toArray, List.getElem_cons_succ, List.getElem_cons_zero]
          refine wpAnyH_take (i := 7) (oi := _) (v := _) rfl (by kernel_rfl) (by kernel_rfl) (by kernel_rfl) (fun _ _ _ h => h) (yieldsIf_load_mid (by rfl) _ _ rfl _ _ rfl _ _ (fun w hSw => hSw.2) hu rfl hin) hHeld ?_
          try simp only [Act.put, List.setIfInBounds_toArray, List.set_cons_zero, List.set_cons_succ, List.getElem_toArray, List.getElem_cons_succ, List.getElem_cons_zero]
          refine wpAnyH_ready (rs := [5]) (by kernel_rfl) (by simp) ?_
          refine AllReadyH.cons (o := _) rfl (fun K hK => ?_) AllReadyH.nil
          go_simp
          have hka : Keeps wq (wq.alloc (.cells #[.slice A3 m cap3] 27)).drew := Keeps.of_below (below_drew ((Below.refl _ wq).alloc (Nat.le_refl _) _))
          refine hK.out _ _ ?_ (fun hHeld => ?_)
          · exact ⟨rangeAt_keep r5 hka, rangeAt_keep r7 hka⟩
          clear hK K
          try simp only [Act.put, List.setIfInBounds_toArray, List.set_cons_zero, List.set_cons_succ, List.getElem_toArray, List.getElem_cons_succ, List.getElem_cons_zero]
          refine wpAnyH_ready (rs := [6]) (by kernel_rfl) (by simp) ?_
          refine AllReadyH.cons (o := _) rfl (fun K hK => ?_) AllReadyH.nil
          go_simp
          have hrbl1 : RBL (wq.alloc (.cells #[.slice A3 m cap3] 27)).drew (some ⟨wq.heap.size, 0, none⟩) 1 [all] := RBL.lits (vs := [.slice A3 m cap3]) (heap_alloc_new wq _) rfl (fun k hk => by
            obtain rfl : k = 0 := by omega
            exact ⟨_, rfl, SB.of_rb (Hrb3.out.keep (Hk8.out.trans hka)) hc3 hm3⟩)
          have hkw := (Keeps.of_below Hbw.out).trans (Hk8.out.trans hka)
          refine (Sum_any _ 1 1 [all] kfun htab _ hrbl1 (Ht.out.k.keep hkw) (Ht.out.f.keep hkw) (ShaTabs.lt (Ht.out.keep hkw)) (by unfold maxLen; omega) (by have := Hfll.out; have := Hm.out; simp; omega)).mono ?_
          rintro e w9 ⟨rfl, hb9⟩
          rw [show [all].flatten = all by simp, ← HDg.out]
          have hk9 := hka.trans (Keeps.of_below hb9)
          refine hK.out _ _ ?_ (fun hHeld => ?_)
          · exact ⟨rangeAt_keep r5 hk9, rangeAt_keep r7 hk9⟩
          clear hK K
          try simp only [Act.put, List.setIfInBounds_toArray, List.set_cons_zero, List.set_cons_succ, List.getElem_toArray, List.getElem_cons_succ, List.getElem_cons_zero]
          refine wpAnyH_take (i := 8) (v := ?_) rfl (by kernel_rfl) (by kernel_rfl) (by kernel_rfl) (fun _ _ _ h => h) (Or.inl ⟨by rfl, ?_⟩) hHeld ?_
          rotate_left
          · intro w hSw
            go_simp
            first | done | (with_reducible rfl)
          try simp only [Act.put, List.setIfInBounds_toArray, List.set_cons_zero, List.set_cons_succ, List.getElem_toArray, List.getElem_cons_succ, List.getElem_cons_zero]
          refine wpAnyH_take (i := 9) (v := ?_) rfl (by kernel_rfl) (by kernel_rfl) (by kernel_rfl) (fun _ _ _ h => h) (Or.inl ⟨by rfl, ?_⟩) hHeld ?_
          rotate_left
          · intro w hSw
            go_simp
            first | done | (with_reducible rfl)
          try simp only [Act.put, List.setIfInBounds_toArray, List.set_cons_zero, List.set_cons_succ, List.getElem_toArray, List.getElem_cons_succ, List.getElem_cons_zero]
          refine wpAnyH_take (i := 10) (v := ?_) rfl (by kernel_rfl) (by kernel_rfl) (by kernel_rfl) (fun _ _ _ h => h) (Or.inl ⟨by rfl, ?_⟩) hHeld ?_
          rotate_left
          · intro w hSw
            go_simp
            first | done | (with_reducible rfl)
          try simp only [Act.put, List.setIfInBounds_toArray, List.set_cons_zero, List.set_cons_succ, List.getElem_toArray, List.getElem_cons_succ, List.getElem_cons_zero]
          refine wpAnyH_take (i := 11) (oi := _) (v := _) rfl (by kernel_rfl) (by kernel_rfl) (by kernel_rfl) (fun _ _ _ h => h) (yieldsIf_load_mid (by rfl) _ _ rfl _ _ rfl _ _ (fun w hSw => hSw.1) hu rfl hin) hHeld ?_
          try simp only [Act.put, List.setIfInBounds_toArray, List.set_cons_zero, List.set_cons_succ, List.getElem_toArray, List.getElem_cons_succ, List.getElem_cons_zero]
          refine wpAnyH_take (i := 13) (v := ?_) rfl (by kernel_rfl) (by kernel_rfl) (by kernel_rfl) (fun _ _ _ h => h) (Or.inl ⟨by rfl, ?_⟩) hHeld ?_
          rotate_left
          · intro w hSw
            go_simp
            first | done | (with_reducible rfl)
          try simp only [Act.put, List.setIfInBounds_toArray, List.set_cons_zero, List.set_cons_succ, List.getElem_toArray, List.getElem_cons_succ, List.getElem_cons_zero]
          refine wpAnyH_ready (rs := [12]) (by kernel_rfl) (by simp) ?_
          refine AllReadyH.cons (o := _) rfl (fun K hK => ?_) AllReadyH.nil
          go_simp
          refine (Text_any dg w9 Hd32.out).mono ?_
          rintro e w10 ⟨rfl, hb10⟩
          have hk10 := hk9.trans (Keeps.of_below hb10)
          refine hK.out _ _ ?_ (fun hHeld => ?_)
          · exact ⟨rangeAt_keep r5 hk10, rangeAt_keep r7 hk10⟩
          clear hK K
          try simp only [Act.put, List.setIfInBounds_toArray, List.set_cons_zero, List.set_cons_succ, List.getElem_toArray, List.getElem_cons_succ, List.getElem_cons_zero]
          refine wpAnyH_ready (rs := [14]) (by kernel_rfl) (by simp) ?_
          refine AllReadyH.cons (o := _) rfl (fun K hK => ?_) AllReadyH.nil
          go_simp
          have hrb7 : RB w10 (some ⟨w7.heap.size, 0, none⟩) 32 dg := ⟨Hd32.out, fun _ => ⟨_, 0, rfl, fun k hk => (rangeAt_keep r7 hk10) k _ (bcells_get (by rw [Hd32.out]; exact hk))⟩⟩
          refine (RefText_any _ 32 32 dg w10 hrb7 (by omega)).mono ?_
          rintro e w11 ⟨rfl, hb11⟩
          have hk11 := hk10.trans (Keeps.of_below hb11)
          refine hK.out _ _ ?_ (fun hHeld => ?_)
          · exact ⟨rangeAt_keep r5 hk11, rangeAt_keep r7 hk11⟩
          clear hK K
          try simp only [Act.put, List.setIfInBounds_toArray, List.set_cons_zero, List.set_cons_succ, List.getElem_toArray, List.getElem_cons_succ, List.getElem_cons_zero]
          have sl := str_list (hexs dg)
          refine wpAnyH_take (i := 15) (v := ?_) rfl (by kernel_rfl) (by kernel_rfl) (by kernel_rfl) (fun _ _ _ h => h) (Or.inl ⟨by rfl, ?_⟩) hHeld ?_
          rotate_left
          · intro w hSw
            go_simp
            first | done | (with_reducible rfl)
          try simp only [Act.put, List.setIfInBounds_toArray, List.set_cons_zero, List.set_cons_succ, List.getElem_toArray, List.getElem_cons_succ, List.getElem_cons_zero]
          refine wpAnyH_take (i := 16) (v := ?_) rfl (by kernel_rfl) (by kernel_rfl) (by kernel_rfl) (fun _ _ _ h => h) (Or.inl ⟨by rfl, ?_⟩) hHeld ?_
          rotate_left
          · intro w hSw
            go_simp
            first | done | (with_reducible rfl)
          try simp only [Act.put, List.setIfInBounds_toArray, List.set_cons_zero, List.set_cons_succ, List.getElem_toArray, List.getElem_cons_succ, List.getElem_cons_zero]
          refine wpAnyH_take (i := 17) (v := ?_) rfl (by kernel_rfl) (by kernel_rfl) (by kernel_rfl) (fun _ _ _ h => h) (Or.inl ⟨by rfl, ?_⟩) hHeld ?_
          rotate_left
          · intro w hSw
            go_simp
            first | done | (with_reducible rfl)
          try simp only [Act.put, List.setIfInBounds_toArray, List.set_cons_zero, List.set_cons_succ, List.getElem_toArray, List.getElem_cons_succ, List.getElem_cons_zero]
          refine wpAnyH_done (by kernel_rfl) ?_ _
          refine NoPanic.normal ?_
          have Hfin := Lib.hid (show Below w.heap.size w w11 by
            have h1 : Below w.heap.size w w8 := Hbw.out.trans (Hb8.out.mono Hbw.out.size)
            have h2 : Below w.heap.size w wq := by rw [Hwq.out]; exact below_drewN h1 q
            have h3 : Below w.heap.size w (wq.alloc (.cells #[.slice A3 m cap3] 27)).drew := below_drew (h2.alloc h2.size _)
            have h4 := h3.trans (hb9.mono h3.size)
            have h5 := h4.trans (hb10.mono h4.size)
            exact h5.trans (hb11.mono h5.size))
          go_wp2
          go_ret
          exact ⟨rfl, Hfin.out⟩
end Go.Proofs.YtbpmigcbfbdnjaaDoor
