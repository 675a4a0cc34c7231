/- The reference's ring (bullaref10): Verify, Sign. -/
import Derived.Test.YtlfeofakggkebaaDoorRefRing
import Derived.Deep.RegionHeld3
namespace Go.Proofs.YtlfeofakggkebaaDoor
open Go.RowKit Go.Instr

section
variable {w0 w w' : World} {r : Nat} {ks : List RK} {bk : List RLn}

set_option maxHeartbeats 1000000 in
set_option maxRecDepth 100000 in
theorem RVerify_bad (hS : RR w0 w r ks bk) (id s : ByteArray) (k : RK) (hk : findR id ks = some k) (hn : ks.length ≤ 1000000) (A : Option Addr) (n c : Nat) (m : List UInt8) (hm : RB w A n m) (hnc : n ≤ c) (hc : c ≤ maxLen) (hn2 : n ≤ 65536) (hs : s.size ≤ 1000000) (hw : wordBad s.data.toList = true) (v : Value) :
    Calls Tryd.prog 27 #[.pointer (some ⟨r, 0, none⟩), .string id, .string s, .slice A n c, v] w fun e w' => e = .returned (.int .i64 8) ∧ Below w.heap.size w w' := by
  have H := Lib.hid (asked_any hS id s k hk hn A n c m hm hnc hc hn2 hs)
  rw [if_pos hw] at H
  clear hS hk hn hm hnc hc hn2 hs hw
  go_enter Tryd.func27, Tryd.ntmps27
  go_wp2_with (go_at_call 63; refine H.out.mono ?_; rintro e w1 ⟨rfl, hb1⟩)
  go_ret
  exact ⟨rfl, hb1⟩
set_option maxHeartbeats 1000000 in
set_option maxRecDepth 100000 in
theorem RSign_bad (hS : RR w0 w r ks bk) (id s : ByteArray) (k : RK) (hk : findR id ks = some k) (hn : ks.length ≤ 1000000) (A : Option Addr) (n c : Nat) (m : List UInt8) (hm : RB w A n m) (hnc : n ≤ c) (hc : c ≤ maxLen) (hn2 : n ≤ 65536) (hs : s.size ≤ 1000000) (hw : wordBad s.data.toList = true) :
    Calls Tryd.prog 25 #[.pointer (some ⟨r, 0, none⟩), .string id, .string s, .slice A n c] w fun e w' => e = .returned (.tuple #[.slice none 0 0, .int .i64 8]) ∧ Below w.heap.size w w' := by
  have H := Lib.hid (asked_any hS id s k hk hn A n c m hm hnc hc hn2 hs)
  rw [if_pos hw] at H
  clear hS hk hn hm hnc hc hn2 hs hw
  go_enter Tryd.func25, Tryd.ntmps25
  go_wp2_with (go_at_call 63; refine H.out.mono ?_; rintro e w1 ⟨rfl, hb1⟩)
  go_ret2
  exact ⟨rfl, hb1⟩

/-- A digest in a new array. -/
theorem dig_row {w2 : World} {l : List UInt8} (_hl : l.length = 32) {B : Nat} {a : World} (hb : Below B a w2) (hB : B ≤ w2.heap.size) : ((w2.alloc (.cells zer32 48)).setRow w2.heap.size (bcells l).toArray).heap[w2.heap.size]? = some (.cells (bcells l).toArray 48 (0, 0)) ∧ Below B a ((w2.alloc (.cells zer32 48)).setRow w2.heap.size (bcells l).toArray) ∧ Below w2.heap.size w2 ((w2.alloc (.cells zer32 48)).setRow w2.heap.size (bcells l).toArray) :=
  ⟨setRow_heap _ _ _ _ _ _ (heap_alloc_new w2 _), below_setRow (hb.alloc hB _) hB _, below_setRow ((Below.refl _ w2).alloc (Nat.le_refl _) _) (Nat.le_refl _) _⟩

set_option maxHeartbeats 2000000 in
set_option maxRecDepth 100000 in
theorem RVerify_good (hS : RR w0 w r ks bk) (id s : ByteArray) (k : RK) (hk : findR id ks = some k) (hkk : k ∈ ks) (hn : ks.length ≤ 1000000) (hbn : bk.length ≤ 1000000) (A : Option Addr) (n c : Nat) (m : List UInt8) (hm : RB w A n m) (hnc : n ≤ c) (hc : c ≤ maxLen) (hn2 : n ≤ 65536) (hs : s.size ≤ 1000000) (hw : wordBad s.data.toList = false) (hkl : k.key.length ≤ 1000)
    (A2 : Option Addr) (n2 c2 : Nat) (sg : List UInt8) (hsg : RB w A2 n2 sg) :
    Calls Tryd.prog 27 #[.pointer (some ⟨r, 0, none⟩), .string id, .string s, .slice A n c, .slice A2 n2 c2] w fun e w' =>
      e = .returned (.int .i64 (if hmacF k.key (frameB s.data.toList [m]) = sg ∧ (bk.any fun x => eqLn x ⟨id, s, ⟨m.toArray⟩⟩) = true then 0 else 12)) ∧ Below w.heap.size w w' := by
  have H := Lib.hid (asked_any hS id s k hk hn A n c m hm hnc hc hn2 hs)
  rw [if_neg (by rw [hw]; decide)] at H
  have HFI : Hid (∀ W, RR w0 W r ks bk → Calls Tryd.prog 61 #[.pointer (some ⟨r, 0, none⟩), .string id] W fun e w' => e = .returned (.tuple #[.slice k.A k.key.length k.c, .bool true]) ∧ Below W.heap.size W w') := Lib.hid fun W h => by
    have := find_any h id hn
    rw [hk] at this
    exact this
  have HG : Hid (frameBad s.data.toList [m] = false) := Lib.hid (by
    unfold frameBad partsBad
    rw [hw]
    have := hm.1
    simp [tooLong]
    omega)
  have HT : Hid (∀ W, RR w0 W r ks bk → RB W A n m → Calls Tryd.prog 21 #[.slice k.A k.key.length k.c, .string s, .slice (some ⟨W.heap.size, 0, none⟩) 1 1] (W.alloc (.cells #[.slice A n c] 22)) fun e w' => e = .returned (.agg (bcells (hmacF k.key (frameB s.data.toList [m]))).toArray) ∧ Below W.heap.size W w') := Lib.hid fun W h hm => by
    have D := (Below.refl W.heap.size W).alloc (Nat.le_refl _) (.cells #[.slice A n c] 22)
    exact (RefTagged_good k.A k.key.length k.c k.key s _ 1 1 [m] _ ((h.keys k hkk).1.keep (Keeps.of_below D)) (by omega) (RBL.one hm hnc hc) HG.out).mono fun e w' ⟨h1, h2⟩ => ⟨h1, D.trans (h2.mono D.size)⟩
  have HS := Lib.hid hS
  have HM := Lib.hid hm
  have HSG := Lib.hid hsg
  have HIN : Hid (∀ W, RR w0 W r ks bk → Calls Tryd.prog 64 #[.pointer (some ⟨r, 0, none⟩), .agg #[.string id, .string s, .string ⟨m.toArray⟩]] W fun e w' => e = .returned (.bool (bk.any fun x => eqLn x ⟨id, s, ⟨m.toArray⟩⟩)) ∧ Below W.heap.size W w') := Lib.hid fun W h => in_any h ⟨id, s, ⟨m.toArray⟩⟩ hbn
  clear hS hk hkk hn hbn hm hnc hc hn2 hs hw hkl hsg HG
  have Hm32 : Hid ((hmacF k.key (frameB s.data.toList [m])).length = 32) := Lib.hid (shaB_length _ _ _)
  generalize hmacF k.key (frameB s.data.toList [m]) = mac at *
  generalize (bk.any fun x => eqLn x ⟨id, s, ⟨m.toArray⟩⟩) = got at *
  have part : ∀ same : Bool, (mac == sg) = same → Calls Tryd.prog 27 #[.pointer (some ⟨r, 0, none⟩), .string id, .string s, .slice A n c, .slice A2 n2 c2] w fun e w' =>
      e = .returned (.int .i64 (if same && got then 0 else 12)) ∧ Below w.heap.size w w' := by
    intro same hsame
    have hq : (mac != sg) = !same := by rw [bne, hsame]
    have hd : decide (mac = sg) = same := by rw [← hsame]; by_cases h : mac = sg <;> simp [h]
    have sm := str_list mac
    have ss := str_list sg
    obtain ⟨cur, hcur⟩ : ∃ cur, cur = (bcells mac).toArray := ⟨_, rfl⟩
    rw [← hcur] at HT
    have HCur := Lib.hid hcur
    have HC2 : Hid (cur.size = 32) := Lib.hid (by rw [hcur]; simp [bcells, Hm32.out])
    have HB2 : Hid (cur.all (·.oneCell') = true) := Lib.hid (by
      rw [hcur, Array.all_eq_true_iff_forall_mem]
      intro y hy
      exact bcells_one _ y (by simpa using hy))
    clear hcur
    go_enter Tryd.func27, Tryd.ntmps27
    go_wp2_with (first
      | (go_at_call 63; refine H.out.mono ?_; rintro e w1 ⟨rfl, hb1⟩; have HS1 := Lib.hid (HS.out.below hb1); have B1 := Lib.hid hb1; clear hb1)
      | (go_at_call 61; refine (HFI.out w1 HS1.out).mono ?_; rintro e w2 ⟨rfl, hb2⟩; have HS2 := Lib.hid (HS1.out.below hb2); have B2 := Lib.hid (B1.out.trans (hb2.mono B1.out.size)); clear hb2)
      | (go_at_call 21; refine (HT.out w2 HS2.out (HM.out.keep (Keeps.of_below B2.out))).mono ?_; rintro e w3 ⟨rfl, hb3⟩; have HS3 := Lib.hid (HS2.out.below hb3); have B3 := Lib.hid (B2.out.trans (hb3.mono B2.out.size)); clear hb3)
      | (refine wpList_store_row rfl 48 (.tmp 14) (.tmp 33) rfl w3.heap.size cur rfl rfl 48 _ (heap_alloc_new w3 _) (by rw [HC2.out]; exact info_32) (by rw [HC2.out]; rfl) HB2.out ?_; obtain ⟨w6, hw6⟩ : ∃ W, W = (w3.alloc (.cells zer32 48)).setRow w3.heap.size cur := ⟨_, rfl⟩; change wpList _ _ _ _ _ ((w3.alloc (.cells zer32 48)).setRow w3.heap.size cur); rw [← hw6]; have HD := dig_row Hm32.out B3.out B3.out.size; rw [← HCur.out, ← hw6] at HD; have R6 := Lib.hid HD.1; have B6 := Lib.hid HD.2.1; have HS6 := Lib.hid (HS3.out.below HD.2.2); clear hw6 HD)
      | fail)
    have CX : Hid (∀ W, Below w6.heap.size w6 W → (convert 22 9 (.slice (some ⟨w3.heap.size, 0, none⟩) 32 32)).run Tryd.prog W = .ok (.string ⟨mac.toArray⟩) W) := Lib.hid fun W hW => run_bytes_string (P := Tryd.prog) Tryd.underlying22 Tryd.underlying5 Tryd.underlying9 (c := 32) ((RB.row (l := mac) (by rw [R6.out, HCur.out]) Hm32.out).keep (Keeps.of_below hW))
    have CY : Hid (∀ W, Below w6.heap.size w6 W → (convert 22 9 (.slice A2 n2 c2)).run Tryd.prog W = .ok (.string ⟨sg.toArray⟩) W) := Lib.hid fun W hW => run_bytes_string (P := Tryd.prog) Tryd.underlying22 Tryd.underlying5 Tryd.underlying9 (c := c2) ((HSG.out.keep (Keeps.of_below B6.out)).keep (Keeps.of_below hW))
    have CM : Hid (∀ W, Below w6.heap.size w6 W → (convert 22 9 (.slice A n c)).run Tryd.prog W = .ok (.string ⟨m.toArray⟩) W) := Lib.hid fun W hW => run_bytes_string (P := Tryd.prog) Tryd.underlying22 Tryd.underlying5 Tryd.underlying9 (c := c) ((HM.out.keep (Keeps.of_below B6.out)).keep (Keeps.of_below hW))
    have D6 := below_drewN (Below.refl w6.heap.size w6) 1
    have e1 := CX.out w6.drew D6
    have e2 := CY.out w6.drew D6
    have e3 := CM.out w6.drew D6
    replace D6 := Lib.hid D6
    cases same with
    | true =>
      go_region_held3 (fun w' => (convert 22 9 (.slice (some ⟨w3.heap.size, 0, none⟩) 32 32)).run Tryd.prog w' = .ok (.string ⟨mac.toArray⟩) w' ∧ (convert 22 9 (.slice A2 n2 c2)).run Tryd.prog w' = .ok (.string ⟨sg.toArray⟩) w' ∧ (convert 22 9 (.slice A n c)).run Tryd.prog w' = .ok (.string ⟨m.toArray⟩) w') (first | assumption | ((try dsimp only); exact ⟨by assumption, by assumption, by assumption⟩))
        (first | (go_at_call 64; refine (HIN.out w6.drew (HS6.out.below D6.out)).mono ?_; rintro e w7 ⟨rfl, hb7⟩; have D7 := D6.out.trans (hb7.mono D6.out.size); have k1 := CX.out w7 D7; have k2 := CY.out w7 D7; have k3 := CM.out w7 D7; have B7 := Lib.hid (B6.out.trans (D7.mono B6.out.size)); clear hb7 D7))
      cases got with
      | true =>
        go_wp2
        go_ret
        exact ⟨rfl, B7.out⟩
      | false =>
        go_wp2
        go_ret
        exact ⟨rfl, B7.out⟩
    | false =>
      have f1 := fun k => CX.out (w6.drewN k) (below_drewN (Below.refl _ _) k)
      have f2 := fun k => CY.out (w6.drewN k) (below_drewN (Below.refl _ _) k)
      clear e1 e2 e3 CX CY CM
      refine wp_region_quiet_lit (by kernel_rfl) (by kernel_rfl) ?_
      repeat (any_goals (first | go_big_quiet_step (fail) | quiet_step (fail)))
      refine wpQuiet_nil ?_
      intro _ hw'
      obtain ⟨nq, hw''⟩ := hw'
      subst hw''
      go_wp2
      go_ret
      exact ⟨rfl, below_drewN B6.out _⟩
  have h := part _ rfl
  have e : (if (mac == sg && got) = true then (0 : Int) else 12) = (if mac = sg ∧ got = true then 0 else 12) := by simp
  rw [e] at h
  exact h
end

theorem step_app1 {ops : Array Oper} {o : Oper} {a : Act} {W w8 : World} {K : Act → World → Prop} {Q : Exit → Act → World → Prop} {E : Prop} {base pE : Nat} {vb : Value} {bk : List RLn} (hgd : o.guard = none) (s x : Operand)
    (ho : o.op = .call { callee := .builtin .append, args := #[s, x], argTypes := #[53, 53] })
    (hW : Below w8.heap.size w8 W) (hE : OwnS W w8.heap.size 129 3 (.slice (some ⟨pE, 0, none⟩) 0 0) 0 []) (hs : a.eval s = .slice (some ⟨pE, 0, none⟩) 0 0)
    (hb : OwnS w8 base 129 3 vb bk.length (lCellsR bk)) (hx : a.eval x = vb) (hn : bk.length ≤ 1000)
    (h : ∀ v5 w5, OwnS w5 w8.heap.size 129 3 v5 bk.length (lCellsR bk) → Below w8.heap.size w8 w5 → (∀ k, k < W.heap.size → k ≠ pE → w5.heap[k]? = W.heap[k]?) → K (a.put o.dst v5) w5) :
    if Region.wanted o (yielded ops a.tmps) = true then Oper.wp Tryd.prog o a W K Q else E := by
  obtain ⟨i0, hi, hz0, hz1, hz2⟩ := info_partsR info_line
  refine step_append_ownS hgd s x 53 53 ho i0 _ 48 Tryd.underlying53 hi hz0 hz1 hz2 rfl (by omega) hs hE vb bk.length (lCellsR bk) hx (Src.ofOwnS Tryd.underlying53 (hb.below hW) (lCellsR_one bk)) (by unfold maxLen; omega) (by omega) hW.size fun v5 w5 h1 h2 h3 => ?_
  simp only [Nat.zero_add, List.nil_append] at h1
  refine h v5 w5 h1 (hW.grown h2 hW.size fun k hk => (OwnS.lt hE k hk).1) fun k hk hne => h2.block k hk fun e => ?_
  have e : some k = some pE := e
  injection e with e
  exact hne e
theorem step_app2 {ops : Array Oper} {o : Oper} {a : Act} {W w8 : World} {K : Act → World → Prop} {Q : Exit → Act → World → Prop} {E : Prop} {p cp : Nat} {v5 : Value} {bk : List RLn} {l : RLn} (hgd : o.guard = none) (s x : Operand)
    (ho : o.op = .call { callee := .builtin .append, args := #[s, x], argTypes := #[53, 53] })
    (hW : Below w8.heap.size w8 W) (h5 : OwnS W w8.heap.size 129 3 v5 bk.length (lCellsR bk)) (hs : a.eval s = v5)
    (hp : W.heap[p]? = some (.cells #[.string l.id, .string l.dom, .string l.msg] 129 (0, 0))) (hx : a.eval x = .slice (some ⟨p, 0, none⟩) 1 cp) (hn : bk.length ≤ 1000)
    (h : ∀ v9 w9, OwnS w9 w8.heap.size 129 3 v9 (bk.length + 1) (lCellsR (bk ++ [l])) → Below w8.heap.size w8 w9 → K (a.put o.dst v9) w9) :
    if Region.wanted o (yielded ops a.tmps) = true then Oper.wp Tryd.prog o a W K Q else E := by
  obtain ⟨i0, hi, hz0, hz1, hz2⟩ := info_partsR info_line
  have hsrc : Src Tryd.prog 3 53 (.slice (some ⟨p, 0, none⟩) 1 cp) 1 (lCellsR [l]) W := Src.ofSlice W Tryd.underlying53 _ 1 cp _ rfl (fun j u hu => World.news_of_block (cs := #[.string l.id, .string l.dom, .string l.msg]) hp j u hu) (lCellsR_one _)
  refine step_append_ownS hgd s x 53 53 ho i0 _ 48 Tryd.underlying53 hi hz0 hz1 hz2 rfl (by omega) hs h5 _ 1 _ hx hsrc (by unfold maxLen; omega) (by omega) hW.size fun v9 w9 h1 h2 h3 => ?_
  rw [← lCellsR_append] at h1
  exact h v9 w9 h1 (hW.grown h2 hW.size fun k hk => (OwnS.lt h5 k hk).1)

/-- One line more in the book. -/
theorem RR.book {w0 w8 w9 : World} {r : Nat} {ks : List RK} {bk : List RLn} {vk vb v9 : Value} {l : RLn} (hS : RR w0 w8 r ks bk) (h1 : w8.heap[r]? = some (.cells #[vk, vb] 55 (0, 0))) (h2 : OwnS w8 w0.heap.size 126 2 vk ks.length (kCellsR ks))
    (hvb : ∀ z : Int, vb ≠ .int .u8 z) (d : Below w8.heap.size w8 w9) (o9 : OwnS w9 w8.heap.size 129 3 v9 (bk.length + 1) (lCellsR (bk ++ [l]))) :
    RR w0 (w9.setCell ⟨r, 1, none⟩ v9) r ks (bk ++ [l]) ∧ Fr (fun i => i = r) w8 (w9.setCell ⟨r, 1, none⟩ v9) := by
  have row9 := (d.block r hS.lt).trans h1
  have low := hS.bel.size
  have hne : ∀ {base size n : Nat} {e : TypeId} {v : Value} {xs : List Value}, OwnS w9 base e size v n xs → e ≠ 55 → OwnS (w9.setCell ⟨r, 1, none⟩ v9) base e size v n xs := fun h hT => OwnS.keepB h fun k hk => Below.heap_setCell _ _ _ _ (fun e => by
    obtain ⟨c1, t1⟩ := OwnS.type h hk
    exact rowT_ne t1 row9 hT e)
  refine ⟨⟨⟨vk, v9, heap_setCell_same _ _ 1 _ _ _ row9, hne (h2.below d) (by decide), by rw [List.length_append]; exact hne (OwnS.mono o9 fun k hk => Nat.le_trans low (OwnS.lt o9 k hk).1) (by decide)⟩, hS.low, fun k hk => ⟨((hS.keys k hk).1.keep (Keeps.of_below d)).setCell (cell_of_row _ _ 1 _ _ _ row9) hvb, (hS.keys k hk).2⟩, ?_⟩, ?_⟩
  · exact (hS.bel.trans (d.mono low)).setCell (p := ⟨r, 1, none⟩) hS.low _
  · exact (Fr.of_below (S := fun i => i = r) d).setCell (p := ⟨r, 1, none⟩) (fun _ => rfl) _

section
variable {w0 w w' : World} {r : Nat} {ks : List RK} {bk : List RLn}
set_option maxHeartbeats 4000000 in
set_option maxRecDepth 100000 in
theorem RSign_good (hS : RR w0 w r ks bk) (id s : ByteArray) (k : RK) (hk : findR id ks = some k) (hkk : k ∈ ks) (hn : ks.length ≤ 1000000) (hbn : bk.length ≤ 1000) (A : Option Addr) (n c : Nat) (m : List UInt8) (hm : RB w A n m) (hnc : n ≤ c) (hc : c ≤ maxLen) (hn2 : n ≤ 65536) (hs : s.size ≤ 1000000) (hw : wordBad s.data.toList = false) (hkl : k.key.length ≤ 1000)
    (hnot : (bk.any fun x => eqLn x ⟨id, s, ⟨m.toArray⟩⟩) = false) :
    Calls Tryd.prog 25 #[.pointer (some ⟨r, 0, none⟩), .string id, .string s, .slice A n c] w fun e w' =>
      ∃ v, e = .returned (.tuple #[v, .int .i64 0]) ∧ OB w' w.heap.size v (hmacF k.key (frameB s.data.toList [m])) ∧ RR w0 w' r ks (bk ++ [⟨id, s, ⟨m.toArray⟩⟩]) ∧ Fr (fun i => i = r) w w' := by
  have H := Lib.hid (asked_any hS id s k hk hn A n c m hm hnc hc hn2 hs)
  rw [if_neg (by rw [hw]; decide)] at H
  have HFI : Hid (∀ W, RR w0 W r ks bk → Calls Tryd.prog 61 #[.pointer (some ⟨r, 0, none⟩), .string id] W fun e w' => e = .returned (.tuple #[.slice k.A k.key.length k.c, .bool true]) ∧ Below W.heap.size W w') := Lib.hid fun W h => by
    have := find_any h id hn
    rw [hk] at this
    exact this
  have HG : Hid (frameBad s.data.toList [m] = false) := Lib.hid (by
    unfold frameBad partsBad
    rw [hw]
    have := hm.1
    simp [tooLong]
    omega)
  have HT : Hid (∀ W, RR w0 W r ks bk → RB W A n m → Calls Tryd.prog 21 #[.slice k.A k.key.length k.c, .string s, .slice (some ⟨W.heap.size, 0, none⟩) 1 1] (W.alloc (.cells #[.slice A n c] 22)) fun e w' => e = .returned (.agg (bcells (hmacF k.key (frameB s.data.toList [m]))).toArray) ∧ Below W.heap.size W w') := Lib.hid fun W h hm => by
    have D := (Below.refl W.heap.size W).alloc (Nat.le_refl _) (.cells #[.slice A n c] 22)
    exact (RefTagged_good k.A k.key.length k.c k.key s _ 1 1 [m] _ ((h.keys k hkk).1.keep (Keeps.of_below D)) (by omega) (RBL.one hm hnc hc) HG.out).mono fun e w' ⟨h1, h2⟩ => ⟨h1, D.trans (h2.mono D.size)⟩
  have HS := Lib.hid hS
  have HM := Lib.hid hm
  have HBN := Lib.hid hbn
  have HIN : Hid (∀ W, RR w0 W r ks bk → Calls Tryd.prog 64 #[.pointer (some ⟨r, 0, none⟩), .agg #[.string id, .string s, .string ⟨m.toArray⟩]] W fun e w' => e = .returned (.bool false) ∧ Below W.heap.size W w') := Lib.hid fun W h => by
    have := in_any h ⟨id, s, ⟨m.toArray⟩⟩ (by omega)
    rw [hnot] at this
    exact this
  clear hS hk hkk hn hbn hm hnc hc hn2 hs hw hkl HG hnot
  have Hm32 : Hid ((hmacF k.key (frameB s.data.toList [m])).length = 32) := Lib.hid (shaB_length _ _ _)
  generalize hmacF k.key (frameB s.data.toList [m]) = mac at *
  obtain ⟨cur, hcur⟩ : ∃ cur, cur = (bcells mac).toArray := ⟨_, rfl⟩
  rw [← hcur] at HT
  have HCur := Lib.hid hcur
  have HC2 : Hid (cur.size = 32) := Lib.hid (by rw [hcur]; simp [bcells, Hm32.out])
  have HB2 : Hid (cur.all (·.oneCell') = true) := Lib.hid (by
    rw [hcur, Array.all_eq_true_iff_forall_mem]
    intro y hy
    exact bcells_one _ y (by simpa using hy))
  clear hcur
  go_enter Tryd.func25, Tryd.ntmps25
  go_wp2_with (first
    | (go_at_call 63; refine H.out.mono ?_; rintro e w1 ⟨rfl, hb1⟩; have HS1 := Lib.hid (HS.out.below hb1); have B1 := Lib.hid hb1; clear hb1)
    | (go_at_call 61; refine (HFI.out w1 HS1.out).mono ?_; rintro e w2 ⟨rfl, hb2⟩; have HS2 := Lib.hid (HS1.out.below hb2); have B2 := Lib.hid (B1.out.trans (hb2.mono B1.out.size)); clear hb2)
    | (go_at_call 21; refine (HT.out w2 HS2.out (HM.out.keep (Keeps.of_below B2.out))).mono ?_; rintro e w3 ⟨rfl, hb3⟩; have HS3 := Lib.hid (HS2.out.below hb3); have B3 := Lib.hid (B2.out.trans (hb3.mono B2.out.size)); clear hb3)
    | (refine wpList_store_row rfl 48 (.tmp 13) (.tmp 33) rfl w3.heap.size cur rfl rfl 48 _ (heap_alloc_new w3 _) (by rw [HC2.out]; exact info_32) (by rw [HC2.out]; rfl) HB2.out ?_; obtain ⟨w6, hw6⟩ : ∃ W, W = (w3.alloc (.cells zer32 48)).setRow w3.heap.size cur := ⟨_, rfl⟩; change wpList _ _ _ _ _ ((w3.alloc (.cells zer32 48)).setRow w3.heap.size cur); rw [← hw6]; have HD := dig_row Hm32.out B3.out B3.out.size; rw [← HCur.out, ← hw6] at HD; have R6 := Lib.hid HD.1; have B6 := Lib.hid HD.2.1; have HS6 := Lib.hid (HS3.out.below HD.2.2); have cm := run_bytes_string (P := Tryd.prog) (w := w6) Tryd.underlying22 Tryd.underlying5 Tryd.underlying9 (c := c) (HM.out.keep (Keeps.of_below HD.2.1)); clear hw6 HD)
    | fail)
  have D7 := Lib.hid ((Below.refl w6.heap.size w6).alloc (Nat.le_refl _) (.cells #[.string id, .string s, .string ⟨m.toArray⟩] 129))
  have LR7 := heap_alloc_new w6 (.cells #[.string id, .string s, .string ⟨m.toArray⟩] 129)
  refine (HIN.out _ (HS6.out.below D7.out)).mono ?_
  rintro e w8 ⟨rfl, hb8⟩
  have D8 := Lib.hid (D7.out.trans (hb8.mono D7.out.size))
  have HS8 := Lib.hid (HS6.out.below D8.out)
  have B8 := Lib.hid (B6.out.trans (D8.out.mono B6.out.size))
  have LR8 := Lib.hid ((hb8.block w6.heap.size (by simp)).trans LR7)
  have R8 := Lib.hid ((D8.out.block w3.heap.size (Array.getElem?_eq_some_iff.1 R6.out).1).trans R6.out)
  clear hb8 LR7 D7 cm
  obtain ⟨vk, vb, h1, h2, h3⟩ := HS8.out.rows
  obtain ⟨Ab, cb, rfl, hcb, hmb⟩ := h3.form
  have H1 := Lib.hid h1
  have H2 := Lib.hid h2
  have H3 := Lib.hid h3
  clear h1 h2 h3
  have BR := Below.refl w8.heap.size w8
  have BE := BR.alloc (Nat.le_refl _) (.cells #[] 129)
  have BL := BR.alloc (Nat.le_refl _) (.cells #[.string id, .string s, .string ⟨m.toArray⟩] 129)
  have BEL := BE.alloc BE.size (.cells #[.string id, .string s, .string ⟨m.toArray⟩] 129)
  have BLE := BL.alloc BL.size (.cells #[] 129)
  have kE := Keeps.of_below BE
  have kL := Keeps.of_below BL
  have kEL := Keeps.of_below BEL
  have kLE := Keeps.of_below BLE
  have r0 : w8.cell? ⟨r, 1, none⟩ = some (.slice Ab bk.length cb) := cell_of_row _ _ 1 _ _ _ H1.out
  have t0 : w8.cell? ⟨w6.heap.size, 0, none⟩ = some (.string id) := cell_of_row _ _ 0 _ _ _ LR8.out
  have t1 : w8.cell? ⟨w6.heap.size, 1, none⟩ = some (.string s) := cell_of_row _ _ 1 _ _ _ LR8.out
  have t2 : w8.cell? ⟨w6.heap.size, 2, none⟩ = some (.string ⟨m.toArray⟩) := cell_of_row _ _ 2 _ _ _ LR8.out
  have rE := kE _ _ r0
  have rL := kL _ _ r0
  have rEL := kEL _ _ r0
  have rLE := kLE _ _ r0
  have tE0 := kE _ _ t0
  have tE1 := kE _ _ t1
  have tE2 := kE _ _ t2
  have PA := Lib.hid (show Below w8.heap.size w8 (w8.alloc (.cells #[] 129)).drew from below_drewN BE 1)
  have PB := Lib.hid (show Below w8.heap.size w8 ((w8.alloc (.cells #[] 129)).alloc (.cells #[.string id, .string s, .string ⟨m.toArray⟩] 129)).drew from below_drewN BEL 1)
  have PC := Lib.hid (show Below w8.heap.size w8 ((w8.alloc (.cells #[.string id, .string s, .string ⟨m.toArray⟩] 129)).alloc (.cells #[] 129)).drew from below_drewN BLE 1)
  have OA := Lib.hid (OwnS.drew (OwnS.empty w8 w8.heap.size (Nat.le_refl _) 129 3))
  have OB2 := Lib.hid (OwnS.drew ((OwnS.empty w8 w8.heap.size (Nat.le_refl _) 129 3).alloc (.cells #[.string id, .string s, .string ⟨m.toArray⟩] 129)))
  have OC := Lib.hid (OwnS.drew (OwnS.empty (w8.alloc (.cells #[.string id, .string s, .string ⟨m.toArray⟩] 129)) w8.heap.size BL.size 129 3))
  have sz : (w8.alloc (.cells #[] 129)).heap.size = w8.heap.size + 1 := by simp
  have sz2 : (w8.alloc (.cells #[.string id, .string s, .string ⟨m.toArray⟩] 129)).heap.size = w8.heap.size + 1 := by simp
  rw [sz2] at OC
  have LB : Hid (((w8.alloc (.cells #[] 129)).alloc (.cells #[.string id, .string s, .string ⟨m.toArray⟩] 129)).drew.heap[w8.heap.size + 1]? = some (.cells #[.string id, .string s, .string ⟨m.toArray⟩] 129)) := Lib.hid (by have := heap_alloc_new (w8.alloc (.cells #[] 129)) (.cells #[.string id, .string s, .string ⟨m.toArray⟩] 129); rwa [sz] at this)
  have LC : Hid (((w8.alloc (.cells #[.string id, .string s, .string ⟨m.toArray⟩] 129)).alloc (.cells #[] 129)).drew.heap[w8.heap.size]? = some (.cells #[.string id, .string s, .string ⟨m.toArray⟩] 129)) := Lib.hid ((Below.heap_alloc _ _ _ (by simp)).trans (heap_alloc_new w8 _))
  have RO : Hid (∀ w9, Below w8.heap.size w8 w9 → w9.cell? ⟨r, 1, none⟩ = some (.slice Ab bk.length cb) ∧ w9.frozen? ⟨r, 1, none⟩ = false ∧ w9.cell? ⟨w6.heap.size, 0, none⟩ = some (.string id) ∧ w9.cell? ⟨w6.heap.size, 1, none⟩ = some (.string s) ∧ w9.cell? ⟨w6.heap.size, 2, none⟩ = some (.string ⟨m.toArray⟩)) := Lib.hid fun w9 h => by
    have k := Keeps.of_below h
    exact ⟨k _ _ r0, frozen_of_row _ _ _ _ _ ((h.block r HS8.out.lt).trans H1.out), k _ _ t0, k _ _ t1, k _ _ t2⟩
  clear BR BE BL BEL BLE kE kL kEL kLE sz sz2
  go_wp2_with fail
  go_region_law (first
    | (refine step_app1 (w8 := w8) rfl (.tmp 44) (.tmp 48) rfl PA.out OA.out rfl H3.out rfl HBN.out ?_; intro v5 w5 o5 d5 u5; obtain ⟨z0, -, z2, z3, z4⟩ := RO.out w5 d5; have O5 := Lib.hid o5; have D5 := Lib.hid d5; have LL : Hid ((w5.alloc (.cells #[.string id, .string s, .string ⟨m.toArray⟩] 129)).heap[w5.heap.size]? = some (.cells #[.string id, .string s, .string ⟨m.toArray⟩] 129)) := Lib.hid (heap_alloc_new w5 _); have P5 := Lib.hid (d5.alloc d5.size (.cells #[.string id, .string s, .string ⟨m.toArray⟩] 129)); have O5a := Lib.hid (o5.alloc (.cells #[.string id, .string s, .string ⟨m.toArray⟩] 129)); clear o5 d5 u5)
    | (refine step_app1 (w8 := w8) rfl (.tmp 44) (.tmp 48) rfl PB.out OB2.out rfl H3.out rfl HBN.out ?_; intro v5 w5 o5 d5 u5; have O5 := Lib.hid o5; have D5 := Lib.hid d5; have LL := Lib.hid ((u5 (w8.heap.size + 1) (by simp) (by omega)).trans LB.out); clear o5 d5 u5)
    | (refine step_app1 (w8 := w8) rfl (.tmp 44) (.tmp 48) rfl PC.out OC.out rfl H3.out rfl HBN.out ?_; intro v5 w5 o5 d5 u5; have O5 := Lib.hid o5; have D5 := Lib.hid d5; have LL := Lib.hid ((u5 w8.heap.size (by simp; omega) (by omega)).trans LC.out); clear o5 d5 u5)
    | (refine step_app2 (w8 := w8) (l := ⟨id, s, ⟨m.toArray⟩⟩) rfl (.tmp 49) (.tmp 51) rfl P5.out O5a.out rfl LL.out rfl HBN.out ?_; intro v9 w9 o9 d9; obtain ⟨y0, y1, -, -, -⟩ := RO.out w9 d9; obtain ⟨A9, c9, rfl, -, -⟩ := o9.form; have O9 := Lib.hid o9; have D9 := Lib.hid d9; clear o9 d9)
    | (refine step_app2 (w8 := w8) (l := ⟨id, s, ⟨m.toArray⟩⟩) rfl (.tmp 49) (.tmp 51) rfl D5.out O5.out rfl LL.out rfl HBN.out ?_; intro v9 w9 o9 d9; obtain ⟨y0, y1, -, -, -⟩ := RO.out w9 d9; obtain ⟨A9, c9, rfl, -, -⟩ := o9.form; have O9 := Lib.hid o9; have D9 := Lib.hid d9; clear o9 d9))
  all_goals
    have HBK := RR.book HS8.out H1.out H2.out (fun z e => by cases e) D9.out O9.out
    have HR9 := Lib.hid HBK.1
    have RA : Hid (RB (w9.setCell ⟨r, 1, none⟩ (.slice A9 (bk.length + 1) c9)) (some ⟨w3.heap.size, 0, none⟩) 32 mac) := Lib.hid ((((RB.row (l := mac) (by rw [R8.out, HCur.out]) Hm32.out)).keep (Keeps.of_below D9.out)).setCell y0 (fun z e => by cases e))
    have F9 := Lib.hid ((Fr.of_below (S := fun i => i = r) B8.out).trans HBK.2 (fun i _ h => h))
    obtain ⟨wA, hwA⟩ : ∃ W, W = w9.setCell ⟨r, 1, none⟩ (.slice A9 (bk.length + 1) c9) := ⟨_, rfl⟩
    rw [← hwA] at HR9 RA F9 ⊢
    clear hwA HBK y0 y1
    have L10 := Lib.hid (OB.lit wA w.heap.size F9.out.size [] 0 rfl (by decide))
    have D10 := Lib.hid ((Below.refl wA.heap.size wA).alloc (Nat.le_refl _) (.cells (bcells []).toArray 5))
    go_wp2_with (at_builtin; refine wpList_append_b rfl (.tmp 55) (.tmp 56) 22 rfl L10.out rfl (RB.src Tryd.underlying22 (RA.out.keep (Keeps.of_below D10.out))) rfl (by have := Hm32.out; simp; omega) (Nat.le_trans F9.out.size D10.out.size) ?_; intro v11 w11 o11 g11 t11; rw [List.nil_append] at o11; have O11 := Lib.hid o11; have D11 := Lib.hid (D10.out.grown g11 D10.out.size fun k hk => by have h := (OwnS.lt (OB.lit wA wA.heap.size (Nat.le_refl _) [] 0 rfl (by decide)) k hk).1; exact h); clear o11 g11 t11)
    go_ret2
    exact ⟨_, rfl, O11.out, HR9.out.below D11.out, F9.out.trans (Fr.of_below (S := fun i => i = r) D11.out) (fun i _ h => h)⟩
end
end Go.Proofs.YtlfeofakggkebaaDoor
