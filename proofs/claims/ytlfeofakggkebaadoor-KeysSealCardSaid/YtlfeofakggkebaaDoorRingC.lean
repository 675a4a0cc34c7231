/- keys.Ring: Sign, Verify. -/
import Derived.Test.YtlfeofakggkebaaDoorRingB
namespace Go.Proofs.YtlfeofakggkebaaDoor
open Go.RowKit Go.Instr

/-- Whether an entry is in the book. -/
def inE (x y : ByteArray) (es : List (ByteArray × ByteArray)) : Bool := (lookE x y es 0).isSome

theorem Same_any (A B : Option Addr) (n m c d : Nat) (w : World) (l r : List UInt8) (hl : RB w A n l) (hr : RB w B m r) (hn : n ≤ maxLen) :
    Calls Tryd.prog 58 #[.slice A n c, .slice B m d] w fun e w' => e = .returned (.bool (decide (l = r))) ∧ ∃ k, w' = w.drewN k := by
  by_cases h : n = m
  · subst h
    exact Same_eq A B n c d w l r hl hr hn
  · have hne : ¬ l = r := fun e => h (by rw [← hl.1, ← hr.1, e])
    rw [decide_eq_false hne]
    exact (Same_ne A B n m c d w h).mono fun _ _ ⟨h1, h2⟩ => ⟨h1, 0, h2.symm⟩

section
variable {w0 w : World} {g : Nat} {ks : List (ByteArray × List UInt8)} {es : List (ByteArray × ByteArray)}

set_option maxHeartbeats 4000000 in
set_option maxRecDepth 100000 in
theorem Sign_good (hS : RG w0 w g ks es) (id : ByteArray) (key : List UInt8) (hk : findK id ks = some key) (s : ByteArray)
    (A : Option Addr) (n c : Nat) (msg : List UInt8) (hm : RB w A n msg) (hnc : n ≤ c) (hc : c ≤ maxLen) (hf : frameBad s.data.toList [msg] = false) (ht : ShaTabs w0) :
    Calls Tryd.prog 18 #[.pointer (some ⟨g, 0, none⟩), .string id, .string s, .slice A n c] w fun e w' => ∃ q, e = .returned (.tuple #[.slice (some ⟨q, 0, none⟩) 32 32, .nilIface]) ∧
      RB w' (some ⟨q, 0, none⟩) 32 (hmacF key (frameB s.data.toList [msg])) ∧ RG w0 w' g ks (putE id ⟨(frameB s.data.toList [msg]).toArray⟩ es) ∧ KB w w' := by
  have H1 := Lib.hid (Reck_good hS id key hk s A n c msg hm hnc hc hf ht)
  have HS := Lib.hid hS
  clear hS hk hm hnc hc hf ht
  generalize frameB s.data.toList [msg] = fr at *
  generalize hmacF key fr = dg at *
  go_enter Tryd.func18, Tryd.ntmps18
  go_wp2_with (go_at_call 57; refine H1.out.mono ?_; rintro e w1 ⟨q, rfl, hr1, hq1, hb1⟩; unfold ev; have R1 := Lib.hid hr1; have Q1 := Lib.hid hq1; have HS1 := Lib.hid (HS.out.below hb1); have K1 := Lib.hid (KB.of_below hb1); clear hr1 hq1 hb1)
  have D2 := Lib.hid ((Below.refl w1.heap.size w1).alloc (Nat.le_refl _) (.cells #[.string id, .string ⟨fr.toArray⟩] 119))
  obtain ⟨w2, hw2⟩ : ∃ W, W = w1.alloc (.cells #[.string id, .string ⟨fr.toArray⟩] 119) := ⟨_, rfl⟩
  have E2 : Hid (w2.heap[w1.heap.size]? = some (.cells #[.string id, .string ⟨fr.toArray⟩] 119 (0, 0))) := Lib.hid (by rw [hw2]; exact heap_alloc_new w1 _)
  rw [← hw2] at D2 ⊢
  clear hw2
  obtain ⟨⟨a, b, hr, h1, h2, h3⟩, h4, h5⟩ := HS1.out.below D2.out
  have HR := Lib.hid hr
  have H5 := Lib.hid h5
  have HG := Lib.hid (And.intro h1 (And.intro h2 h3))
  have H4 := Lib.hid h4
  have g0 : w2.cell? ⟨g, 1, none⟩ = some (.map (some b)) := cell_of_row _ _ 1 _ _ _ hr.row
  have c0 : w2.cell? ⟨w1.heap.size, 0, none⟩ = some (.string id) := cell_of_row _ _ 0 _ _ _ E2.out
  have c1 : w2.cell? ⟨w1.heap.size, 1, none⟩ = some (.string ⟨fr.toArray⟩) := cell_of_row _ _ 1 _ _ _ E2.out
  obtain ⟨w3, hput, hem, hfr⟩ := run_put_ent (w := w2.drew) hr.ents id ⟨fr.toArray⟩
  unfold ev at hput
  have HEM := Lib.hid hem
  have HFR := Lib.hid hfr
  clear hr h1 h2 h3 h4 h5 hem hfr
  go_still_tail 5, (by kernel_rfl)
  change wpList _ _ _ _ _ w2.drew
  go_wp2
  go_ret2
  have hab := HR.out.ab
  have hga := HR.out.keys.ne HR.out.row
  have hgb := HR.out.ents.ne HR.out.row
  obtain ⟨es0, ck, hmb, _⟩ := HR.out.ents
  have hk3 : KB w2 w3 := (KB.drew w2).trans (KB.of_map HFR.out hmb)
  refine ⟨q, rfl, (R1.out.keep (Keeps.of_below D2.out)).keep hk3.keeps, ⟨⟨a, b, ⟨(HFR.out.block g HR.out.lt hgb).trans HR.out.row, HR.out.keys.keepB (HFR.out.block a HR.out.keys.lt hab), HEM.out, hab⟩, HG.out.1, HG.out.2.1, HG.out.2.2⟩, H4.out, (show Below w0.heap.size w0 w2.drew from below_drewN H5.out 1).trans (HFR.out.below (w := w2.drew) H5.out.size fun i _ e => by rw [e]; exact HG.out.2.2)⟩, K1.out.trans ((KB.of_below D2.out).trans hk3)⟩

set_option maxHeartbeats 4000000 in
set_option maxRecDepth 100000 in
theorem Sign_bad (hS : RG w0 w g ks es) (id : ByteArray) (key : List UInt8) (hk : findK id ks = some key) (s : ByteArray)
    (A : Option Addr) (n c : Nat) {ea : Nat → Addr} (hE : Errs w0 ea) (hs : s.size ≤ maxLen) (hf : wordBad s.data.toList = true) :
    Calls Tryd.prog 18 #[.pointer (some ⟨g, 0, none⟩), .string id, .string s, .slice A n c] w fun e w' => e = .returned (.tuple #[.slice none 0 0, .iface 213 (.pointer (some (ea 8)))]) ∧ Below w.heap.size w w' := by
  have H1 := Lib.hid (Reck_bad hS id key hk s A n c hE hs hf)
  clear hS hk hE hs hf
  go_enter Tryd.func18, Tryd.ntmps18
  go_wp2_with (go_at_call 57; refine H1.out.mono ?_; rintro e w1 ⟨rfl, hb1⟩; unfold ev; have B1 := Lib.hid hb1; clear hb1)
  go_ret2
  exact ⟨rfl, B1.out.alloc B1.out.size _⟩

set_option maxHeartbeats 4000000 in
set_option maxRecDepth 100000 in
theorem Verify_bad (hS : RG w0 w g ks es) (id : ByteArray) (key : List UInt8) (hk : findK id ks = some key) (s : ByteArray)
    (A : Option Addr) (n c : Nat) (v : Value) {ea : Nat → Addr} (hE : Errs w0 ea) (hs : s.size ≤ maxLen) (hf : wordBad s.data.toList = true) :
    Calls Tryd.prog 20 #[.pointer (some ⟨g, 0, none⟩), .string id, .string s, .slice A n c, v] w fun e w' => e = .returned (.iface 213 (.pointer (some (ea 8)))) ∧ Below w.heap.size w w' := by
  have H1 := Lib.hid (Reck_bad hS id key hk s A n c hE hs hf)
  clear hS hk hE hs hf
  go_enter Tryd.func20, Tryd.ntmps20
  go_wp2_with (go_at_call 57; refine H1.out.mono ?_; rintro e w1 ⟨rfl, hb1⟩; unfold ev; have B1 := Lib.hid hb1; clear hb1)
  go_ret
  exact ⟨rfl, B1.out.alloc B1.out.size _⟩

set_option maxHeartbeats 4000000 in
set_option maxRecDepth 100000 in
theorem Verify_good (hS : RG w0 w g ks es) (id : ByteArray) (key : List UInt8) (hk : findK id ks = some key) (s : ByteArray)
    (A : Option Addr) (n c : Nat) (msg : List UInt8) (hm : RB w A n msg) (hnc : n ≤ c) (hc : c ≤ maxLen) (hf : frameBad s.data.toList [msg] = false) (ht : ShaTabs w0)
    (A2 : Option Addr) (n2 c2 : Nat) (sg : List UInt8) (hsg : RB w A2 n2 sg) {ea : Nat → Addr} (hE : Errs w0 ea) :
    Calls Tryd.prog 20 #[.pointer (some ⟨g, 0, none⟩), .string id, .string s, .slice A n c, .slice A2 n2 c2] w fun e w' =>
      e = .returned (errOf ea (if hmacF key (frameB s.data.toList [msg]) = sg ∧ inE id ⟨(frameB s.data.toList [msg]).toArray⟩ es = true then 0 else 12)) ∧ Below w.heap.size w w' := by
  have H1 := Lib.hid (Reck_good hS id key hk s A n c msg hm hnc hc hf ht)
  have HS := Lib.hid hS
  have HE := Lib.hid hE
  have HG := Lib.hid hsg
  clear hS hk hm hnc hc hf ht hsg hE
  generalize frameB s.data.toList [msg] = fr at *
  generalize hmacF key fr = dg at *
  have part : ∀ (same got : Bool), decide (dg = sg) = same → (same = true → inE id ⟨fr.toArray⟩ es = got) → Calls Tryd.prog 20 #[.pointer (some ⟨g, 0, none⟩), .string id, .string s, .slice A n c, .slice A2 n2 c2] w fun e w' =>
      e = .returned (errOf ea (if same && got then 0 else 12)) ∧ Below w.heap.size w w' := by
    intro same got hsame hgot
    have HSm := Lib.hid hsame
    have HGt := Lib.hid hgot
    clear hsame hgot
    go_enter Tryd.func20, Tryd.ntmps20
    go_wp2_with (go_at_call 57; refine H1.out.mono ?_; rintro e w1 ⟨q, rfl, hr1, hq1, hb1⟩; unfold ev; have R1 := Lib.hid hr1; have HS1 := Lib.hid (HS.out.below hb1); have B1 := Lib.hid hb1; clear hr1 hq1 hb1)
    have D2 := Lib.hid ((Below.refl w1.heap.size w1).alloc (Nat.le_refl _) (.cells #[.string id, .string ⟨fr.toArray⟩] 119))
    obtain ⟨w2, hw2⟩ : ∃ W, W = w1.alloc (.cells #[.string id, .string ⟨fr.toArray⟩] 119) := ⟨_, rfl⟩
    have E2 : Hid (w2.heap[w1.heap.size]? = some (.cells #[.string id, .string ⟨fr.toArray⟩] 119 (0, 0))) := Lib.hid (by rw [hw2]; exact heap_alloc_new w1 _)
    rw [← hw2] at D2 ⊢
    clear hw2
    obtain ⟨⟨a, b, hr, h1, h2, h3⟩, h4, h5⟩ := HS1.out.below D2.out
    have B2 := Lib.hid (B1.out.trans (D2.out.mono B1.out.size))
    have g0 : w2.cell? ⟨g, 1, none⟩ = some (.map (some b)) := cell_of_row _ _ 1 _ _ _ hr.row
    have c0 : w2.cell? ⟨w1.heap.size, 0, none⟩ = some (.string id) := cell_of_row _ _ 0 _ _ _ E2.out
    have c1 : w2.cell? ⟨w1.heap.size, 1, none⟩ = some (.string ⟨fr.toArray⟩) := cell_of_row _ _ 1 _ _ _ E2.out
    have e12 : w2.cell? ⟨11, 0, none⟩ = some (.iface 213 (.pointer (some (ea 12)))) := ((HE.out.below h5).cell 12 (by omega) (by omega))
    have hlk : ∀ k, (Instr.lookup 115 (.map (some b)) (.agg #[.string id, .string ⟨fr.toArray⟩]) false).run Tryd.prog (w2.drewN k) = .ok (.bool (inE id ⟨fr.toArray⟩ es)) (w2.drewN k) := fun k => run_look_ent (w := w2.drewN k) hr.ents id ⟨fr.toArray⟩
    have HSA : Hid (∀ k, Calls Tryd.prog 58 #[.slice (some ⟨q, 0, none⟩) 32 32, .slice A2 n2 c2] (w2.drewN k) fun e w' => e = .returned (.bool same) ∧ ∃ j, w' = (w2.drewN k).drewN j) := Lib.hid fun k => by
      rw [← HSm.out]
      exact Same_any _ _ 32 n2 32 c2 _ dg sg ((R1.out.keep (Keeps.of_below D2.out)).keep (Keeps.drewN w2 k)) ((HG.out.keep (Keeps.of_below B2.out)).keep (Keeps.drewN w2 k)) (by unfold maxLen; omega)
    clear hr h1 h2 h3 h4 h5
    cases same with
    | true =>
      have HGt := Lib.hid (HGt.out rfl)
      rw [HGt.out] at hlk
      cases got with
      | true =>
        go_quiet ((go_at_call 58; exact Calls.quiet_of (HSA.out _)))
        go_wp2
        go_ret
        exact ⟨rfl, below_drewN B2.out _⟩
      | false =>
        go_quiet ((go_at_call 58; exact Calls.quiet_of (HSA.out _)))
        go_wp2
        go_ret
        exact ⟨rfl, below_drewN B2.out _⟩
    | false =>
      go_quiet ((go_at_call 58; exact Calls.quiet_of (HSA.out _)))
      go_wp2
      go_ret
      exact ⟨rfl, below_drewN B2.out _⟩
  have h := part _ _ rfl (fun _ => rfl)
  have e : (if (decide (dg = sg) && inE id ⟨fr.toArray⟩ es) = true then 0 else 12) = (if dg = sg ∧ inE id ⟨fr.toArray⟩ es = true then 0 else 12) := by simp
  rw [e] at h
  exact h
end
end Go.Proofs.YtlfeofakggkebaaDoor
