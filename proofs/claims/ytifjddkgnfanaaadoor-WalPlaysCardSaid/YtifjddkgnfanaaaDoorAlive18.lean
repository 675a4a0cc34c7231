/- alive of layer 18. -/
import Derived.Test.YtifjddkgnfanaaaDoorWalT
import Derived.Test.YtifjddkgnfanaaaDoorWalK
import Derived.Lib.SlBytesConst
namespace Go.Proofs.YtifjddkgnfanaaaDoor
open Go.RowKit

theorem off_new {S : Nat → Prop} {w0 w : World} {g gl : Nat} {m : DM} {L : LM} (h : DW w0 w S g m gl L) : Off S (some ⟨w.heap.size, 0, none⟩) := fun p e hs => by
  injection e with e
  subst e
  exact absurd (h.hi _ hs) (Nat.lt_irrefl _)

theorem recs18 {S : Nat → Prop} {w0 w : World} {g gl : Nat} {m : DM} {L : LM} (h : DW w0 w S g m gl L) (hL : L.Ok) (e : L.recs = [[97], [98]]) : ∀ W, Below w.heap.size w W →
    Calls Tryd.prog 19 #[.pointer (some ⟨gl, 0, none⟩)] W fun e w' => ∃ b o c A k, e = .returned (.slice (some ⟨b, o, none⟩) 2 c) ∧ 2 ≤ c ∧ w'.cell? ⟨b, o + 1, none⟩ = some (.slice A 1 k) ∧ (convert 28 9 (.slice A 1 k)).run Tryd.prog w' = .ok (.string ⟨#[98]⟩) w' ∧ Below w.heap.size w w' := fun W hW => by
  refine (Records_any (h.below hW) hL).mono ?_
  rintro e' w' ⟨A, c, rfl, h1, h2, h3, _, hb⟩
  rw [e] at h1 h3 ⊢
  obtain ⟨b, o, rfl, hc⟩ := h3.2 (by decide)
  obtain ⟨v, c1, A1, k, rfl, _, _, hr⟩ := hc 1 (by decide)
  exact ⟨b, o, c, A1, k, rfl, h1, c1, run_bytes_string (P := Tryd.prog) Tryd.underlying28 Tryd.underlying5 Tryd.underlying9 (c := k) hr, hW.trans (hb.mono hW.size)⟩

set_option maxHeartbeats 2000000 in
set_option maxRecDepth 100000 in
theorem alive18_any (w : World) {ea : Nat → Addr} (hE : EW w ea) : Calls Tryd.prog 4 #[] w fun e w' => e = .returned (.bool true) ∧ Below w.heap.size w w' := by
  have HE := Lib.hid hE
  clear hE
  have RB1 : Hid (∀ W : World, RB (W.alloc (.cells #[.int .u8 97] 5 (1, 2))) (some ⟨W.heap.size, 0, none⟩) 1 [97]) := Lib.hid fun W => rb_lit (l := [97]) (heap_alloc_new W _)
  have RB2 : Hid (∀ W : World, RB (W.alloc (.cells #[.int .u8 98] 5 (1, 2))) (some ⟨W.heap.size, 0, none⟩) 1 [98]) := Lib.hid fun W => rb_lit (l := [98]) (heap_alloc_new W _)
  have kc := fun (w : World) (C : Array Value) (n c : Nat) => Lib.run_convert_bytes_const (P := Tryd.prog) w 28 5 C n c Tryd.underlying28 Tryd.underlying5
  have HN := Lib.hid (New_S (w0 := w) 200 (Below.refl _ w) (by decide) (by decide))
  obtain ⟨L1, L2, m1, m2, m3, a1, a2, a3, k1, n1, o1, b1, b2, b3, k2, n2, o2, c1, k3, n3, g3, c3⟩ := al18
  have HL0 := Lib.hid (Live.found (L' := ⟨0, 1, [], [], false⟩) (live0 200 (by decide) (by decide)) on0)
  have HOK0 := Lib.hid (live0 200 (by decide) (by decide)).ok
  have HW0 : Hid ((⟨200, fun _ => [], [], false, 0, false⟩ : DM).waits.length ≤ 1000) := Lib.hid (Nat.zero_le _)
  have HG0 : Hid ((⟨200, fun _ => [], [], false, 0, false⟩ : DM).gone = false) := Lib.hid rfl
  have HF0 : Hid (∀ L, Reads (fun i => (⟨200, fun _ => [], [], false, 0, false⟩ : DM).b (3 + i)) L → L.dead = false → L = ⟨0, 1, [], [], false⟩ ∧ opE ⟨200, fun _ => [], [], false, 0, false⟩ (endOf L.recs) = 0 ∧ opM ⟨200, fun _ => [], [], false, 0, false⟩ (endOf L.recs) = ⟨200, fun _ => [], [], false, 0, false⟩) := Lib.hid fun L hR hd => by
    obtain ⟨e1, e2, e3, e4, _, p1, p2⟩ := Live.found (live0 200 (by decide) (by decide)) on0 hR
    exact ⟨LM.ext' e1 e2 e3 e4 hd, p1, p2⟩
  have HLo : Hid (LM.Ok ⟨0, 1, [], [], false⟩) := Lib.hid ((live0 200 (by decide) (by decide)).okL on0.reads)
  have HA1 := Lib.hid a1; have HA2 := Lib.hid a2; have HA3 := Lib.hid a3
  have HB1 := Lib.hid b1; have HB2 := Lib.hid b2; have HB3 := Lib.hid b3
  have HC1 := Lib.hid c1
  have HK1 := Lib.hid k1; have HK2 := Lib.hid k2; have HK3 := Lib.hid k3
  have HN1 := Lib.hid n1; have HN2 := Lib.hid n2; have HN3 := Lib.hid n3
  have HO1 := Lib.hid o1; have HO2 := Lib.hid o2
  have HG3 := Lib.hid g3
  have HC3 := Lib.hid c3
  have hz := Lib.hid (dErr_zero ea)
  clear a1 a2 a3 k1 n1 o1 b1 b2 b3 k2 n2 o2 c1 k3 n3 g3 c3
  obtain ⟨m0, hm0⟩ : ∃ m0 : DM, m0 = ⟨200, fun _ => [], [], false, 0, false⟩ := ⟨_, rfl⟩
  obtain ⟨L0, hL0⟩ : ∃ L0 : LM, L0 = ⟨0, 1, [], [], false⟩ := ⟨_, rfl⟩
  rw [← hm0] at HN HOK0 HW0 HG0 HF0 HA1 HA2 HA3
  rw [← hL0] at HLo HF0 HA1 HA2 HA3
  clear hm0 hL0 HL0
  go_enter Tryd.func4, Tryd.ntmps4
  go_wp2_with (first
    | (go_at_call 6; (with_reducible refine HN.out.mono ?_); rintro e w1 ⟨rfl, hs1⟩; have S1 := Lib.hid hs1.dd; clear hs1)
    | (go_at_call 16; go_loud ((with_reducible refine (Open_any S1.out HE.out HOK0.out HW0.out HG0.out).mono ?_); rintro e w2 ⟨L, hR, hd, hf, ho⟩; obtain ⟨eL, p1, p2⟩ := HF0.out L hR hd; rw [p1, p2, eL] at ho; rcases ho with ⟨_, gl, rfl, hd2⟩ | ⟨h0, _⟩; rotate_left; exact absurd rfl h0; have D2 := Lib.hid hd2; clear hd2 hR hd hf eL p1 p2))
    | (go_at_call 17; go_loud ((with_reducible refine (Append_any (some ⟨w2.heap.size, 0, none⟩) 1 1 [97] (D2.out.below ((Below.refl _ w2).alloc (Nat.le_refl _) _)) HE.out HOK0.out HLo.out (RB1.out w2) (fun _ => off_new D2.out) (by decide) (by decide) HW0.out).mono ?_); rw [HA1.out, HA2.out, HA3.out, hz.out]; rintro e w3 ⟨rfl, hd3, hf3⟩; have D3 := Lib.hid hd3; clear hd3 hf3))
    | (go_at_call 17; go_loud ((with_reducible refine (Append_any (some ⟨w3.heap.size, 0, none⟩) 1 1 [98] (D3.out.below ((Below.refl _ w3).alloc (Nat.le_refl _) _)) HE.out HK1.out HO1.out (RB2.out w3) (fun _ => off_new D3.out) (by decide) (by decide) HN1.out).mono ?_); rw [HB1.out, HB2.out, HB3.out, hz.out]; rintro e w4 ⟨rfl, hd4, hf4⟩; have D4 := Lib.hid hd4; clear hd4 hf4))
    | (go_at_call 18; go_loud ((with_reducible refine (Crash_W D4.out HK2.out HN2.out 0 0 0 (by decide) (by decide)).mono ?_); rw [HC1.out]; rintro e w5 ⟨rfl, hd5, hf5⟩; have D5 := Lib.hid hd5.dd; clear hd5 hf5))
    | (go_at_call 16; go_loud ((with_reducible refine (Open_any D5.out HE.out HK3.out HN3.out HG3.out).mono ?_); rintro e w6 ⟨L3, hR, hd, hf, ho⟩; obtain ⟨e3, eo, p1, p2⟩ := HC3.out L3 hR; rw [p1, p2] at ho; rcases ho with ⟨_, gl6, rfl, hd6⟩ | ⟨h0, _⟩; rotate_left; exact absurd rfl h0; have R6 := Lib.hid (recs18 hd6 eo e3); have D6 := Lib.hid hd6.bel; clear hd6 hR hd hf p1 p2 e3 eo))
    | (go_at_call 19; go_loud ((with_reducible refine (R6.out w6 (Below.refl _ _)).mono ?_); rintro e w7 ⟨b7, o7, c7, A7, k7, rfl, -, hc7, hv7, hb7⟩; have B7 := Lib.hid hb7; clear hb7 hc7 hv7))
    | (go_at_call 19; go_loud ((with_reducible refine (R6.out w7 B7.out).mono ?_); rintro e w8 ⟨b8, o8, c8, A8, k8, rfl, hcc, hc8, hv8, hb8⟩; have B8 := Lib.hid hb8; clear hb8))
    | fail)
  go_ret
  exact ⟨rfl, D6.out.trans (B8.out.mono D6.out.size)⟩
end Go.Proofs.YtifjddkgnfanaaaDoor
