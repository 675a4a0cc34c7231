/- Layer 20: alive. -/
import Derived.Test.YtfmagnpmjlppiaaGreatDoorOpn
import Derived.Test.YtfmagnpmjlppiaaGreatDoorCre
import Derived.Test.YtfmagnpmjlppiaaGreatDoorErrs
import Derived.Test.YtfmagnpmjlppiaaGreatDoorStC
import Derived.Test.YtfmagnpmjlppiaaGreatDoorWalT
import Derived.Deep.CutBlock
namespace Go.Proofs.YtfmagnpmjlppiaaGreatDoor
open Go.RowKit SO
theorem evO_small {e : Bool × ObM} (h : e.2.Ok) (hv : e.2.ver ≤ 1099511627776) : (evO e).length ≤ 55 + (e.2.space.size + e.2.name.size + e.2.data.length) := by
 obtain ⟨p1, p2, p3, p4, p5⟩ := h.parts
 have hd := h.data
 have hw : (if e.1 then 2 else 1 : Nat) < 4611686018427387904 := by split <;> omega
 have i1 := intB_len hw
 have i2 := intB_len (n := e.2.kind) (by omega)
 have i3 := intB_len (n := e.2.ver) (by omega)
 have s1 := size_data e.2.space
 have s2 := size_data e.2.name
 have hdl : (if e.1 then ([] : List UInt8) else e.2.data).length ≤ e.2.data.length := by split <;> simp
 have a1 := elemB_lenle 10 i1 (by omega)
 have a2 := elemB_lenle 10 i2 (by omega)
 have a3 := elemB_lenle 4 (Nat.le_refl e.2.space.data.toList.length) (by omega)
 have a4 := elemB_lenle 4 (Nat.le_refl e.2.name.data.toList.length) (by omega)
 have a5 := elemB_lenle 2 i3 (by omega)
 have a6 := elemB_lenle 4 hdl (by omega)
 refine Kv (elemB_lenle 48 (m := 51 + (e.2.space.size + e.2.name.size + e.2.data.length)) ?_ (by omega)) (by omega)
 simp only [evK, List.flatten_cons, List.flatten_nil, List.length_append, List.length_nil]
 omega
section
variable {m m' : DM} {A : Nat → List UInt8} {L L' : LM} {M M' : StM} {e : Bool × ObM} {n E : Nat}
/-- A change while the power stays and there is room. -/
theorem live_chg (h : m.Live A) (hL : L.On A) (hd : L.dead = false) (hT : Tells L M) (hc : M.Can e) (hf : 20 + ((evO e).length : Int) ≤ m.free) (hC : Chg M L m e n E M' L' m') :
  n = e.2.ver ∧ E = 0 ∧ M' = M.app e ∧ L' = L.with (evO e) ∧ m' = L.appM m (evO e) ∧ (∃ B, m'.Live B ∧ L'.On B) ∧ m'.free = m.free - (20 + ((evO e).length : Int)) ∧ m'.waits = [] ∧ L'.dead = false ∧ Tells L' M' := by
 have hl : (evO e).length ≤ 16384 := Kv (evO_len hc.ok hc.most) (by omega)
 have hroom : L.room m (evO e) = 0 := by
  unfold LM.room
  rw [if_neg (by rw [hd]; decide), if_neg (by omega), if_neg (by omega)]
 obtain ⟨h0, B, b1, b2, b3, b4⟩ := append_live h hL (evO e) hroom
 have hfr := append_free h hL (evO e) hroom
 have hv := hc.ver
 have hmost := hc.most
 rcases hC with ⟨hr, _⟩ | ⟨_, ⟨_, e1, e2, e3, e4, e5⟩ | ⟨hne, _⟩ | ⟨h26, _⟩⟩
 ·omega
 ·refine ⟨e1, e2, e3, by rw [e4, b2], e5, ⟨B, by rw [e5]; exact b1.live b4, by rw [e4, b2]; exact b3⟩, by rw [e5]; exact hfr, by rw [e5]; exact b1.waits, by rw [e4, b2]; exact hd, by rw [e4, b2, e3]; exact hT.with hc⟩
 ·exact absurd h0 hne
 ·rw [h0] at h26; cases h26
end
def v20 : OV := ⟨1, ⟨#[]⟩, ⟨#[97]⟩, 0, none, 0, 0⟩
def v21 : OV := ⟨1, ⟨#[]⟩, ⟨#[97]⟩, 1, none, 0, 0⟩
def o20 : ObM := newO st0 v20 []
def s20 : StM := st0.app (false, o20)
def o21 : ObM := newO s20 v21 []
def s21 : StM := s20.app (false, o21)
theorem nam20 : namB 1 ⟨#[]⟩ ⟨#[97]⟩ = true := by decide +kernel
theorem ask20 (ver : Int) : askE ⟨1, ⟨#[]⟩, ⟨#[97]⟩, ver, none, 0, 0⟩ = 0 := by
 unfold askE
 rw [if_pos nam20]
 exact if_neg (by show ¬ 8192 < 0; omega)
theorem a20 : askE v20 = 0 := ask20 0
theorem a21 : askE v21 = 0 := ask20 1
theorem look_one (k : ByteArray) (o : ObM) : look klt k [(k, o)] = some o := look_here klin (l := []) (r := []) (List.pairwise_singleton _ _)
theorem tab20 : s20.tab = [(keyO o20, o20)] := rfl
theorem tab21 : s21.tab = [(keyO o21, o21)] := by
 show ins klt (keyO o21) o21 [(keyO o20, o20)] = _
 have hk : keyO o20 = keyO o21 := rfl
 rw [hk]
 exact ins_here klin (l := []) (r := []) (List.pairwise_singleton _ _)
theorem get20 : getM s20 1 ⟨#[]⟩ ⟨#[97]⟩ = some o20 := by
 unfold getM
 rw [tab20]
 have hk : keyB 1 ⟨#[]⟩ ⟨#[97]⟩ = keyO o20 := rfl
 rw [hk, look_one]
 rfl
theorem get21 : getM s21 1 ⟨#[]⟩ ⟨#[97]⟩ = some o21 := by
 unfold getM
 rw [tab21]
 have hk : keyB 1 ⟨#[]⟩ ⟨#[97]⟩ = keyO o21 := rfl
 rw [hk, look_one]
 rfl
theorem cre20 : creE st0 v20 = 0 := by
 unfold creE
 rw [if_pos a20, if_neg (fun h => by have := h.1; exact absurd this (by decide)), if_neg (by decide), if_neg (by decide)]
theorem upd20 : updE s20 v21 = 0 := by
 unfold updE
 rw [if_pos a21]
 unfold curE
 have : getM s20 v21.kind v21.space v21.name = some o20 := get20
 rw [this]
 rfl
theorem upd21 : updE s21 v21 = 20 := by
 unfold updE
 rw [if_pos a21]
 unfold curE
 have : getM s21 v21.kind v21.space v21.name = some o21 := get21
 rw [this]
 rfl

set_option maxHeartbeats 4000000 in
set_option maxRecDepth 100000 in
theorem alive20_any (w : World) {ea : Nat → Addr} (hE : EW w ea) (he : Errs w ea) : Calls Tryz.prog 6 #[] w fun e w' => e = .returned (.bool true) ∧ Below w.heap.size w w' := by
 have HN := Hj (New_S (w0 := w) 1000 (Below.refl _ w) (by decide) (by decide))
 have hlive := live0 1000 (by decide) (by decide)
 have hfree : (⟨1000, fun _ => [], [], false, 0, false⟩ : DM).free = 1000 := by rw [Live.freeL hlive]; rfl
 have hfound := fun L' hR => Live.found (L' := L') hlive on0 hR
 have hrd : Reads (fun i => (⟨1000, fun _ => [], [], false, 0, false⟩ : DM).b (3 + i)) ⟨0, 1, [], [], false⟩ := on0.reads
 obtain ⟨-, -, -, -, hlo, hop, hom⟩ := hfound _ hrd
 have ht0 : Tells ⟨0, 1, [], [], false⟩ st0 := tells0 rfl rfl
 have hlen5 : ((⟨1000, fun _ => [], [], false, 0, false⟩ : DM).b 5).length ≤ 1048576 := Nat.zero_le _
 have hwz : (⟨1000, fun _ => [], [], false, 0, false⟩ : DM).waits = [] := rfl
 have hgz : (⟨1000, fun _ => [], [], false, 0, false⟩ : DM).gone = false := rfl
 have hon := on0
 obtain ⟨m0, hm0⟩ : ∃ m : DM, m = ⟨1000, fun _ => [], [], false, 0, false⟩ := ⟨_, rfl⟩
 obtain ⟨L0, hL0⟩ : ∃ L : LM, L = ⟨0, 1, [], [], false⟩ := ⟨_, rfl⟩
 have hd0 : L0.dead = false := by rw [hL0]
 have htx : L0.text.length ≤ 1048576 := by rw [hL0]; decide
 rw [← hm0] at HN hlive hfree hrd hop hom hlen5 hwz hgz
 rw [← hL0] at hrd hlo hop hom ht0 hon
 clear hfound
 have HOp : Hid (∀ W g, DS w W g m0 → Calls Tryz.prog 9 #[.pointer (some ⟨g, 0, none⟩)] W fun e w' => ∃ gs Q, e = .returned (.tuple #[.pointer (some ⟨gs, 0, none⟩), .nilIface]) ∧ SW w w' Q g m0 gs L0 st0) := Hj fun W g hs => (Open_st hs.dd hE hlive.ok (by rw [hwz]; exact Nat.zero_le _) hgz hrd hd0 hlo hlen5 ht0 ⟨by decide, by decide⟩ htx hop).mono fun e w' => by
  rintro ⟨gs, Q, rfl, hsw, -, -⟩
  rw [hom] at hsw
  exact ⟨gs, Q, rfl, hsw⟩
 have hc0 : st0.Can (false, o20) := (newO_can a20 rfl (by decide)).1
 have hl0 := evO_small (e := (false, o20)) hc0.ok hc0.most
 have hz0 : o20.space.size + o20.name.size + o20.data.length = 1 := rfl
 dsimp only at hl0
 rw [hz0] at hl0
 have hstep0 := fun n E M' L' m' hC => live_chg (n := n) (E := E) (M' := M') (L' := L') (m' := m') hlive hon hd0 ht0 hc0 (by rw [hfree]; omega) hC
 obtain ⟨b0, hb0⟩ : ∃ b, b = evO (false, o20) := ⟨_, rfl⟩
 obtain ⟨m1, hm1⟩ : ∃ m, m = L0.appM m0 b0 := ⟨_, rfl⟩
 obtain ⟨L1, hL1⟩ : ∃ L, L = L0.with b0 := ⟨_, rfl⟩
 have hcan1 : s20.Can (false, o21) := (newO_can (M := s20) a21 rfl (by decide)).1
 have hl1 := evO_small (e := (false, o21)) hcan1.ok hcan1.most
 have hz1 : o21.space.size + o21.name.size + o21.data.length = 1 := rfl
 dsimp only at hl1
 rw [hz1] at hl1
 have HCre : Hid (∀ W Q g gs, SW w W Q g m0 gs L0 st0 → Calls Tryz.prog 12 #[.pointer (some ⟨gs, 0, none⟩), .agg #[.int .i64 1, .string ⟨#[]⟩, .string ⟨#[97]⟩, .int .i64 0, .slice none 0 0]] W fun e w' => e = .returned (.tuple #[.int .i64 1, .nilIface]) ∧ SW w w' (ext Q W w') g m1 gs L1 s20 ∧ Fr Q W w' ∧ ∃ B, m1.Live B ∧ L1.On B ∧ m1.free = 1000 - (20 + (b0.length : Int)) ∧ m1.waits = [] ∧ L1.dead = false ∧ Tells L1 s20) := Hj fun W Q g gs hs => by
  refine (Create_any v20 [] hs he hE hlive.ok hlo (by rw [hwz]; exact Nat.zero_le _) (RB.nil _ _) (by decide) (by decide) (by decide) (by decide) (by decide) (by decide)).mono ?_
  rintro e w' ⟨n, E, M', L', m', rfl, hp, hsw, hf⟩
  rw [cre20] at hp
  rcases hp with ⟨h, _⟩ | ⟨-, hC⟩
  ·exact absurd rfl h
  ·obtain ⟨e1, e2, e3, e4, e5, ⟨B, h1, h2⟩, h3, h4, h5, h6⟩ := hstep0 n E M' L' m' hC
   rw [← hb0] at e4 e5 h3
   rw [← hL1] at e4
   rw [← hm1] at e5
   subst e1
   subst e2
   rw [e3, e4, e5] at hsw
   rw [e4] at h2 h5 h6
   rw [e5] at h1 h3 h4
   rw [e3] at h6
   exact ⟨rfl, hsw, hf, B, h1, h2, by rw [h3, hfree], h4, h5, h6⟩
 have HUp1 : Hid (∀ W Q g gs B, SW w W Q g m1 gs L1 s20 → m1.Live B → L1.On B → m1.free = 1000 - (20 + (b0.length : Int)) → m1.waits = [] → L1.dead = false → Tells L1 s20 → Calls Tryz.prog 14 #[.pointer (some ⟨gs, 0, none⟩), .agg #[.int .i64 1, .string ⟨#[]⟩, .string ⟨#[97]⟩, .int .i64 1, .slice none 0 0]] W fun e w' => ∃ m2 L2, e = .returned (.tuple #[.int .i64 2, .nilIface]) ∧ SW w w' (ext Q W w') g m2 gs L2 s21 ∧ Fr Q W w' ∧ m2.Ok ∧ L2.Ok ∧ m2.waits = []) := Hj fun W Q g gs B hs k1 k2 k3 k4 k5 k6 => by
  refine (Update_any v21 [] hs he hE k1.ok (k1.okL k2.reads) (by rw [k4]; exact Nat.zero_le _) (RB.nil _ _) (by decide) (by decide) (by decide) (by decide) (by decide) (by decide)).mono ?_
  rintro e w' ⟨n, E, M', L', m', rfl, hp, hsw, hf⟩
  rw [upd20] at hp
  rcases hp with ⟨h, _⟩ | ⟨-, hC⟩
  ·exact absurd rfl h
  ·obtain ⟨e1, e2, e3, e4, e5, ⟨B', h1, h2⟩, h3, h4, h5, h6⟩ := live_chg k1 k2 k5 k6 hcan1 (by rw [k3, hb0]; omega) hC
   subst e1
   subst e2
   rw [e3] at hsw
   exact ⟨m', L', rfl, hsw, hf, h1.ok, h1.okL h2.reads, h4⟩
 have HUp2 : Hid (∀ W Q g gs m2 L2, SW w W Q g m2 gs L2 s21 → m2.Ok → L2.Ok → m2.waits = [] → Calls Tryz.prog 14 #[.pointer (some ⟨gs, 0, none⟩), .agg #[.int .i64 1, .string ⟨#[]⟩, .string ⟨#[97]⟩, .int .i64 1, .slice none 0 0]] W fun e w' => e = .returned (.tuple #[.int .i64 0, errOf ea 20]) ∧ Errs w' ea ∧ Below w.heap.size w w') := Hj fun W Q g gs m2 L2 hs k1 k2 k4 => by
  refine (Update_any v21 [] hs he hE k1 k2 (by rw [k4]; exact Nat.zero_le _) (RB.nil _ _) (by decide) (by decide) (by decide) (by decide) (by rw [tab21]; decide) (by decide)).mono ?_
  rintro e w' ⟨n, E, M', L', m', rfl, hp, hsw, hf⟩
  rw [upd21] at hp
  rcases hp with ⟨-, e1, e2, -⟩ | ⟨h, _⟩
  ·subst e1
   subst e2
   exact ⟨by rw [errOf_d]; rfl, he.below hsw.bel, hsw.bel⟩
  ·cases h
 have HNum : Hid (∀ W, Errs W ea → Calls Tryz.prog 15 #[errOf ea 20] W fun e w' => e = .returned (.int .i64 20) ∧ Below W.heap.size W w') := Hj fun W hW => Num_any hW 20 (by decide)
 have h20 : errOf ea 20 = .iface 338 (.pointer (some (ea 20))) := rfl
 rw [h20] at HUp2 HNum
 clear hE he hlive hfree hrd hlo hop hom ht0 hlen5 hwz hgz hon hm0 hL0 hd0 htx hc0 hl0 hz0 hstep0 hb0 hm1 hL1 hcan1 hl1 hz1 h20
 go_enter Tryz.func6, Tryz.ntmps6
 go_wp2_with (first
  | (go_at_call 8; go_loud ((with_reducible refine HN.out.mono ?_); rintro e w1 ⟨rfl, hs1⟩; have S1 := Hj hs1; clear hs1))
  | (go_at_call 9; go_loud ((with_reducible refine (HOp.out w1 _ S1.out).mono ?_); rintro e w2 ⟨gs, Q, rfl, hs2⟩; have S2 := Hj hs2; clear hs2))
  | (go_at_call 12; go_loud (
    obtain ⟨w3, hw3⟩ : ∃ W, W = w2.alloc (.cells #[.int .i64 1, .string ⟨#[]⟩, .string ⟨#[97]⟩, .int .i64 0, .slice none 0 0] 26) := ⟨_, rfl⟩
    obtain ⟨BX, hBX⟩ : ∃ B, B = w2.heap.size := ⟨_, rfl⟩
    have hb3 : Below w2.heap.size w2 w3 := (by rw [hw3]; exact (Below.refl _ _).alloc Kj _)
    have hr3 : w3.heap[BX]? = some (.cells #[.int .i64 1, .string ⟨#[]⟩, .string ⟨#[97]⟩, .int .i64 0, .slice none 0 0] 26 (0, 0)) := (by rw [hw3, hBX]; exact heap_alloc_new w2 _)
    have hnq : ¬ Q BX := (fun h => absurd (S2.out.hi BX h) (by rw [hBX]; exact Nat.lt_irrefl _))
    rw [← hw3]
    try rw [← hBX]
    (with_reducible refine (HCre.out w3 Q _ gs (S2.out.below hb3)).mono ?_)
    rintro e w4 ⟨rfl, hs4, hf4, B4, a1, a2, a3, a4, a5, a6⟩
    have hr4 := (hf4.block BX (Cz hr3) hnq).trans hr3
    have HR4 := Hj hr4
    have HNQ : Hid (¬ ext Q w3 w4 BX) := Hj (fun h => h.elim hnq fun h => absurd (Cz hr3) (Nat.not_lt.2 h.1))
    have HUpB : Hid (w.heap.size ≤ BX) := Hj (by rw [hBX]; exact S2.out.bel.size)
    have HS4 := Hj hs4
    have HA := Hj (And.intro a1 (And.intro a2 (And.intro a3 (And.intro a4 (And.intro a5 a6)))))
    have fz4 : ∀ k, w4.frozen? ⟨BX, k, none⟩ = false := (fun k => Kx hr4)
    obtain ⟨r40, r41, r42, r43, r44⟩ := cells5 hr4
    clear hw3 hBX hb3 hr3 hnq hs4 hf4 a1 a2 a3 a4 a5 a6 hr4))
  | (go_at_call 14; go_loud (
    obtain ⟨w5, hw5⟩ : ∃ W, W = w4.setCell ⟨BX, 3, none⟩ (.int .i64 1) := ⟨_, rfl⟩
    have hf5 : Fr (fun k => k = BX) w4 w5 := (by rw [hw5]; exact (Fr.refl (fun k => k = BX) w4).setCell (p := ⟨BX, 3, none⟩) (fun _ => rfl) _)
    have hr5 : w5.heap[BX]? = some (.cells #[.int .i64 1, .string ⟨#[]⟩, .string ⟨#[97]⟩, .int .i64 1, .slice none 0 0] 26 (0, 0)) := (by rw [hw5]; exact heap_setCell_same _ _ 3 _ _ (.int .i64 1) HR4.out)
    have hs5 := HS4.out.fr hf5 (fun k hq e => HNQ.out (by rw [← e]; exact hq)) (fun k e => by rw [e]; exact HUpB.out) (fun k e => by rw [e]; exact NoNode.of HR4.out (by decide))
    rw [← hw5]
    (with_reducible refine (HUp1.out w5 _ _ gs B4 hs5 HA.out.1 HA.out.2.1 HA.out.2.2.1 HA.out.2.2.2.1 HA.out.2.2.2.2.1 HA.out.2.2.2.2.2).mono ?_)
    rintro e w6 ⟨m2, L2, rfl, hs6, hf6, b1, b2, b3⟩
    have hr6 := (hf6.block BX (Cz hr5) HNQ.out).trans hr5
    have HS6 := Hj hs6
    have HB := Hj (And.intro b1 (And.intro b2 b3))
    obtain ⟨r60, r61, r62, r63, r64⟩ := cells5 hr6
    clear hw5 hf5 hr5 hs5 hs6 hf6 b1 b2 b3 hr6 fz4 r40 r41 r42 r43 r44))
  | (go_at_call 14; go_loud (
    (with_reducible refine (HUp2.out w6 _ _ gs m2 L2 HS6.out HB.out.1 HB.out.2.1 HB.out.2.2).mono ?_)
    rintro e w7 ⟨rfl, he7, hb7⟩
    have HE7 := Hj he7
    have HB7 := Hj hb7
    clear he7 hb7))
  | (go_at_call 15; go_loud ((with_reducible refine (HNum.out w7 HE7.out).mono ?_); rintro e w8 ⟨rfl, hb8⟩; have HB8 := Hj (HB7.out.trans (hb8.mono HB7.out.size)); clear hb8))
  | fail)
 go_ret
 exact ⟨rfl, HB8.out⟩
end Go.Proofs.YtfmagnpmjlppiaaGreatDoor

/- Layer 20 (store): StorePower in plain words. No program in sight. -/
namespace Go.Proofs.YtfmagnpmjlppiaaGreatDoor
open Go.RowKit SO
theorem app_tab2 (M : StM) (e : Bool × ObM) : (M.app e).tab.length ≤ M.tab.length + 1 := by
 unfold StM.app
 split
 ·show (rem klt _ M.tab).length ≤ _
  rw [rem_length]
  split <;> omega
 ·show (ins klt _ _ M.tab).length ≤ _
  rw [ins_length]
  split <;> omega
section
variable {m m' : DM} {A : Nat → List UInt8} {L L' : LM} {M M' : StM} {e : Bool × ObM} {n E p T : Nat}
/-- .. on a disk on which nothing waits. -/
theorem pow_chg2 (h : m.Is A) (hL : L.On A) (hd : L.dead = false) (hT : Tells L M) (hc : M.Can e) (hC : Chg M L m e n E M' L' m') :
  (E = 0 ∧ n = M.rev + 1 ∧ (∃ B, m'.Is B ∧ L'.On B) ∧ L'.dead = false ∧ Tells L' M' ∧ (M' = M.app e ∨ M' = M.fresh.app e)) ∨
  (E = 26 ∧ n = 0 ∧ (∃ B, m'.Is B ∧ L'.On B) ∧ L'.dead = false ∧ Tells L' M' ∧ (M' = M ∨ M' = M.fresh)) ∨
  (E = 25 ∧ n = 0 ∧ ∃ L1 L2 M1 M2, Eith m' L1 L2 ∧ Tells L1 M1 ∧ Tells L2 M2 ∧ (M1.rev = M.rev ∧ M1.tab = M.tab) ∧ ((M2.rev = M.rev ∧ M2.tab = M.tab) ∨ (M2.rev = M.rev + 1 ∧ M2.tab.length ≤ M.tab.length + 1))) := by
 have hl : (evO e).length ≤ 16384 := Kv (evO_len hc.ok hc.most) (by omega)
 have hv := hc.ver
 rcases hC with ⟨_, rfl, rfl, eM, eL, em⟩ | ⟨_, ⟨h0, rfl, rfl, eM, eL, em⟩ | ⟨h0, h26, rfl, rfl, eM, eL, em⟩ | ⟨h26, hC⟩⟩
 ·rw [eM, eL, em]; exact .inr (.inl ⟨rfl, rfl, ⟨A, h, hL⟩, hd, hT, .inl rfl⟩)
 ·rcases pw_app h hL hd (evO e) hl with h1 | ⟨h1, hB, h2⟩ | ⟨h1, hB⟩
  ·omega
  ·rw [eM, eL, em]; exact .inl ⟨rfl, hv, by rw [h2]; exact hB, by rw [h2]; exact hd, by rw [h2]; exact hT.with hc, .inl rfl⟩
  ·omega
 ·rcases pw_app h hL hd (evO e) hl with h1 | ⟨h1, hB, h2⟩ | ⟨h1, hB⟩
  ·omega
  ·omega
  ·rw [eM, eL, em]; exact .inr (.inr ⟨h1, rfl, L, L.with (evO e), M, M.app e, hB, hT, hT.with hc, ⟨rfl, rfl⟩, .inr ⟨by rw [app_rev, hv], app_tab2 _ _⟩⟩)
 ·rcases hC with ⟨hne, rfl, rfl, eM, eL, em⟩ | ⟨h0, L1, m1, rfl, rfl, hC⟩
  ·rcases pw_cp h hL hd (snapT M.rev M.tab) with ⟨h1, h2, h3⟩ | ⟨h1, hB, h2⟩ | ⟨h1, hB⟩
   ·rw [eM, eL, em]; exact .inr (.inl ⟨h1, rfl, by rw [h2, h3]; exact ⟨A, h, hL⟩, by rw [h3]; exact hd, by rw [h3]; exact hT, .inl rfl⟩)
   ·omega
   ·rw [eM, eL, em]; exact .inr (.inr ⟨h1, rfl, L, L.new (snapT M.rev M.tab), M, M.fresh, hB, hT, hT.fresh, ⟨rfl, rfl⟩, .inl ⟨rfl, rfl⟩⟩)
  ·rcases pw_cp h hL hd (snapT M.rev M.tab) with ⟨h1, h2, h3⟩ | ⟨h1, ⟨B, b1, b2⟩, h2⟩ | ⟨h1, hB⟩
   ·omega
   ·rw [h2] at hC
    rcases pw_app b1 b2 hd (evO e) hl with k1 | ⟨k1, kB, k2⟩ | ⟨k1, kB⟩
    ·rcases hC with ⟨k0, rfl, rfl, eM, eL, em⟩ | ⟨k0, rfl, rfl, eM, eL, em⟩
     ·omega
     ·obtain ⟨k2, k3⟩ := app_full _ _ _ k1
      rw [eM, eL, em]
      exact .inr (.inl ⟨k1, rfl, by rw [k2, k3]; exact ⟨B, b1, b2⟩, by rw [k3]; exact hd, by rw [k3]; exact hT.fresh, .inr rfl⟩)
    ·rcases hC with ⟨k0, rfl, rfl, eM, eL, em⟩ | ⟨k0, rfl, rfl, eM, eL, em⟩
     ·rw [eM, eL, em]; exact .inl ⟨rfl, hv, by rw [k2]; exact kB, by rw [k2]; exact hd, by rw [k2]; exact hT.fresh.with (fresh_can hc), .inr rfl⟩
     ·omega
    ·rcases hC with ⟨k0, rfl, rfl, eM, eL, em⟩ | ⟨k0, rfl, rfl, eM, eL, em⟩
     ·omega
     ·rw [eM, eL, em]; exact .inr (.inr ⟨k1, rfl, _, _, M.fresh, M.fresh.app e, kB, hT.fresh, hT.fresh.with (fresh_can hc), ⟨rfl, rfl⟩, .inr ⟨by rw [app_rev, hv], app_tab2 _ _⟩⟩)
   ·omega
theorem chg_ok (h : m.Ok) (hw : m.waits.length ≤ 900) (hC : Chg M L m e n E M' L' m') : m'.Ok ∧ m'.waits.length ≤ 1000 := by
 rcases hC with ⟨_, _, _, _, _, em⟩ | ⟨_, ⟨_, _, _, _, _, em⟩ | ⟨_, _, _, _, _, _, em⟩ | ⟨_, ⟨_, _, _, _, _, em⟩ | ⟨_, L1, m1, rfl, rfl, ⟨_, _, _, _, _, em⟩ | ⟨_, _, _, _, _, em⟩⟩⟩⟩
 ·rw [em]; exact ⟨h, by omega⟩
 ·rw [em]; exact ⟨h.appMS L _, by have := appM_waitsS m L (evO e); omega⟩
 ·rw [em]; exact ⟨h.appMS L _, by have := appM_waitsS m L (evO e); omega⟩
 ·rw [em]; exact ⟨h.cpMS L _, by have := cpM_waitsS m L (snapT M.rev M.tab); omega⟩
 ·rw [em]; exact ⟨(h.cpMS L _).appMS _ _, by have h1 := cpM_waitsS m L (snapT M.rev M.tab); have h2 := appM_waitsS (L.cpM m (snapT M.rev M.tab)) (L.cp m (snapT M.rev M.tab)) (evO e); omega⟩
 ·rw [em]; exact ⟨(h.cpMS L _).appMS _ _, by have h1 := cpM_waitsS m L (snapT M.rev M.tab); have h2 := appM_waitsS (L.cpM m (snapT M.rev M.tab)) (L.cp m (snapT M.rev M.tab)) (evO e); omega⟩
/-- What holds between calls. -/
structure PInv (m : DM) (L : LM) (M : StM) (T : Nat) : Prop where
 isat : ∃ A, m.Is A ∧ L.On A
 dead : L.dead = false
 tells : Tells L M
 rev : M.rev = T
 tab : M.tab.length ≤ T
theorem PInv.ok (h : PInv m L M T) : m.Ok ∧ L.Ok ∧ m.waits.length ≤ 900 := by
 obtain ⟨A, h1, h2⟩ := h.isat
 exact ⟨h1.ok, h1.logOk h2.reads, by rw [h1.waits]; exact Nat.zero_le _⟩
/-- What the power's going leaves: of T changes and of the one under way. -/
def Left (m : DM) (M : StM) (T : Nat) : Prop := m.Ok ∧ m.waits.length ≤ 1000 ∧ ∀ kept s torn, ∃ B, (m.crash kept s torn).Is B ∧ ∃ L2 M2, Reads B L2 ∧ L2.dead = false ∧ Tells L2 M2 ∧ M2.tab.length ≤ T + 1 ∧ ((M2.rev = T ∧ M2.tab = M.tab) ∨ M2.rev = T + 1)
theorem Reads.undead {B : Nat → List UInt8} (h : Reads B L) : Reads B { L with dead := false } := ⟨h.pick, h.recs, h.short⟩
theorem Tells.undead (h : Tells L M) : Tells { L with dead := false } M := by
 obtain ⟨t, es, h⟩ := h
 exact ⟨t, es, ⟨h.tab, h.most, h.text, h.recs, h.cans, h.play⟩⟩
/-- What a call does. -/
theorem out_of (h : PInv m L M T) (hc : p = 0 → M.Can e) (hp : p ≤ 24) (hP : Puts M L m p e n E M' L' m') :
  (E ≠ 0 ∧ E ≠ 25 ∧ E ≤ 28 ∧ PInv m' L' M' T ∧ M'.tab = M.tab) ∨ (E = 0 ∧ n = T + 1 ∧ PInv m' L' M' (T + 1) ∧ M'.tab = (M.app e).tab) ∨ (E = 25 ∧ Left m' M T) := by
 obtain ⟨ok1, ok2, ok3⟩ := h.ok
 rcases hP with ⟨h1, h2, h3, h4, h5, h6⟩ | ⟨h1, hC⟩
 ·rw [h4, h5, h6, h3]
  exact .inl ⟨h1, by omega, by omega, h, rfl⟩
 ·obtain ⟨A, h2, h3⟩ := h.isat
  have hrev := h.rev
  have htab := h.tab
  have hcan := hc h1
  rcases pow_chg2 h2 h3 h.dead h.tells hcan hC with ⟨e1, e2, ⟨B, b1, b2⟩, e4, e5, e6⟩ | ⟨e1, e2, ⟨B, b1, b2⟩, e4, e5, e6⟩ | ⟨e1, e2, L1, L2, M1, M2, f1, f2, f3, f4, f5⟩
  ·refine .inr (.inl ⟨e1, by omega, ⟨⟨B, b1, b2⟩, e4, e5, ?_, ?_⟩, ?_⟩)
   ·have hv := hcan.ver
    rcases e6 with e6 | e6
    ·rw [e6, app_rev]; omega
    ·rw [e6, app_rev]; omega
   ·have h7 := app_tab2 M e
    have h8 := app_tab2 M.fresh e
    have h9 : M.fresh.tab = M.tab := rfl
    rw [h9] at h8
    rcases e6 with e6 | e6
    ·rw [e6]; omega
    ·rw [e6]; omega
   ·rcases e6 with e6 | e6
    ·rw [e6]
    ·rw [e6]
     unfold StM.app
     split
     ·rfl
     ·rfl
  ·refine .inl ⟨by omega, by omega, by omega, ⟨⟨B, b1, b2⟩, e4, e5, ?_, ?_⟩, ?_⟩
   ·rcases e6 with e6 | e6
    ·rw [e6]; exact hrev
    ·rw [e6]; exact hrev
   ·rcases e6 with e6 | e6
    ·rw [e6]; exact htab
    ·rw [e6]; exact htab
   ·rcases e6 with e6 | e6
    ·rw [e6]
    ·rw [e6]; rfl
  ·obtain ⟨k1, k2⟩ := chg_ok ok1 ok3 hC
   refine .inr (.inr ⟨e1, k1, k2, fun kept s torn => ?_⟩)
   obtain ⟨B, hB, hR⟩ := f1 kept s torn
   rcases hR with hR | hR
   ·exact ⟨B, hB, _, M1, hR.undead, rfl, f2.undead, by rw [f4.2]; omega, .inl ⟨by rw [f4.1]; exact hrev, f4.2⟩⟩
   ·rcases f5 with ⟨g1, g2⟩ | ⟨g1, g2⟩
    ·exact ⟨B, hB, _, M2, hR.undead, rfl, f3.undead, by rw [g2]; omega, .inl ⟨by rw [g1]; exact hrev, g2⟩⟩
    ·exact ⟨B, hB, _, M2, hR.undead, rfl, f3.undead, by omega, .inr (by rw [g1, hrev])⟩
end
theorem creE_le (M : StM) (v : OV) : creE M v ≤ 24 := by
 unfold creE askE
 repeat (first | split | omega)
theorem updE_le (M : StM) (v : OV) : updE M v ≤ 24 := by
 unfold updE askE curE
 repeat (first | split | omega)
theorem delE_le (M : StM) (v : OV) : delE M v ≤ 24 := by
 unfold delE askE curE
 repeat (first | split | omega)
theorem creE_zero {M : StM} {v : OV} (h : creE M v = 0) : askE v = 0 := by
 unfold creE at h
 by_cases ha : askE v = 0
 ·exact ha
 ·rw [if_neg ha] at h; exact h
theorem updE_zero {M : StM} {v : OV} (h : updE M v = 0) : askE v = 0 := by
 unfold updE at h
 by_cases ha : askE v = 0
 ·exact ha
 ·rw [if_neg ha] at h; exact h
theorem delE_zero {M : StM} {v : OV} (h : delE M v = 0) : askE ⟨v.kind, v.space, v.name, v.ver, none, 0, 0⟩ = 0 ∧ curE M v = 0 := by
 unfold delE at h
 by_cases ha : askE ⟨v.kind, v.space, v.name, v.ver, none, 0, 0⟩ = 0
 ·rw [if_pos ha] at h
  by_cases hc : curE M v = 0
  ·exact ⟨ha, hc⟩
  ·rw [if_neg hc] at h; exact absurd h hc
 ·rw [if_neg ha] at h; exact absurd h ha
end Go.Proofs.YtfmagnpmjlppiaaGreatDoor

/- StorePower: its walk. -/
namespace Go.Proofs.YtfmagnpmjlppiaaGreatDoor
open Go.RowKit SO
theorem EW.below {w w' : World} {ea : Nat → Addr} (h : EW w ea) (hb : Below w.heap.size w w') : EW w' ea := ⟨h.sha.keep (Kz hb), h.d.keep (Kz hb), Kz hb _ _ h.long, Kv h.size hb.size⟩
theorem is0S (room : Int) (h0 : 0 ≤ room) (h1 : room ≤ 1048576) : DM.Is ⟨room, fun _ => [], [], false, 0, false⟩ (fun _ => []) := ⟨(live0 room h0 h1).ok, rfl, rfl, fun _ _ => rfl, fun _ _ => rfl⟩
section
variable {w w' w0 : World} {Q : Nat → Prop} {g gs : Nat} {m : DM} {L : LM} {M : StM} {ea : Nat → Addr}
theorem Tells.evs_le (h : Tells L M) (hL : L.Ok) : M.evs.length ≤ 100000 := by
 obtain ⟨t, es, h⟩ := h
 have h1 := play_evs es (StM.at M.base t)
 rw [← h.play] at h1
 have h3 : (StM.at M.base t).evs.length = 0 := rfl
 have h4 : L.recs.length = es.length := by rw [h.recs, List.length_map]
 have h5 := endOf_ge L.recs
 have h6 := hL.recs
 omega
theorem two_boxes (w : World) (cs ds : Array Value) (S T : TypeId) : ∃ (W : World) (BA BO : Nat), W = (w.alloc (.cells cs S)).alloc (.cells ds T) ∧ BA = w.heap.size ∧ BO = w.heap.size + 1 ∧ BO = (w.alloc (.cells cs S)).heap.size ∧ Below w.heap.size w W ∧ W.heap[BA]? = some (.cells cs S (0, 0)) ∧ W.heap[BO]? = some (.cells ds T (0, 0)) := by
 have hbA := (Below.refl w.heap.size w).alloc Kj (.cells cs S)
 have hrA := heap_alloc_new w (.cells cs S)
 have hrO := heap_alloc_new (w.alloc (.cells cs S)) (.cells ds T)
 have hb2 := (Below.refl (w.alloc (.cells cs S)).heap.size (w.alloc (.cells cs S))).alloc Kj (.cells ds T)
 exact ⟨_, _, _, rfl, rfl, by simp, rfl, hbA.alloc hbA.size _, (hb2.block w.heap.size (Cz hrA)).trans hrA, hrO⟩
theorem acts_at {A : Option Addr} {n : Nat} {l : List Act20} (hl : RActs20 w A n l) (hs : ∀ a ∈ l, a.o.space.size ≤ 1000 ∧ a.o.name.size ≤ 1000) (i : Nat) (hi : i < n) : ∃ b o, A = some ⟨b, o, none⟩ ∧ ∃ x : Act20, AC w b (o + i * 10) x ∧ ActOk w x ∧ x.o.space.size ≤ 1000 ∧ x.o.name.size ≤ 1000 := by
 obtain ⟨b, o, e, hb⟩ := hl.2.2 (by omega)
 have hm : l[i]'(by rw [hl.1]; exact hi) ∈ l := List.getElem_mem _
 have hx := hb i hi
 rw [List.getD_eq_getElem?_getD, List.getElem?_eq_getElem (by rw [hl.1]; exact hi)] at hx
 exact ⟨b, o, e, _, hx, hl.2.1 _ hm, hs _ hm⟩
end
theorem EW.of_errs {w : World} {ea : Nat → Addr} (he : Errs w ea) (hs : ShaTabs w) : EW w ea :=
 ⟨hs, ⟨he.cell 1 (by decide) (by decide), he.cell 25 (by decide) (by decide), he.cell 26 (by decide) (by decide)⟩, he.cell 3 (by decide) (by decide), Kv (by decide) hs.lt⟩
end Go.Proofs.YtfmagnpmjlppiaaGreatDoor
