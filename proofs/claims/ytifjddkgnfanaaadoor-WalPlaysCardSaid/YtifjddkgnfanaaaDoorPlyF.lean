/- WalPlays: any act; the beginning. -/
import Derived.Test.YtifjddkgnfanaaaDoorPlyE
namespace Go.Proofs.YtifjddkgnfanaaaDoor
open Go.RowKit

section
variable {w w1 w' w0 : World} {S P O T : Nat → Prop} {gl glr g gr x k : Nat} {m m' mr : DM} {L L' : LM} {ea : Nat → Addr} {tv rv lv : Value} {lo lr : Option (Nat × LM)} {bo : Option (Nat × Obj)} {a : Act18}
theorem appE_le (L : LM) (m : DM) (t : List UInt8) : L.appE m t ≤ 28 := by
  unfold LM.appE LM.room
  repeat' split
  all_goals omega
theorem cpE_le (L : LM) (m : DM) (t : List UInt8) : L.cpE m t ≤ 28 := by
  unfold LM.cpE LM.space
  repeat' split
  all_goals omega
theorem LM.In.mono {k' : Nat} (h : L.In k) (hk : k ≤ k') : L.In k' := ⟨h.gen, h.slot, h.text, by have := h.recs; omega⟩
theorem PS.mono {k' : Nat} (h : PS w0 w x g gr m k) (hk : k ≤ k') : PS w0 w x g gr m k' := by
  obtain ⟨hG, lo, lr, lv, rv, hP, hc⟩ := h
  exact ⟨hG, lo, lr, lv, rv, hP, hc.imp id fun ⟨gl, glr, L, hI, h⟩ => ⟨gl, glr, L, hI.mono hk, h⟩⟩
theorem PS.bel (h : PS w0 w x g gr m k) : Below w0.heap.size w0 w := by
  obtain ⟨hG, lo, lr, lv, rv, hP, hc⟩ := h
  exact hP.bel
theorem PS.below (h : PS w0 w x g gr m k) (hb : Below w.heap.size w w') : PS w0 w' x g gr m k := by
  obtain ⟨hG, lo, lr, lv, rv, hP, hc⟩ := h
  exact ⟨hG, lo, lr, lv, rv, hP.below hb, hc⟩

theorem play_do (h : PS w0 w x g gr m k) (hk : k ≤ 900) (hE : EW w0 ea) (hR : Errs w0 ea) (hb : RB w0 a.A a.bs.length a.bs) (hbl : a.bs.length ≤ 200) (hac : a.bs.length ≤ a.c) (ham : a.c ≤ maxLen) (hs0 : 0 ≤ a.scat) (hs1 : a.scat ≤ 18446744073709551615) (hn1 : a.n ≤ 9223372036854775807) :
    Calls Tryd.prog 12 #[.pointer (some ⟨x, 0, none⟩), .agg #[.int .i64 a.kind, .int .i64 a.n, .int .i64 a.torn, .int .u64 a.scat, .slice a.A a.bs.length a.c]] w fun e w' => e = .returned (.bool true) ∧ ∃ m', PS w0 w' x g gr m' (k + 1) := by
  obtain ⟨hG, lo, lr, lv, rv, hP, hc⟩ := h
  have z : ∀ {w' : World}, (∃ m', PS w0 w' x g gr m' 0) → ∃ m', PS w0 w' x g gr m' (k + 1) := fun ⟨m', h⟩ => ⟨m', h.mono (Nat.zero_le _)⟩
  by_cases k2 : a.kind = 2
  · by_cases hn : 0 ≤ a.n
    · refine (do_arm hP k2 hn).mono ?_
      rintro e w' ⟨rfl, h'⟩
      exact ⟨rfl, m.arm a.n, Gd.arm hG a.n hn hn1, lo, lr, lv, rv, h', hc.imp id fun ⟨gl, glr, L, hI, h⟩ => ⟨gl, glr, L, hI.more, h⟩⟩
    · refine (do_armN hP hE k2 (by omega)).mono ?_
      rintro e w' ⟨rfl, h'⟩
      exact ⟨rfl, m, hG, lo, lr, lv, rv, h', hc.imp id fun ⟨gl, glr, L, hI, h⟩ => ⟨gl, glr, L, hI.more, h⟩⟩
  by_cases k3 : a.kind = 3
  · refine (do_crash hP hG hE hR k3 hs0 hs1).mono ?_
    rintro e w' ⟨rfl, h'⟩
    exact ⟨rfl, z h'⟩
  by_cases k0 : a.kind = 0
  · rcases hc with ⟨rfl, rfl, rfl, rfl⟩ | ⟨gl, glr, L, hI, rfl, rfl, rfl, rfl⟩
    · refine (do_no0 hP hG hE hR k0).mono ?_
      rintro e w' ⟨rfl, h'⟩
      exact ⟨rfl, z h'⟩
    · refine (do_append hP hG (hI.ok (by omega)) hE hR k0 hb hac ham (appE_le _ _ _)).mono ?_
      rintro e w' ⟨rfl, h'⟩
      exact ⟨rfl, _, Gd.appM hG L a.bs, _, _, _, _, h', .inr ⟨gl, glr, _, hI.app m a.bs hbl, rfl, rfl, rfl, rfl⟩⟩
  by_cases k1 : a.kind = 1
  · rcases hc with ⟨rfl, rfl, rfl, rfl⟩ | ⟨gl, glr, L, hI, rfl, rfl, rfl, rfl⟩
    · refine (do_no1 hP hG hE hR k1).mono ?_
      rintro e w' ⟨rfl, h'⟩
      exact ⟨rfl, z h'⟩
    · refine (do_compact hP hG (hI.ok (by omega)) hE hR k1 hb hbl (cpE_le _ _ _)).mono ?_
      rintro e w' ⟨rfl, h'⟩
      exact ⟨rfl, _, Gd.cpM hG L a.bs, _, _, _, _, h', .inr ⟨gl, glr, _, hI.cp m a.bs hbl, rfl, rfl, rfl, rfl⟩⟩
  · refine (do_else hP hG hE hR k0 k1 k2 k3).mono ?_
    rintro e w' ⟨rfl, h'⟩
    exact ⟨rfl, z h'⟩

/-! ### both disks, written to and synced -/
theorem PL.g26 (h : PL w0 w x bo g gr m mr lo lr lv rv) (hE : EW w0 ea) : 26 ≤ g := by
  obtain ⟨S, h1, _⟩ := h.prog
  obtain ⟨⟨O, ⟨bv, wv, ws, hd⟩, ho⟩, hu, _, _⟩ := h1.dd
  exact Nat.le_trans hE.size (hu g (ho g hd.ownG))
theorem Write_P (area at_ : Int) (A : Option Addr) (n c : Nat) (bs : List UInt8) (h : PL w0 w x bo g gr m mr lo lr lv rv) (hE : EW w0 ea) (hok : m.Ok) (hb : RB w A n bs) (hn : n ≤ 1048576) (hw : m.waits.length ≤ 1000) :
    Calls Tryd.prog 7 #[.pointer (some ⟨g, 0, none⟩), .int .i64 area, .int .i64 at_, .slice A n c] w fun e w' => e = .returned (dErr ea (m.writeE area at_ bs.length)) ∧ PL w0 w' x bo g gr (m.write area at_ bs) mr lo lr lv rv := by
  have hg := h.g26 hE
  obtain ⟨S, h1, hu⟩ := h.prog
  obtain ⟨O, hd, _, hu1⟩ := h1.useD
  refine (DWrite_any area at_ A n c bs hd hok (hE.d.keep (Keeps.of_below h.bel)) hg hb hn hw).mono ?_
  rintro e w' ⟨rfl, hd', hf⟩
  obtain ⟨k1, k2⟩ := hu1 _ _ hd' hf
  exact ⟨rfl, hu _ _ _ k1 k2⟩
theorem Sync_P (h : PL w0 w x bo g gr m mr lo lr lv rv) (hE : EW w0 ea) (hok : m.Ok) (hd0 : m.dead = false) :
    Calls Tryd.prog 9 #[.pointer (some ⟨g, 0, none⟩)] w fun e w' => e = .returned .nilIface ∧ PL w0 w' x bo g gr m.sync mr lo lr lv rv := by
  have hg := h.g26 hE
  obtain ⟨S, h1, hu⟩ := h.prog
  obtain ⟨O, hd, _, hu1⟩ := h1.useD
  refine (Sync_any hd hok (hE.d.keep (Keeps.of_below h.bel)) hg).mono ?_
  rintro e w' ⟨rfl, hd', hf⟩
  obtain ⟨k1, k2⟩ := hu1 _ _ hd' hf
  rw [hd0]
  exact ⟨rfl, hu _ _ _ k1 k2⟩
theorem RWrite_P (i : Nat) (hi : i < 3) (at_ : Int) (A : Option Addr) (n c : Nat) (bs : List UInt8) (h : PL w0 w x bo g gr m mr lo lr lv rv) (hok : mr.Ok) (hw : mr.waits.length ≤ 1000) (hf : mr.Fold) (h0 : 0 ≤ mr.free) (hb : RB w A n bs) (hn : n ≤ 1048576) :
    Calls Tryd.prog 8 #[.pointer (some ⟨gr, 0, none⟩), .int .i64 (i : Int), .int .i64 at_, .slice A n c] w fun e w' => e = .returned (.int .i64 (mr.writeE (i : Int) at_ bs.length : Int)) ∧ PL w0 w' x bo g gr m (mr.write (i : Int) at_ bs) lo lr lv rv := by
  obtain ⟨T, h1, hu⟩ := h.ref
  obtain ⟨O, ⟨B, k, wv, ws, hd⟩, _, hu1⟩ := h1.useD
  refine (RWrite_in i hi at_ A n c bs hd hok hw hf h0 hb hn).mono ?_
  rintro e w' ⟨rfl, hd', hf'⟩
  obtain ⟨k1, k2⟩ := hu1 _ _ hd' (hf'.mono fun q _ e => by subst e; exact hd.ownG)
  exact ⟨rfl, hu _ _ _ k1 k2⟩
theorem RSync_P (h : PL w0 w x bo g gr m mr lo lr lv rv) (hok : mr.Ok) (hw : mr.waits.length ≤ 1000) (hf : mr.Fold) (hd0 : mr.dead = false) :
    Calls Tryd.prog 10 #[.pointer (some ⟨gr, 0, none⟩)] w fun e w' => e = .returned (.int .i64 0) ∧ PL w0 w' x bo g gr m mr.sync lo lr lv rv := by
  obtain ⟨T, h1, hu⟩ := h.ref
  obtain ⟨O, ⟨B, k, wv, ws, hd⟩, _, hu1⟩ := h1.useD
  refine (RSync_any hd hok hw hf).mono ?_
  rintro e w' ⟨rfl, hd', hf'⟩
  obtain ⟨k1, k2⟩ := hu1 _ _ hd' (hf'.mono fun q _ e => by subst e; exact hd.ownG)
  rw [hd0]
  exact ⟨rfl, hu _ _ _ k1 k2⟩
theorem Down_P (h : PL w0 w x bo g gr m mr lo lr lv rv) : Calls Tryd.prog 14 #[.pointer (some ⟨g, 0, none⟩)] w fun e w' => e = .returned (.bool m.gone) ∧ w = w' := by
  obtain ⟨S, h1, hu⟩ := h.prog
  obtain ⟨⟨O, ⟨bv, wv, ws, hd⟩, _⟩, _, _, _⟩ := h1.dd
  exact Down_V hd
theorem Waits_P (h : PL w0 w x bo g gr m mr lo lr lv rv) : Calls Tryd.prog 15 #[.pointer (some ⟨g, 0, none⟩)] w fun e w' => e = .returned (.int .i64 (m.waits.length : Int)) ∧ w = w' := by
  obtain ⟨S, h1, hu⟩ := h.prog
  obtain ⟨⟨O, ⟨bv, wv, ws, hd⟩, _⟩, _, _, _⟩ := h1.dd
  exact Waits_V hd
/-- The disks as they are made; the player's first field is set last. -/
theorem PL.init {W w3 : World} {room : Int} (hb : Below w0.heap.size w0 W) (hx : w0.heap.size ≤ x) (hgr : w0.heap.size ≤ gr) (hxg : x ≠ gr) (hxl : x < W.heap.size)
    (hr : W.heap[gr]? = some (.cells #[.int .i64 room, .slice none 0 0, .slice none 0 0, .slice none 0 0, .slice none 0 0, .bool false, .int .i64 0, .bool false] 32 (0, 0)))
    (hp : W.heap[x]? = some (.cells #[.pointer none, .pointer (some ⟨gr, 0, none⟩), .pointer none, .pointer none] 37 (0, 0)))
    (hd : DS W w3 g ⟨room, fun _ => [], [], false, 0, false⟩) :
    PL w0 (w3.setCell ⟨x, 0, none⟩ (.pointer (some ⟨g, 0, none⟩))) x none g gr ⟨room, fun _ => [], [], false, 0, false⟩ ⟨room, fun _ => [], [], false, 0, false⟩ none none (.pointer none) (.pointer none) := by
  have hgl : gr < W.heap.size := (Array.getElem?_eq_some_iff.1 hr).1
  have hD := hd.dd
  have hb3 := hD.bel
  have hF := (Fr.refl (fun q => q = x) w3).setCell (p := ⟨x, 0, none⟩) (fun _ => rfl) (.pointer (some ⟨g, 0, none⟩))
  have hp3 := (hb3.block x hxl).trans hp
  have hr3 := (hb3.block gr hgl).trans hr
  have hc := heap_setCell_same _ x 0 _ _ (.pointer (some ⟨g, 0, none⟩)) hp3
  have hbw : Below w0.heap.size w0 w3 := hb.trans (hb3.mono hb.size)
  have hX : DX w0 w3 (fun k => W.heap.size ≤ k ∧ k < w3.heap.size) g ⟨room, fun _ => [], [], false, 0, false⟩ none := ⟨hD.d, fun k hk => Nat.le_trans hb.size hk.1, hD.hi, hbw⟩
  have hY : RX w0 w3 (fun k => k = gr) gr ⟨room, fun _ => [], [], false, 0, false⟩ none := ⟨⟨fun k => k = gr, ⟨fun _ => none, fun _ => 0, .slice none 0 0, [], hr3, fun i hi => OB.nil _ _, OwnS.nil _ _ _ _, rfl, fun y hy => (by cases hy), rfl, fun i hi q hq => (by cases hq), fun q hq => (by cases hq), fun y hy => (by cases hy)⟩, fun k hk => hk⟩, fun k hk => by rw [hk]; exact hgr, fun k hk => by rw [hk]; exact Nat.lt_of_lt_of_le hgl hb3.size, hbw⟩
  refine ⟨⟨_, _, hX.frT hF (fun k hk e => by have := hk.1; omega) (fun k e => by rw [e]; exact hx), hY.frT hF (fun k hk e => hxg (by rw [← e, ← hk])) (fun k e => by rw [e]; exact hx), fun k hk e => by have := hk.1; omega, fun hk => by have := hk.1; omega, fun hk => hxg hk, fun _ _ e => nomatch e⟩, hc, hx, fun _ _ e => nomatch e⟩
theorem wpAnyH_wide {P : Program} {ops : Array Oper} {Q : Exit → Act → World → Prop} {md : Region.Mode} {S : World → Prop} : ∀ (fuel : Nat) (listed : Array Bool) (a : Act) (w : World), wpAnyH P md ops Q S fuel listed a w → wpAnyH P md ops Q (fun _ => True) fuel listed a w
  | 0, _, _, _, h => h
  | fuel + 1, _, _, _, h => ⟨h.1, fun i hi => wpOp_mono (fun a' w' h' => ⟨trivial, wpAnyH_wide fuel _ a' w' h'.2⟩) (h.2 i hi)⟩
end

/-! ### short names for what lays a frame out -/
theorem zs {α : Type} (l : List α) (i : Nat) (a : α) : l.toArray.setIfInBounds i a = (l.set i a).toArray := List.setIfInBounds_toArray ..
theorem z0 {α : Type} (x : α) (l : List α) (a : α) : (x :: l).set 0 a = a :: l := rfl
theorem z1 {α : Type} (x : α) (l : List α) (n : Nat) (a : α) : (x :: l).set (n + 1) a = x :: l.set n a := rfl
theorem gt {α : Type} (l : List α) (i : Nat) (h : i < l.toArray.size) : l.toArray[i] = l[i]'(by simpa using h) := rfl
theorem g0 {α : Type} (x : α) (l : List α) (h : 0 < (x :: l).length) : (x :: l)[0] = x := rfl
theorem g1 {α : Type} (x : α) (l : List α) (n : Nat) (h : n + 1 < (x :: l).length) : (x :: l)[n + 1] = l[n]'(by simpa using h) := rfl
/-- The disk behind its first sync. -/
theorem Gd.first {m : DM} {A : Nat → List UInt8} (h : m.Live A) (hf : 0 ≤ m.free) (hr : m.room = 1000) : m.sync.Gd ∧ m.dead = false := by
  have hd := DM.dead_plain h.armed h.gone
  have e := DM.sync_plain h.armed h.gone
  have hI := h.flush_is
  rw [e]
  exact ⟨⟨hI.ok, DM.Fold.flush m, by rw [m.flush_free]; exact hf, hf, by rw [hI.waits]; exact Nat.zero_le _, fun hw => absurd hI.waits hw, hr⟩, hd⟩
end Go.Proofs.YtifjddkgnfanaaaDoor
