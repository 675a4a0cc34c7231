/- Layer 20 (store): labels and keys, in plain words. No program in sight. -/
import Derived.Test.YtfmagnpmjlppiaaGreatDoorOrdSO
import Derived.Lib.Strings
import Derived.Test.YtfmagnpmjlppiaaGreatDoorEvB
import Derived.Test.YtfmagnpmjlppiaaGreatDoorWalK
namespace Go.Proofs.YtfmagnpmjlppiaaGreatDoor
open Go.RowKit SO

/-! ### labels, keys -/
def letC (c : UInt8) : Bool := (decide (97 ≤ c.toNat) && decide (c.toNat ≤ 122)) || (decide (48 ≤ c.toNat) && decide (c.toNat ≤ 57))
def labB (l : List UInt8) : Bool := decide (0 < l.length) && (decide (l.length ≤ 24) && (!(Lib.hasPrefix l [45]) && (!(Lib.hasSuffix l [45]) && l.all fun c => (c == 45) || letC c)))
theorem labB_len {l : List UInt8} (h : labB l = true) : 0 < l.length ∧ l.length ≤ 24 := by
 unfold labB at h
 rw [Bool.and_eq_true, Bool.and_eq_true] at h
 exact ⟨of_decide_eq_true h.1, of_decide_eq_true h.2.1⟩
/-- A number's figures, the last one first. -/
def lowD (n : Nat) : List UInt8 := if h : n < 10 then [UInt8.ofNat (48 + n)] else UInt8.ofNat (48 + n % 10) :: lowD (n / 10)
termination_by n
decreasing_by exact Nat.div_lt_self (by omega) (by omega)
theorem lowD_small {n : Nat} (h : n < 10) : lowD n = [UInt8.ofNat (48 + n)] := by rw [lowD, dif_pos h]
theorem lowD_more {n : Nat} (h : ¬ n < 10) : lowD n = UInt8.ofNat (48 + n % 10) :: lowD (n / 10) := by rw [lowD, dif_neg h]
def serL (k : Int) : List UInt8 := if k < 0 then [] else (lowD k.toNat).reverse
def inSp (kind : Int) : Bool := decide (kind = 5) || decide (kind = 6)
def namB (kind : Int) (space name : ByteArray) : Bool :=
 (if inSp kind = true then labB space.data.toList else decide (space.size = 0)) && (decide (1 ≤ kind) && (decide (kind ≤ 7) && labB name.data.toList))
def rowL (kind : Int) (space : ByteArray) : List UInt8 := serL kind ++ [47] ++ space.data.toList ++ [47]
def strB (l : List UInt8) : ByteArray := ⟨l.toArray⟩
def keyB (kind : Int) (space name : ByteArray) : ByteArray := strB (rowL kind space ++ name.data.toList)
theorem strB_toList (l : List UInt8) : (strB l).toList = l := str_list l
theorem strB_data (l : List UInt8) : (strB l).data.toList = l := by simp [strB]
theorem strB_app (a b : List UInt8) : strB a ++ strB b = strB (a ++ b) := ByteArray.ext (by simp [strB])
theorem size_data (s : ByteArray) : s.data.toList.length = s.size := by rw [Array.length_toList]; rfl
theorem keyB_pos (kind : Int) (space name : ByteArray) : klt (strB []) (keyB kind space name) = true := by
 unfold klt
 rw [strB_toList, keyB, strB_toList, rowL]
 generalize h : serL kind ++ [47] ++ space.data.toList ++ [47] ++ name.data.toList = r
 cases r with
 | nil => simp at h
 | cons a b => rfl
end Go.Proofs.YtfmagnpmjlppiaaGreatDoor

/- Layer 20 (store): objects with versions, in plain words. No program in sight. -/
namespace Go.Proofs.YtfmagnpmjlppiaaGreatDoor
open Go.RowKit SO

/-! ### objects, changes -/
structure ObM where
 kind : Nat
 space : ByteArray
 name : ByteArray
 ver : Nat
 data : List UInt8
def keyO (o : ObM) : ByteArray := keyB (o.kind : Int) o.space o.name
structure ObM.Ok (o : ObM) : Prop where
 named : namB (o.kind : Int) o.space o.name = true
 data : o.data.length ≤ 8192
theorem namB_parts {kind : Int} {space name : ByteArray} (h : namB kind space name = true) : 1 ≤ kind ∧ kind ≤ 7 ∧ space.size ≤ 24 ∧ 1 ≤ name.size ∧ name.size ≤ 24 := by
 unfold namB at h
 rw [Bool.and_eq_true, Bool.and_eq_true, Bool.and_eq_true] at h
 obtain ⟨h1, h2, h3, h4⟩ := h
 have h4 := labB_len h4
 rw [size_data] at h4
 refine ⟨of_decide_eq_true h2, of_decide_eq_true h3, ?_, h4.1, h4.2⟩
 split at h1
 ·have := labB_len h1
  rw [size_data] at this
  exact this.2
 ·have := of_decide_eq_true h1
  omega
theorem ObM.Ok.parts {o : ObM} (h : o.Ok) : 1 ≤ o.kind ∧ o.kind ≤ 7 ∧ o.space.size ≤ 24 ∧ 1 ≤ o.name.size ∧ o.name.size ≤ 24 := by
 have := namB_parts h.named
 omega
structure StM where
 rev : Nat
 base : Nat
 tab : List (ByteArray × ObM)
 evs : List (Bool × ObM)
/-- A change's bytes. -/
def evO (e : Bool × ObM) : List UInt8 := evB (if e.1 then 2 else 1) e.2.kind e.2.ver e.2.space.data.toList e.2.name.data.toList (if e.1 then [] else e.2.data)
def StM.was (M : StM) (k : ByteArray) : List UInt8 := match look klt k M.tab with | some x => x.data | none => []
/-- What a change makes of a store. -/
def StM.app (M : StM) (e : Bool × ObM) : StM :=
 if e.1 = true then ⟨e.2.ver, M.base, rem klt (keyO e.2) M.tab, M.evs ++ [(true, { e.2 with data := M.was (keyO e.2) })]⟩
 else ⟨e.2.ver, M.base, ins klt (keyO e.2) e.2 M.tab, M.evs ++ [(false, e.2)]⟩
def StM.play (M : StM) (es : List (Bool × ObM)) : StM := es.foldl StM.app M
/-- A change that can be done. -/
structure StM.Can (M : StM) (e : Bool × ObM) : Prop where
 ok : e.2.Ok
 ver : e.2.ver = M.rev + 1
 most : e.2.ver ≤ 1099511627776
 del : e.1 = true → e.2.data = [] ∧ (look klt (keyO e.2) M.tab).isSome = true
def StM.Cans : StM → List (Bool × ObM) → Prop
 | _, [] => True
 | M, e :: es => M.Can e ∧ (M.app e).Cans es
theorem Cans.snoc {e : Bool × ObM} : ∀ {es : List (Bool × ObM)} {M : StM}, M.Cans es → (M.play es).Can e → M.Cans (es ++ [e])
 | [], _, _, h => ⟨h, trivial⟩
 | _ :: es, _, h, k => ⟨h.1, Cans.snoc (es := es) h.2 k⟩
theorem play_snoc (M : StM) (es : List (Bool × ObM)) (e : Bool × ObM) : M.play (es ++ [e]) = (M.play es).app e := by simp [StM.play]
theorem app_base (M : StM) (e : Bool × ObM) : (M.app e).base = M.base := by
 unfold StM.app
 split
 ·rfl
 ·rfl
theorem app_rev (M : StM) (e : Bool × ObM) : (M.app e).rev = e.2.ver := by
 unfold StM.app
 split
 ·rfl
 ·rfl
/-! ### tables -/
structure TabOk (rev : Nat) (tab : List (ByteArray × ObM)) : Prop where
 ris : Rises klt tab
 each : ∀ x ∈ tab, x.1 = keyO x.2 ∧ x.2.Ok ∧ 1 ≤ x.2.ver ∧ x.2.ver ≤ rev
theorem TabOk.nil (rev : Nat) : TabOk rev [] := ⟨List.Pairwise.nil, fun _ h => by cases h⟩
structure StM.Ok (M : StM) : Prop where
 tab : TabOk M.rev M.tab
 le : M.base ≤ M.rev
 most : M.rev ≤ 1099511627776
 num : M.rev = M.base + M.evs.length
 evs : ∀ i e, M.evs[i]? = some e → e.2.ver = M.base + 1 + i ∧ e.2.Ok
theorem look_mem {k : ByteArray} {o : ObM} : ∀ {l : List (ByteArray × ObM)}, look klt k l = some o → ∃ k', (k', o) ∈ l
 | [], h => by simp [look] at h
 | x :: l, h => by
  unfold look at h
  split at h
  ·cases h
  ·split at h
   ·obtain ⟨k', hk⟩ := look_mem h
    exact ⟨k', List.mem_cons_of_mem _ hk⟩
   ·injection h with h
    subst h
    exact ⟨x.1, by simp⟩
theorem StM.Ok.app {M : StM} (h : M.Ok) {e : Bool × ObM} (c : M.Can e) : (M.app e).Ok := by
 have hv := c.ver
 have hl := h.le
 have hn := h.num
 have each : ∀ x ∈ M.tab, x.1 = keyO x.2 ∧ x.2.Ok ∧ 1 ≤ x.2.ver ∧ x.2.ver ≤ e.2.ver := fun x hx => by
  obtain ⟨a, b, d, f⟩ := h.tab.each x hx
  exact ⟨a, b, d, by omega⟩
 unfold StM.app
 split
 ·rename_i hd
  refine ⟨⟨rem_rises h.tab.ris, fun x hx => each x (rem_sub.subset hx)⟩, by show M.base ≤ e.2.ver; omega, c.most, by show e.2.ver = M.base + (M.evs ++ [_]).length; simp; omega, fun i x hx => ?_⟩
  by_cases hi : i < M.evs.length
  ·rw [List.getElem?_append_left hi] at hx
   exact h.evs i x hx
  ·rw [List.getElem?_append_right (by omega)] at hx
   obtain ⟨h1, h2⟩ := List.getElem?_eq_some_iff.1 hx
   have h1' : i - M.evs.length < 1 := h1
   have e0 : i - M.evs.length = 0 := by omega
   simp [e0] at hx
   subst hx
   refine ⟨by show e.2.ver = M.base + 1 + i; omega, c.ok.named, ?_⟩
   show (M.was (keyO e.2)).length ≤ 8192
   unfold StM.was
   split
   ·rename_i o ho
    obtain ⟨k', hk⟩ := look_mem ho
    exact (h.tab.each _ hk).2.1.data
   ·simp
 ·rename_i hd
  refine ⟨⟨ins_rises klin h.tab.ris, fun x hx => ?_⟩, by show M.base ≤ e.2.ver; omega, c.most, by show e.2.ver = M.base + (M.evs ++ [_]).length; simp; omega, fun i x hx => ?_⟩
  ·rcases ins_mem hx with hx | hx
   ·subst hx
    exact ⟨rfl, c.ok, by show 1 ≤ e.2.ver; omega, Nat.le_refl _⟩
   ·exact each x hx
  ·by_cases hi : i < M.evs.length
   ·rw [List.getElem?_append_left hi] at hx
    exact h.evs i x hx
   ·rw [List.getElem?_append_right (by omega)] at hx
    obtain ⟨h1, h2⟩ := List.getElem?_eq_some_iff.1 hx
    have h1' : i - M.evs.length < 1 := h1
    have e0 : i - M.evs.length = 0 := by omega
    simp [e0] at hx
    subst hx
    exact ⟨by show e.2.ver = M.base + 1 + i; omega, c.ok⟩
theorem Ok.play : ∀ {es : List (Bool × ObM)} {M : StM}, M.Ok → M.Cans es → (M.play es).Ok
 | [], _, h, _ => h
 | _ :: es, _, h, c => Ok.play (es := es) (h.app c.1) c.2

/-! ### a store's log -/
/-- A snapshot's text. -/
def snapT (base : Nat) (tab : List (ByteArray × ObM)) : List UInt8 := elemB 2 (intB base) ++ tab.flatMap fun x => evO (false, x.2)
/-- A store as it is behind its snapshot. -/
def StM.at (base : Nat) (tab : List (ByteArray × ObM)) : StM := ⟨base, base, tab, []⟩
theorem StM.at_ok {base : Nat} {tab : List (ByteArray × ObM)} (h : TabOk base tab) (hb : base ≤ 1099511627776) : (StM.at base tab).Ok := ⟨h, Nat.le_refl _, hb, rfl, fun i e he => by cases he⟩
structure TellsBy (L : LM) (M : StM) (tab0 : List (ByteArray × ObM)) (es : List (Bool × ObM)) : Prop where
 tab : TabOk M.base tab0
 most : M.base ≤ 1099511627776
 text : L.text = snapT M.base tab0 ∨ (L.text = [] ∧ M.base = 0 ∧ tab0 = [])
 recs : L.recs = es.map evO
 cans : (StM.at M.base tab0).Cans es
 play : M = (StM.at M.base tab0).play es
/-- A log tells of a store. -/
def Tells (L : LM) (M : StM) : Prop := ∃ tab0 es, TellsBy L M tab0 es
theorem Tells.ok {L : LM} {M : StM} (h : Tells L M) : M.Ok := by
 obtain ⟨tab0, es, h⟩ := h
 rw [h.play]
 exact Ok.play (StM.at_ok h.tab h.most) h.cans
def st0 : StM := ⟨0, 0, [], []⟩
theorem tells0 {L : LM} (h1 : L.text = []) (h2 : L.recs = []) : Tells L st0 := ⟨[], [], ⟨TabOk.nil _, by decide, .inr ⟨h1, rfl, rfl⟩, by rw [h2]; rfl, trivial, rfl⟩⟩
/-- A change was kept. -/
theorem Tells.with {L : LM} {M : StM} (h : Tells L M) {e : Bool × ObM} (c : M.Can e) : Tells (L.with (evO e)) (M.app e) := by
 obtain ⟨tab0, es, h⟩ := h
 refine ⟨tab0, es ++ [e], ⟨by rw [app_base]; exact h.tab, by rw [app_base]; exact h.most, by rw [app_base]; exact h.text, by show L.recs ++ [_] = _; rw [h.recs]; simp, ?_, ?_⟩⟩
 ·rw [app_base]
  exact Cans.snoc h.cans (by rw [← h.play]; exact c)
 ·rw [app_base, play_snoc, ← h.play]
/-- A snapshot was made. -/
theorem Tells.new {L : LM} {M : StM} (h : Tells L M) : Tells (L.new (snapT M.rev M.tab)) (StM.at M.rev M.tab) :=
 ⟨M.tab, [], ⟨h.ok.tab, h.ok.most, .inl rfl, rfl, trivial, rfl⟩⟩
/-- What a store's state is for who asks. -/
def StM.fresh (M : StM) : StM := StM.at M.rev M.tab
end Go.Proofs.YtfmagnpmjlppiaaGreatDoor

/- Layer 20 (store): a change, wherever the power goes, in plain words. No program in sight. -/
namespace Go.Proofs.YtfmagnpmjlppiaaGreatDoor
open Go.RowKit SO
section
variable {m m' : DM} {A : Nat → List UInt8} {L L' : LM} {M M' : StM} {e : Bool × ObM} {n E : Nat}
/-- All that a crash can leave reads as the one or the other. -/
def Eith (m : DM) (L L' : LM) : Prop := ∀ kept s torn, ∃ B, (m.crash kept s torn).Is B ∧ (Reads B L ∨ Reads B L')
theorem app_full (L : LM) (m : DM) (t : List UInt8) (h : L.appE m t = 26) : L.appM m t = m ∧ L.app m t = L := by
 unfold LM.appE at h
 unfold LM.appM LM.app
 by_cases hr : L.room m t = 0
 ·rw [if_pos hr] at h
  split at h
  ·cases h
  ·cases h
 ·rw [if_neg hr, if_neg hr]
  exact ⟨rfl, rfl⟩
theorem pw_app (h : m.Is A) (hL : L.On A) (hd : L.dead = false) (t : List UInt8) (ht : t.length ≤ 16384) :
  L.appE m t = 26 ∨ (L.appE m t = 0 ∧ (∃ B, (L.appM m t).Is B ∧ (L.with t).On B) ∧ L.app m t = L.with t) ∨ (L.appE m t = 25 ∧ Eith (L.appM m t) L (L.with t)) := by
 rcases room_cases (m := m) hd ht with hr | hr
 ·rcases append_law h hL t hr with ⟨h0, B, b1, b2, b3, _⟩ | ⟨h25, _, hB⟩
  ·exact .inr (.inl ⟨h0, ⟨B, b1, b3⟩, b2⟩)
  ·exact .inr (.inr ⟨h25, hB⟩)
 ·left
  unfold LM.appE
  rw [if_neg (by omega)]
  exact hr
theorem pw_cp (h : m.Is A) (hL : L.On A) (hd : L.dead = false) (t : List UInt8) :
  (L.cpE m t = 26 ∧ L.cpM m t = m ∧ L.cp m t = L) ∨ (L.cpE m t = 0 ∧ (∃ B, (L.cpM m t).Is B ∧ (L.new t).On B) ∧ L.cp m t = L.new t) ∨ (L.cpE m t = 25 ∧ Eith (L.cpM m t) L (L.new t)) := by
 rcases space_cases (m := m) (t := t) hd with hr | hr
 ·rcases compact_law h hL (hL.reads.slot) t hr with ⟨h0, B, b1, b2, b3, _⟩ | ⟨h25, _, hB⟩
  ·exact .inr (.inl ⟨h0, ⟨B, b1, b3⟩, b2⟩)
  ·exact .inr (.inr ⟨h25, hB⟩)
 ·left
  unfold LM.cpE LM.cpM LM.cp
  rw [if_neg (by omega), if_neg (by omega), if_neg (by omega)]
  exact ⟨hr, rfl, rfl⟩
/-- What a change does: the number and the error's that are answered, the store, the log and the disk behind it. -/
def Chg (M : StM) (L : LM) (m : DM) (e : Bool × ObM) (n E : Nat) (M' : StM) (L' : LM) (m' : DM) : Prop :=
 (1099511627776 ≤ M.rev ∧ n = 0 ∧ E = 26 ∧ M' = M ∧ L' = L ∧ m' = m) ∨
 (M.rev < 1099511627776 ∧
  ((L.appE m (evO e) = 0 ∧ n = e.2.ver ∧ E = 0 ∧ M' = M.app e ∧ L' = L.app m (evO e) ∧ m' = L.appM m (evO e)) ∨
   (L.appE m (evO e) ≠ 0 ∧ L.appE m (evO e) ≠ 26 ∧ n = 0 ∧ E = L.appE m (evO e) ∧ M' = M ∧ L' = L.app m (evO e) ∧ m' = L.appM m (evO e)) ∨
   (L.appE m (evO e) = 26 ∧
    ((L.cpE m (snapT M.rev M.tab) ≠ 0 ∧ n = 0 ∧ E = L.cpE m (snapT M.rev M.tab) ∧ M' = M ∧ L' = L.cp m (snapT M.rev M.tab) ∧ m' = L.cpM m (snapT M.rev M.tab)) ∨
    (L.cpE m (snapT M.rev M.tab) = 0 ∧ ∃ L1 m1, L1 = L.cp m (snapT M.rev M.tab) ∧ m1 = L.cpM m (snapT M.rev M.tab) ∧
     ((L1.appE m1 (evO e) = 0 ∧ n = e.2.ver ∧ E = 0 ∧ M' = M.fresh.app e ∧ L' = L1.app m1 (evO e) ∧ m' = L1.appM m1 (evO e)) ∨
      (L1.appE m1 (evO e) ≠ 0 ∧ n = 0 ∧ E = L1.appE m1 (evO e) ∧ M' = M.fresh ∧ L' = L1.app m1 (evO e) ∧ m' = L1.appM m1 (evO e))))))))
theorem evO_len (h : e.2.Ok) (hv : e.2.ver ≤ 1099511627776) : (evO e).length ≤ 10504 := by
 obtain ⟨h1, h2, h3, h4, h5⟩ := h.parts
 have hd : (if e.1 then ([] : List UInt8) else e.2.data).length ≤ 10000 := by
  have := h.data
  split
  ·simp
  ·omega
 have hw : (if e.1 then 2 else 1 : Nat) < 4611686018427387904 := by split <;> omega
 exact elemB_lenle 48 (evK_len hw (by omega) (by omega) (by rw [size_data]; omega) (by rw [size_data]; omega) hd) (by omega)
theorem fresh_can (c : M.Can e) : M.fresh.Can e := ⟨c.ok, c.ver, c.most, c.del⟩
theorem Tells.fresh (h : Tells L M) : Tells (L.new (snapT M.rev M.tab)) M.fresh := h.new
end
end Go.Proofs.YtfmagnpmjlppiaaGreatDoor
