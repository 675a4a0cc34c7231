/- StoreLists, in plain words: what lies in the row of a kind and a namespace; what calls leave of it. No program in sight. -/
import Derived.Test.YtfmagnpmjlppiaaGreatDoorSp
import Derived.Test.YtfmagnpmjlppiaaGreatDoorPlayP
import Derived.Test.YtfmagnpmjlppiaaGreatDoorLst
import Derived.WideMake
import Derived.MapKept
namespace Go.Proofs.YtfmagnpmjlppiaaGreatDoor
open Go.RowKit SO

/-! ### a row's span -/
theorem bl_pre : ∀ (p x : List UInt8), Op.bytesLess x (p ++ [47]) = false → Op.bytesLess x (p ++ [48]) = true → ∃ r, x = p ++ 47 :: r
 | [], [], h, _ => by simp [Op.bytesLess] at h
 | [], c :: t, h1, h2 => by
  simp only [List.nil_append, Op.bytesLess, Bool.and_false, Bool.or_false, decide_eq_false_iff_not, decide_eq_true_eq] at h1 h2
  have hc : c = 47 := by
   rw [UInt8.lt_iff_toNat_lt] at h1 h2
   have e1 : (47 : UInt8).toNat = 47 := rfl
   have e2 : (48 : UInt8).toNat = 48 := rfl
   exact UInt8.toNat_inj.1 (by omega)
  exact ⟨t, by rw [hc]; rfl⟩
 | b :: p, [], h, _ => by simp [Op.bytesLess] at h
 | b :: p, c :: t, h1, h2 => by
  simp only [List.cons_append, Op.bytesLess, Bool.or_eq_false_iff, Bool.or_eq_true, Bool.and_eq_true, Bool.and_eq_false_iff] at h1 h2
  obtain ⟨h3, h4⟩ := h1
  rcases h2 with h2 | ⟨h2, h5⟩
  ·rw [h3] at h2; cases h2
  ·rcases h4 with h4 | h4
   ·rw [h2] at h4; cases h4
   ·obtain ⟨r, hr⟩ := bl_pre p t h4 h5
    exact ⟨r, by rw [hr, eq_of_beq h2]; rfl⟩
theorem bl_app : ∀ (p a b : List UInt8), Op.bytesLess (p ++ a) (p ++ b) = Op.bytesLess a b
 | [], _, _ => rfl
 | c :: p, a, b => by
  simp only [List.cons_append, Op.bytesLess, beq_self_eq_true, Bool.true_and, bl_app p a b]
  have : decide (c < c) = false := by simp
  rw [this, Bool.false_or]
theorem serL_one {k : Nat} (h : k ≤ 7) : serL (k : Int) = [UInt8.ofNat (48 + k)] := by
 unfold serL
 rw [if_neg (by omega), show ((k : Int)).toNat = k from rfl, lowD_small (by omega)]
 rfl
theorem lab_no47 {l : List UInt8} (h : labB l = true) : ∀ c ∈ l, c ≠ 47 := by
 unfold labB at h
 simp only [Bool.and_eq_true, List.all_eq_true] at h
 intro c hc e
 have := h.2.2.2.2 c hc
 rw [e] at this
 exact absurd this (by decide)
def No47 (s : ByteArray) : Prop := ∀ c ∈ s.data.toList, c ≠ 47
theorem space_no47 {kind : Int} {space name : ByteArray} (h : namB kind space name = true) : No47 space := by
 unfold namB at h
 rw [Bool.and_eq_true] at h
 have h1 := h.1
 split at h1
 ·exact lab_no47 h1
 ·have h2 := of_decide_eq_true h1
  intro c hc
  have h3 : space.data.toList.length = 0 := by rw [size_data]; exact h2
  rw [List.length_eq_zero_iff.1 h3] at hc
  cases hc
theorem cut47 : ∀ {s t n r : List UInt8}, (∀ c ∈ s, c ≠ 47) → (∀ c ∈ t, c ≠ 47) → t ++ 47 :: n = s ++ 47 :: r → t = s ∧ n = r
 | [], [], _, _, _, _, h => ⟨rfl, by simpa using h⟩
 | [], b :: t, _, _, _, h2, h => by
  simp only [List.cons_append, List.nil_append, List.cons.injEq] at h
  exact absurd h.1 (h2 b (by simp))
 | a :: s, [], _, _, h1, _, h => by
  simp only [List.cons_append, List.nil_append, List.cons.injEq] at h
  exact absurd h.1.symm (h1 a (by simp))
 | a :: s, b :: t, _, _, h1, h2, h => by
  simp only [List.cons_append, List.cons.injEq] at h
  obtain ⟨e1, e2⟩ := cut47 (fun c hc => h1 c (by simp [hc])) (fun c hc => h2 c (by simp [hc])) h.2
  exact ⟨by rw [h.1, e1], e2⟩
theorem ofNat48 {a b : Nat} (ha : a ≤ 7) (hb : b ≤ 7) (h : UInt8.ofNat (48 + a) = UInt8.ofNat (48 + b)) : a = b := by
 have := congrArg UInt8.toNat h
 simp only [UInt8.toNat_ofNat'] at this
 omega
theorem key_in {o : ObM} (ho : o.Ok) {K : Nat} {S : ByteArray} (hK : K ≤ 7) (hS : No47 S) (h1 : klt (keyO o) (strB (rowL (K : Int) S)) = false) (h2 : klt (keyO o) (strB (toL (K : Int) S)) = true) : o.kind = K ∧ o.space = S := by
 obtain ⟨p1, p2, p3, p4, p5⟩ := ho.parts
 unfold klt at h1 h2
 have e1 : rowL (K : Int) S = (serL (K : Int) ++ [47] ++ S.data.toList) ++ [47] := rfl
 have e2 : toL (K : Int) S = (serL (K : Int) ++ [47] ++ S.data.toList) ++ [48] := rfl
 rw [strB_toList, e1] at h1
 rw [strB_toList, e2] at h2
 obtain ⟨r, hr⟩ := bl_pre _ _ h1 h2
 unfold keyO keyB at hr
 rw [strB_toList] at hr
 unfold rowL at hr
 rw [serL_one p2, serL_one hK] at hr
 simp only [List.append_assoc, List.cons_append, List.nil_append, List.cons.injEq, true_and] at hr
 obtain ⟨e3, e4⟩ := cut47 hS (space_no47 ho.named) hr.2
 exact ⟨ofNat48 p2 hK hr.1, ByteArray.ext (Array.toList_inj.1 e3)⟩
theorem names_rise {x y : ObM} (h1 : x.kind = y.kind) (h2 : x.space = y.space) (h : klt (keyO x) (keyO y) = true) : klt x.name y.name = true := by
 unfold klt keyO keyB at h
 rw [strB_toList, strB_toList, h1, h2, bl_app] at h
 unfold klt
 rw [ByteArray.toList_eq, ByteArray.toList_eq]
 exact h
theorem row_to (K : Int) (S : ByteArray) : klt (strB (rowL K S)) (strB (toL K S)) = true := by
 unfold klt rowL toL
 rw [strB_toList, strB_toList, bl_app]
 rfl

/-! ### how many -/
section
variable {κ ν : Type} {lt : κ → κ → Bool}
theorem rank_span (L : Lin lt) {k t0 : κ} (hkt : lt k t0 = true) : ∀ l : List (κ × ν), (rank lt t0 l : Int) - (rank lt k l : Int) = ((span lt k t0 l).length : Int)
 | [] => rfl
 | e :: l => by
  have ih := rank_span L hkt l
  unfold rank span at *
  simp only [List.filter_cons]
  cases h1 : lt e.1 k with
  | true =>
   have h2 := L.tr _ _ _ h1 hkt
   rw [h2]
   simp only [if_true, List.length_cons, Bool.not_true, Bool.false_and, Bool.false_eq_true, if_false]
   omega
  | false =>
   cases h2 : lt e.1 t0 with
   | true =>
    simp only [if_true, List.length_cons, Bool.not_false, Bool.true_and, Bool.false_eq_true, if_false]
    omega
   | false =>
    simp only [Bool.not_false, Bool.true_and, Bool.false_eq_true, if_false]
    omega
theorem span_ins (L : Lin lt) {k t0 a : κ} {v : ν} : ∀ l : List (κ × ν), (span lt k t0 (ins lt a v l)).length = (span lt k t0 l).length + (if (look lt a l).isSome = true then 0 else if ((!lt a k) && lt a t0) = true then 1 else 0)
 | [] => by
  unfold ins look span
  simp only [List.filter_cons, List.filter_nil]
  split <;> simp_all
 | e :: l => by
  have ih := span_ins L (k := k) (t0 := t0) (a := a) (v := v) l
  unfold ins look
  unfold span at *
  split
  ·simp only [List.filter_cons, Option.isSome_none, Bool.false_eq_true, if_false]
   split <;> split <;> simp_all <;> omega
  ·split
   ·simp only [List.filter_cons]
    split
    ·simp only [List.length_cons, ih]; omega
    ·exact ih
   ·rename_i h2 h3
    obtain rfl := L.tri a e.1 (by simpa using h2) (by simpa using h3)
    simp only [List.filter_cons, Option.isSome_some, if_true, Nat.add_zero]
    split <;> rfl
theorem span_rem {k t0 a : κ} (l : List (κ × ν)) : (span lt k t0 (rem lt a l)).length ≤ (span lt k t0 l).length := (rem_sub.filter _).length_le
end
theorem cnt_span (M : StM) (K : Int) (S : ByteArray) : cntM M K S = ((span klt (strB (rowL K S)) (strB (toL K S)) M.tab).length : Int) := rank_span klin (row_to K S) M.tab

/-! ### versions -/
def VN (l : List (ByteArray × ObM)) : Prop := l.Pairwise fun x y => x.2.ver ≠ y.2.ver
theorem vn_ins {k : ByteArray} {o : ObM} : ∀ {l : List (ByteArray × ObM)}, VN l → (∀ x ∈ l, x.2.ver < o.ver) → VN (ins klt k o l)
 | [], _, _ => List.pairwise_singleton _ _
 | a :: l, h, hv => by
  have h1 := List.pairwise_cons.1 h
  have ho : ∀ y ∈ a :: l, o.ver ≠ y.2.ver := fun y hy e => absurd (hv y hy) (by omega)
  unfold ins
  split
  ·exact List.pairwise_cons.2 ⟨fun y hy => ho y hy, h⟩
  ·split
   ·refine List.pairwise_cons.2 ⟨fun y hy => ?_, vn_ins h1.2 fun x hx => hv x (by simp [hx])⟩
    rcases ins_mem hy with rfl | hy
    ·exact fun e => ho a (by simp) e.symm
    ·exact h1.1 y hy
   ·exact List.pairwise_cons.2 ⟨fun y hy => ho y (by simp [hy]), h1.2⟩
theorem vn_rem {k : ByteArray} {l : List (ByteArray × ObM)} (h : VN l) : VN (rem klt k l) := List.Pairwise.sublist rem_sub h

/-! ### on a disk whose power stays -/
section
variable {m m' : DM} {A : Nat → List UInt8} {L L' : LM} {M M' : StM} {e : Bool × ObM} {n E p : Nat}
theorem app_live (h : m.Is A) (ha : m.armed = false) (hL : L.On A) (hd : L.dead = false) (t : List UInt8) (ht : t.length ≤ 16384) :
  (L.appE m t = 26 ∧ L.appM m t = m ∧ L.app m t = L) ∨ (L.appE m t = 0 ∧ ∃ B, (L.appM m t).Is B ∧ L.app m t = L.with t ∧ (L.with t).On B ∧ (L.appM m t).armed = false) := by
 rcases room_cases (m := m) hd ht with hr | hr
 ·exact .inr (append_live (h.live ha) hL t hr)
 ·have h26 : L.appE m t = 26 := by
   unfold LM.appE
   rw [if_neg (by omega)]
   exact hr
  exact .inl ⟨h26, app_full L m t h26⟩
theorem cp_live (h : m.Is A) (ha : m.armed = false) (hL : L.On A) (hd : L.dead = false) (t : List UInt8) :
  (L.cpE m t = 26 ∧ L.cpM m t = m ∧ L.cp m t = L) ∨ (L.cpE m t = 0 ∧ ∃ B, (L.cpM m t).Is B ∧ L.cp m t = L.new t ∧ (L.new t).On B ∧ (L.cpM m t).armed = false) := by
 rcases space_cases (m := m) (t := t) hd with hr | hr
 ·exact .inr (compact_live (h.live ha) hL hL.reads.slot t hr)
 ·left
  unfold LM.cpE LM.cpM LM.cp
  rw [if_neg (by omega), if_neg (by omega), if_neg (by omega)]
  exact ⟨hr, rfl, rfl⟩
theorem chg_live (h : m.Is A) (ha : m.armed = false) (hL : L.On A) (hd : L.dead = false) (hc : M.Can e) (hC : Chg M L m e n E M' L' m') : E ≠ 25 ∧ m'.armed = false := by
 have hl : (evO e).length ≤ 16384 := Kv (evO_len hc.ok hc.most) (by omega)
 rcases hC with ⟨_, rfl, rfl, eM, eL, em⟩ | ⟨_, ⟨h0, rfl, rfl, eM, eL, em⟩ | ⟨h0, h26, rfl, rfl, eM, eL, em⟩ | ⟨h26, hC⟩⟩
 ·rw [em]; exact ⟨by decide, ha⟩
 ·rcases app_live h ha hL hd (evO e) hl with ⟨h1, h2, h3⟩ | ⟨h1, B, b1, b2, b3, b4⟩
  ·omega
  ·rw [em]; exact ⟨by decide, b4⟩
 ·rcases app_live h ha hL hd (evO e) hl with ⟨h1, h2, h3⟩ | ⟨h1, B, b1, b2, b3, b4⟩
  ·omega
  ·omega
 ·rcases hC with ⟨hne, rfl, rfl, eM, eL, em⟩ | ⟨h0, L1, m1, rfl, rfl, hC⟩
  ·rcases cp_live h ha hL hd (snapT M.rev M.tab) with ⟨h1, h2, h3⟩ | ⟨h1, B, b1, b2, b3, b4⟩
   ·rw [em, h2]; exact ⟨by omega, ha⟩
   ·omega
  ·rcases cp_live h ha hL hd (snapT M.rev M.tab) with ⟨h1, h2, h3⟩ | ⟨h1, B, b1, b2, b3, b4⟩
   ·omega
   ·rw [b2] at hC
    have hd2 : (L.new (snapT M.rev M.tab)).dead = false := hd
    rcases app_live b1 b4 b3 hd2 (evO e) hl with ⟨k1, k2, k3⟩ | ⟨k1, C, c1, c2, c3, c4⟩
    ·rcases hC with ⟨k0, rfl, rfl, eM, eL, em⟩ | ⟨k0, rfl, rfl, eM, eL, em⟩
     ·omega
     ·rw [em, k2]; exact ⟨by omega, b4⟩
    ·rcases hC with ⟨k0, rfl, rfl, eM, eL, em⟩ | ⟨k0, rfl, rfl, eM, eL, em⟩
     ·rw [em]; exact ⟨by decide, c4⟩
     ·omega
/-- What holds behind i calls. -/
structure LInv (m : DM) (L : LM) (M : StM) (i : Nat) : Prop where
 pi : ∃ T, T ≤ i ∧ PInv m L M T
 arm : m.armed = false
 vn : VN M.tab
 cnt : ∀ (K : Nat) (S : ByteArray), K ≤ 7 → No47 S → cntM M (K : Int) S ≤ 32
theorem cnt_tab (K : Int) (S : ByteArray) (h : M'.tab = M.tab) : cntM M' K S = cntM M K S := by unfold cntM; rw [h]
theorem vn_app (h : VN M.tab) (ht : ∀ x ∈ M.tab, x.2.ver ≤ M.rev) (hv : e.2.ver = M.rev + 1) : VN (M.app e).tab := by
 unfold StM.app
 split
 ·exact vn_rem h
 ·exact vn_ins h fun x hx => by have := ht x hx; omega
theorem cnt_app (h : ∀ (K : Nat) (S : ByteArray), K ≤ 7 → No47 S → cntM M (K : Int) S ≤ 32) (hc : e.2.Ok) (hq : e.1 = false → (look klt (keyO e.2) M.tab).isSome = false → cntM M (e.2.kind : Int) e.2.space < 32) (K : Nat) (S : ByteArray) (hK : K ≤ 7) (hS : No47 S) : cntM (M.app e) (K : Int) S ≤ 32 := by
 have h0 := h K S hK hS
 rw [cnt_span] at h0 ⊢
 unfold StM.app
 split
 ·have := span_rem (lt := klt) (k := strB (rowL (K : Int) S)) (t0 := strB (toL (K : Int) S)) (a := keyO e.2) M.tab
  show ((span klt _ _ (rem klt (keyO e.2) M.tab)).length : Int) ≤ 32
  omega
 ·rename_i hd
  show ((span klt _ _ (ins klt (keyO e.2) e.2 M.tab)).length : Int) ≤ 32
  rw [span_ins klin]
  split
  ·omega
  ·rename_i hl
   split
   ·rename_i hr
    rw [Bool.and_eq_true] at hr
    obtain ⟨e1, e2⟩ := key_in hc hK hS (by simpa using hr.1) hr.2
    have h3 := hq (by simpa using hd) (by simpa using hl)
    rw [cnt_span, e1, e2] at h3
    omega
   ·omega
theorem LInv.call {i : Nat} (h : LInv m L M i) (hc : p = 0 → M.Can e) (hp : p ≤ 24) (hq : p = 0 → e.1 = false → (look klt (keyO e.2) M.tab).isSome = false → cntM M (e.2.kind : Int) e.2.space < 32) (hP : Puts M L m p e n E M' L' m') : LInv m' L' M' (i + 1) := by
 obtain ⟨T, hT, hI⟩ := h.pi
 have ho := out_of hI hc hp hP
 rcases hP with ⟨h1, h2, h3, h4, h5, h6⟩ | ⟨h1, hC⟩
 ·rw [h4, h5, h6]
  exact ⟨⟨T, by omega, hI⟩, h.arm, h.vn, h.cnt⟩
 ·obtain ⟨A, i1, i2⟩ := hI.isat
  obtain ⟨c1, c2⟩ := chg_live i1 h.arm i2 hI.dead (hc h1) hC
  rcases ho with ⟨o1, o2, o3, o4, o5⟩ | ⟨o1, o2, o3, o4⟩ | ⟨o1, o2⟩
  ·exact ⟨⟨T, by omega, o4⟩, c2, by rw [o5]; exact h.vn, fun K S hK hS => by rw [cnt_tab _ _ o5]; exact h.cnt K S hK hS⟩
  ·have hcan := hc h1
   refine ⟨⟨T + 1, by omega, o3⟩, c2, ?_, fun K S hK hS => ?_⟩
   ·rw [o4]
    exact vn_app h.vn (fun x hx => (hI.tells.ok.tab.each x hx).2.2.2) hcan.ver
   ·rw [cnt_tab _ _ o4]
    exact cnt_app h.cnt hcan.ok (hq h1) K S hK hS
  ·exact absurd o1 c1
theorem LInv.comp {i : Nat} (h : LInv m L M i) : LInv (L.cpM m (snapT M.rev M.tab)) (L.cp m (snapT M.rev M.tab)) (if L.cpE m (snapT M.rev M.tab) = 0 then M.fresh else M) (i + 1) := by
 obtain ⟨T, hT, hI⟩ := h.pi
 obtain ⟨A, i1, i2⟩ := hI.isat
 rcases cp_live i1 h.arm i2 hI.dead (snapT M.rev M.tab) with ⟨h1, h2, h3⟩ | ⟨h1, B, b1, b2, b3, b4⟩
 ·rw [h2, h3, if_neg (by omega)]
  exact ⟨⟨T, by omega, hI⟩, h.arm, h.vn, h.cnt⟩
 ·rw [if_pos h1, b2]
  exact ⟨⟨T, by omega, ⟨⟨B, b1, b3⟩, hI.dead, hI.tells.fresh, hI.rev, hI.tab⟩⟩, b4, h.vn, h.cnt⟩
theorem LInv.mono {i j : Nat} (h : LInv m L M i) (hij : i ≤ j) : LInv m L M j := by
 obtain ⟨T, hT, hI⟩ := h.pi
 exact ⟨⟨T, by omega, hI⟩, h.arm, h.vn, h.cnt⟩
theorem LInv.cre {i : Nat} {v : OV} {data : List UInt8} (h : LInv m L M i) (hi : i ≤ 1000) (hd : v.n = data.length) (hP : Puts M L m (creE M v) (false, newO M v data) n E M' L' m') : LInv m' L' M' (i + 1) := by
 obtain ⟨T, hT, hI⟩ := h.pi
 have hr : M.rev < 1099511627776 := by rw [hI.rev]; omega
 refine h.call (fun h0 => (newO_can (creE_zero h0) hd hr).1) (creE_le M v) (fun h0 _ _ => ?_) hP
 have hk := (newO_can (M := M) (data := data) (creE_zero h0) hd hr).2
 show cntM M ((newO M v data).kind : Int) v.space < 32
 rw [← hk]
 unfold creE at h0
 rw [if_pos (creE_zero (M := M) (v := v) (by unfold creE; exact h0))] at h0
 split at h0
 ·cases h0
 ·split at h0
  ·cases h0
  ·by_cases hq : (if v.kind = 1 then (8 : Int) else 32) ≤ cntM M v.kind v.space
   ·rw [if_pos hq] at h0; cases h0
   ·split at hq
    ·omega
    ·omega
theorem LInv.upd {i : Nat} {v : OV} {data : List UInt8} (h : LInv m L M i) (hi : i ≤ 1000) (hd : v.n = data.length) (hP : Puts M L m (updE M v) (false, newO M v data) n E M' L' m') : LInv m' L' M' (i + 1) := by
 obtain ⟨T, hT, hI⟩ := h.pi
 have hr : M.rev < 1099511627776 := by rw [hI.rev]; omega
 refine h.call (fun h0 => (newO_can (updE_zero h0) hd hr).1) (updE_le M v) (fun h0 _ hl => ?_) hP
 have hk := (newO_can (M := M) (data := data) (updE_zero h0) hd hr).2
 have hcur : curE M v = 0 := by
  have ha := updE_zero h0
  unfold updE at h0
  rw [if_pos ha] at h0
  exact h0
 have hky : keyO (newO M v data) = keyB v.kind v.space v.name := by
  unfold keyO
  rw [← hk]
  rfl
 have hl2 : (look klt (keyB v.kind v.space v.name) M.tab).isSome = false := by rw [← hky]; exact hl
 unfold curE getM at hcur
 cases hx : look klt (keyB v.kind v.space v.name) M.tab with
 | none => rw [hx] at hcur; cases hcur
 | some o => rw [hx] at hl2; cases hl2
theorem LInv.del {i : Nat} {v : OV} (h : LInv m L M i) (hi : i ≤ 1000) (hP : Puts M L m (delE M v) (true, newO M v []) n E M' L' m') : LInv m' L' M' (i + 1) := by
 obtain ⟨T, hT, hI⟩ := h.pi
 have hr : M.rev < 1099511627776 := by rw [hI.rev]; omega
 exact h.call (fun h0 => (newO_del (delE_zero h0).1 (delE_zero h0).2 hr).1) (delE_le M v) (fun _ hd _ => by cases hd) hP
end
end Go.Proofs.YtfmagnpmjlppiaaGreatDoor

/- Sets of numbers as maps, in memory. -/
namespace Go.Proofs.YtfmagnpmjlppiaaGreatDoor
open Go.RowKit Go.Instr SO

def kvOf (e : MapEntry) : Value × Value := (e.key, e.val)
/-- Block b is a map that holds the numbers l, in the order of their making. -/
def IM (w : World) (b : Nat) (l : List Int) : Prop := ∃ es clock, w.heap[b]? = some (.map es clock) ∧ es.toList.map kvOf = l.map fun k => (.int .i64 k, .bool true)
theorem IM.below {w w' : World} {b : Nat} {l : List Int} (h : IM w b l) (hb : Below w.heap.size w w') : IM w' b l := by
 obtain ⟨es, c, h1, h2⟩ := h
 exact ⟨es, c, (hb.block b (Cz h1)).trans h1, h2⟩
theorem findNow_i (k : Int) : ∀ (es : List MapEntry) (l : List Int) (i : Nat), es.map kvOf = l.map (fun k => (.int .i64 k, .bool true)) → k ∉ l → findNow (.int .i64) (.int .i64 k) es i = some none := by
 intro es
 induction es with
 | nil => intro l i _ _; rfl
 | cons e es ih =>
  intro l i h hn
  cases l with
  | nil => cases h
  | cons x l =>
   injection h with h1 h2
   injection h1 with h3 h4
   have h3 : e.key = .int .i64 x := h3
   unfold findNow
   rw [h3]
   have hk : (k == x) = false := beq_eq_false_iff_ne.2 fun e => hn (by rw [e]; simp)
   show (match some (k == x) with | some true => _ | some false => _ | none => _) = _
   rw [hk]
   exact ih l (i + 1) h2 fun hm => hn (by simp [hm])
section
variable {P : Program} {w : World} {mty kt et : TypeId}
theorem run_look_i {b : Nat} {l : List Int} (hm : P.underlying mty = some (.map kt et)) (hk : P.underlying kt = some (.int .i64)) (h : IM w b l) {z : Value} (hz : ∀ W, (zeroValue et).run P W = .ok z W) (k : Int) (hn : k ∉ l) :
  (Instr.lookup mty (.map (some b)) (.int .i64 k) false).run P w = .ok z w := by
 obtain ⟨es, clock, hb, he⟩ := h
 have hf := findNow_i k es.toList l 0 he hn
 have hc : (Instr.checkKey es.isEmpty 10000 kt (.int .i64 k)).run P w = .ok () w := MapKept.run_checkKey (k := .int .i64 k) hk (by simp [MapKept.IsKey]) _ 9999
 simp [Instr.lookup, run_underlying hm, MapKept.run_getObj_map hb, hc, MapKept.run_findKey hk hf, hz, Result.andThen]
theorem run_put_i {b : Nat} {l : List Int} (hm : P.underlying mty = some (.map kt et)) (hk : P.underlying kt = some (.int .i64)) (h : IM w b l) (k : Int) (hn : k ∉ l) :
  ∃ w', (Instr.mapUpdate mty (.map (some b)) (.int .i64 k) (.bool true)).run P w = .ok () w' ∧ IM w' b (l ++ [k]) ∧ Fr (fun i => i = b) w w' := by
 obtain ⟨es, clock, hb, he⟩ := h
 have hf := findNow_i k es.toList l 0 he hn
 have hc : (Instr.checkKey false 10000 kt (.int .i64 k)).run P w = .ok () w := MapKept.run_checkKey (k := .int .i64 k) hk (by simp [MapKept.IsKey]) _ 9999
 have hlt := (Cz hb)
 refine ⟨{ w with heap := w.heap.setIfInBounds b (.map (es.push { key := .int .i64 k, val := .bool true, born := clock }) (clock + 1)) }, ?_, ⟨es.push { key := .int .i64 k, val := .bool true, born := clock }, clock + 1, by simp [hlt], by simp [he, kvOf]⟩, ⟨rfl, rfl, rfl, by simp, fun i hi hne => ?_⟩⟩
 ·simp [Instr.mapUpdate, run_underlying hm, MapKept.run_getObj_map hb, hc, MapKept.run_findKey hk hf, MapKept.run_setObj_map _ hb, Result.andThen]
 ·show (w.heap.setIfInBounds b _)[i]? = _
  rw [Array.getElem?_setIfInBounds_ne (fun e => hne e.symm)]
end
theorem map_ib : Tryz.prog.underlying 51 = some (.map 3 4) := Tryz.underlying51
theorem zero_bool (W : World) : (zeroValue 4).run Tryz.prog W = .ok (.bool false) W := by kernel_rfl

/-! ### one call each, on a disk whose power stays -/
section
variable {w w' w0 : World} {Q : Nat → Prop} {g gs : Nat} {m : DM} {L : LM} {M : StM} {ea : Nat → Addr} {i : Nat}
theorem LInv.facts (h : LInv m L M i) (hi : i ≤ 40) : m.Ok ∧ L.Ok ∧ m.waits.length ≤ 900 ∧ M.rev < 1099511627776 ∧ M.tab.length ≤ 90 ∧ M.evs.length ≤ 100000 := by
 obtain ⟨T, hT, hI⟩ := h.pi
 obtain ⟨o1, o2, o3⟩ := hI.ok
 have hrv := hI.rev
 have htb := hI.tab
 exact ⟨o1, o2, o3, by omega, by omega, hI.tells.evs_le o2⟩
theorem cre_L (v : OV) (data : List UInt8) (h : SW w0 w Q g m gs L M) (hP : LInv m L M i) (hi : i ≤ 40) (he : Errs w0 ea) (hE : EW w0 ea) (hrb : RB w0 v.A v.n data) (hk : v.kind ≤ 9223372036854775807) (hs : v.space.size ≤ 1000) (hn : v.name.size ≤ 1000) :
  Calls Tryz.prog 12 #[.pointer (some ⟨gs, 0, none⟩), .agg #[.int .i64 v.kind, .string v.space, .string v.name, .int .i64 v.ver, .slice v.A v.n v.c]] w fun e w' => ∃ (x y : Value) (Q' : Nat → Prop) (M' : StM) (L' : LM) (m' : DM), e = .returned (.tuple #[x, y]) ∧ LInv m' L' M' (i + 1) ∧ SW w0 w' Q' g m' gs L' M' := by
 obtain ⟨o1, o2, o3, o4, o5, o6⟩ := hP.facts hi
 refine (Create_any v data h he hE o1 o2 o3 (hrb.keep (Kz h.bel)) hk hs hn o4 o5 o6).mono ?_
 rintro e w' ⟨n, E, M', L', m', rfl, hp, hs2, hf⟩
 exact ⟨_, _, _, M', L', m', rfl, hP.cre (by omega) hrb.1.symm hp, hs2⟩
theorem upd_L (v : OV) (data : List UInt8) (h : SW w0 w Q g m gs L M) (hP : LInv m L M i) (hi : i ≤ 40) (he : Errs w0 ea) (hE : EW w0 ea) (hrb : RB w0 v.A v.n data) (hk : v.kind ≤ 9223372036854775807) (hs : v.space.size ≤ 1000) (hn : v.name.size ≤ 1000) :
  Calls Tryz.prog 14 #[.pointer (some ⟨gs, 0, none⟩), .agg #[.int .i64 v.kind, .string v.space, .string v.name, .int .i64 v.ver, .slice v.A v.n v.c]] w fun e w' => ∃ (x y : Value) (Q' : Nat → Prop) (M' : StM) (L' : LM) (m' : DM), e = .returned (.tuple #[x, y]) ∧ LInv m' L' M' (i + 1) ∧ SW w0 w' Q' g m' gs L' M' := by
 obtain ⟨o1, o2, o3, o4, o5, o6⟩ := hP.facts hi
 refine (Update_any v data h he hE o1 o2 o3 (hrb.keep (Kz h.bel)) hk hs hn o4 o5 o6).mono ?_
 rintro e w' ⟨n, E, M', L', m', rfl, hp, hs2, hf⟩
 exact ⟨_, _, _, M', L', m', rfl, hP.upd (by omega) hrb.1.symm hp, hs2⟩
theorem del_L (v : OV) (h : SW w0 w Q g m gs L M) (hP : LInv m L M i) (hi : i ≤ 40) (he : Errs w0 ea) (hE : EW w0 ea) (hk : v.kind ≤ 9223372036854775807) (hs : v.space.size ≤ 1000) (hn : v.name.size ≤ 1000) :
  Calls Tryz.prog 13 #[.pointer (some ⟨gs, 0, none⟩), .agg #[.int .i64 v.kind, .string v.space, .string v.name, .int .i64 v.ver, .slice v.A v.n v.c]] w fun e w' => ∃ (x y : Value) (Q' : Nat → Prop) (M' : StM) (L' : LM) (m' : DM), e = .returned (.tuple #[x, y]) ∧ LInv m' L' M' (i + 1) ∧ SW w0 w' Q' g m' gs L' M' := by
 obtain ⟨o1, o2, o3, o4, o5, o6⟩ := hP.facts hi
 refine (Delete_any v h he hE o1 o2 o3 hk hs hn o4 o5 o6).mono ?_
 rintro e w' ⟨n, E, M', L', m', rfl, hp, hs2, hf⟩
 exact ⟨_, _, _, M', L', m', rfl, hP.del (by omega) hp, hs2⟩
theorem cmp_L (h : SW w0 w Q g m gs L M) (hP : LInv m L M i) (hi : i ≤ 40) (hE : EW w0 ea) :
  Calls Tryz.prog 19 #[.pointer (some ⟨gs, 0, none⟩)] w fun e w' => ∃ (x : Value) (Q' : Nat → Prop) (M' : StM) (L' : LM) (m' : DM), e = .returned x ∧ LInv m' L' M' (i + 1) ∧ SW w0 w' Q' g m' gs L' M' := by
 obtain ⟨o1, o2, o3, o4, o5, o6⟩ := hP.facts hi
 refine (Compact_st h hE o1 o2 (by omega) o5).mono ?_
 rintro e w' ⟨rfl, hs2, hf⟩
 exact ⟨_, _, _, _, _, rfl, hP.comp, hs2⟩

/-! ### what was seen -/
/-- The numbers are versions of entries of which P holds. -/
def Seen (M : StM) (V : List Int) (P : ByteArray × ObM → Prop) : Prop := ∀ x ∈ V, ∃ e ∈ M.tab, (e.2.ver : Int) = x ∧ P e
theorem Seen.mono {V : List Int} {P P' : ByteArray × ObM → Prop} (h : Seen M V P) (hp : ∀ e, P e → P' e) : Seen M V P' := fun x hx => let ⟨e, h1, h2, h3⟩ := h x hx; ⟨e, h1, h2, hp e h3⟩
theorem vn_inj {l : List (ByteArray × ObM)} (h : VN l) {x y : ByteArray × ObM} (hx : x ∈ l) (hy : y ∈ l) (e : x.2.ver = y.2.ver) : x = y := by
 induction l with
 | nil => cases hx
 | cons a l ih =>
  obtain ⟨h1, h2⟩ := List.pairwise_cons.1 h
  rcases List.mem_cons.1 hx with ex | hx'
  ·rcases List.mem_cons.1 hy with ey | hy'
   ·rw [ex, ey]
   ·exact absurd (by rw [← ex]; exact e) (h1 y hy')
  ·rcases List.mem_cons.1 hy with ey | hy'
   ·exact absurd (by rw [← ey]; exact e.symm) (h1 x hx')
   ·exact ih h2 hx' hy'
theorem Seen.fresh {V : List Int} {P : ByteArray × ObM → Prop} (h : Seen M V P) (hv : VN M.tab) {e : ByteArray × ObM} (he : e ∈ M.tab) (hn : ¬ P e) : (e.2.ver : Int) ∉ V := fun hx => by
 obtain ⟨e', h1, h2, h3⟩ := h _ hx
 have : e' = e := vn_inj hv h1 he (by omega)
 rw [this] at h3
 exact hn h3
/-- The spaces that are asked. -/
def sps : List ByteArray := [⟨#[]⟩, ⟨#[97]⟩, ⟨#[98]⟩, ⟨#[115, 104, 111, 112]⟩]
theorem sps_no47 (p : Nat) (S : ByteArray) (h : sps[p]? = some S) : No47 S ∧ S.size ≤ 1000 := by
 have hm := List.mem_iff_getElem?.2 ⟨p, h⟩
 simp only [sps, List.mem_cons, List.not_mem_nil, or_false] at hm
 rcases hm with rfl | rfl | rfl | rfl
 all_goals exact ⟨by unfold No47; decide, by decide⟩
theorem sps_inj {p q : Nat} {S : ByteArray} (h : sps[p]? = some S) (h' : sps[q]? = some S) : p = q := by
 have hp : p < 4 := (List.getElem?_eq_some_iff.1 h).1
 have hq : q < 4 := (List.getElem?_eq_some_iff.1 h').1
 have hn : sps.Nodup := by unfold sps; decide
 exact (List.getElem_inj (h₀ := hp) (h₁ := hq) hn).1 (by
  have h1 := (List.getElem?_eq_some_iff.1 h).2
  have h2 := (List.getElem?_eq_some_iff.1 h').2
  exact h1.trans h2.symm)
/-- An entry's place: its kind, its space's place, its place in the row. -/
def Bef (M : StM) (K p j : Nat) (e : ByteArray × ObM) : Prop :=
 e.2.kind < K ∨ (e.2.kind = K ∧ ((∃ q, q < p ∧ sps[q]? = some e.2.space) ∨ ∃ S, sps[p]? = some S ∧ e ∈ (span klt (strB (rowL (K : Int) S)) (strB (toL (K : Int) S)) M.tab).take j))
theorem sel_facts (hM : M.Ok) {K : Nat} {S : ByteArray} (hK : K ≤ 7) (hS : No47 S) {e : ByteArray × ObM} (he : e ∈ span klt (strB (rowL (K : Int) S)) (strB (toL (K : Int) S)) M.tab) :
  e ∈ M.tab ∧ e.2.kind = K ∧ e.2.space = S ∧ e.2.Ok ∧ 1 ≤ e.2.ver ∧ e.2.ver ≤ M.rev ∧ e.1 = keyO e.2 := by
 obtain ⟨h1, h2⟩ := List.mem_filter.1 he
 rw [Bool.and_eq_true] at h2
 obtain ⟨a, b, c, d⟩ := hM.tab.each e h1
 rw [a] at h2
 obtain ⟨e1, e2⟩ := key_in b hK hS (by simpa using h2.1) h2.2
 exact ⟨h1, e1, e2, b, c, d, a⟩
theorem rises_nodup {l : List (ByteArray × ObM)} (h : Rises klt l) : l.Nodup := List.Pairwise.imp (fun {a b} hab e => by rw [e, klin.irr] at hab; cases hab) h
theorem bef_not (hM : M.Ok) {K p j : Nat} {S : ByteArray} (hK : K ≤ 7) (hp : sps[p]? = some S) {e : ByteArray × ObM} (he : (span klt (strB (rowL (K : Int) S)) (strB (toL (K : Int) S)) M.tab)[j]? = some e) : ¬ Bef M K p j e := by
 have hm := List.mem_iff_getElem?.2 ⟨j, he⟩
 obtain ⟨-, e1, e2, -⟩ := sel_facts hM hK (sps_no47 p S hp).1 hm
 rintro (h | ⟨-, ⟨q, hq, hqs⟩ | ⟨S', hS', ht⟩⟩)
 ·omega
 ·rw [e2] at hqs
  have := sps_inj hp hqs
  omega
 ·rw [hp] at hS'
  injection hS' with hS'
  subst hS'
  have hnd : (span klt (strB (rowL (K : Int) S)) (strB (toL (K : Int) S)) M.tab).Nodup := (rises_nodup hM.tab.ris).sublist List.filter_sublist
  obtain ⟨i, hi⟩ := List.mem_iff_getElem?.1 ht
  have hij : i < j := by
   have := (List.getElem?_eq_some_iff.1 hi).1
   rw [List.length_take] at this
   omega
  rw [List.getElem?_take_of_lt hij] at hi
  have h1 := (List.getElem?_eq_some_iff.1 hi)
  have h2 := (List.getElem?_eq_some_iff.1 he)
  have := (List.getElem_inj (h₀ := h1.1) (h₁ := h2.1) hnd).1 (h1.2.trans h2.2.symm)
  omega
theorem bef_next {K p j : Nat} {S : ByteArray} (hp : sps[p]? = some S) {x : ByteArray × ObM} (hx : (span klt (strB (rowL (K : Int) S)) (strB (toL (K : Int) S)) M.tab)[j]? = some x) (e : ByteArray × ObM) (h : Bef M K p j e ∨ e = x) (hk : x.2.kind = K) : Bef M K p (j + 1) e := by
 have hlt := (List.getElem?_eq_some_iff.1 hx).1
 have hxe := (List.getElem?_eq_some_iff.1 hx).2
 have ht := List.take_succ_eq_append_getElem (l := span klt (strB (rowL (K : Int) S)) (strB (toL (K : Int) S)) M.tab) hlt
 rcases h with (h | ⟨h0, h | ⟨S', hS', h⟩⟩) | rfl
 ·exact .inl h
 ·exact .inr ⟨h0, .inl h⟩
 ·rw [hp] at hS'
  injection hS' with hS'
  subst hS'
  exact .inr ⟨h0, .inr ⟨S, hp, by rw [ht]; exact List.mem_append.2 (.inl h)⟩⟩
 ·exact .inr ⟨hk, .inr ⟨S, hp, by rw [ht, hxe]; exact List.mem_append.2 (.inr (by simp))⟩⟩
theorem bef_row (hM : M.Ok) {K p j : Nat} {S : ByteArray} (hK : K ≤ 7) (hp : sps[p]? = some S) (e : ByteArray × ObM) (h : Bef M K p j e) : Bef M K (p + 1) 0 e := by
 rcases h with h | ⟨h0, ⟨q, hq, hqs⟩ | ⟨S', hS', h⟩⟩
 ·exact .inl h
 ·exact .inr ⟨h0, .inl ⟨q, by omega, hqs⟩⟩
 ·rw [hp] at hS'
  injection hS' with hS'
  subst hS'
  obtain ⟨-, -, e2, -⟩ := sel_facts hM hK (sps_no47 p S hp).1 (List.mem_of_mem_take h)
  exact .inr ⟨h0, .inl ⟨p, by omega, by rw [e2]; exact hp⟩⟩
theorem bef_kind {K p j : Nat} (e : ByteArray × ObM) (h : Bef M K p j e) : Bef M (K + 1) 0 0 e := by
 rcases h with h | ⟨h0, _⟩
 ·exact .inl (by omega)
 ·exact .inl (by omega)
/-- One object of a row, held against what was listed ahead of it. -/
theorem row_one (hM : M.Ok) (hv : VN M.tab) {K p j : Nat} {S : ByteArray} (hK : K ≤ 7) (hp : sps[p]? = some S) {x : ByteArray × ObM} (hx : (span klt (strB (rowL (K : Int) S)) (strB (toL (K : Int) S)) M.tab)[j]? = some x) {V : List Int} (hs : Seen M V (Bef M K p j)) {last : ByteArray} (hlast : (j = 0 ∧ last = ⟨#[]⟩) ∨ ∃ y, 0 < j ∧ (span klt (strB (rowL (K : Int) S)) (strB (toL (K : Int) S)) M.tab)[j - 1]? = some y ∧ last = y.2.name) :
  x.2.kind = K ∧ x.2.space = S ∧ klt last x.2.name = true ∧ (x.2.ver : Int) ∉ V ∧ 1 ≤ x.2.ver ∧ x.2.ver ≤ M.rev ∧ x.2.Ok ∧ Seen M (V ++ [(x.2.ver : Int)]) (Bef M K p (j + 1)) := by
 have hno := (sps_no47 p S hp).1
 obtain ⟨f1, f2, f3, f4, f5, f6, f7⟩ := sel_facts hM hK hno (List.mem_iff_getElem?.2 ⟨j, hx⟩)
 refine ⟨f2, f3, ?_, hs.fresh hv f1 (bef_not hM hK hp hx), f5, f6, f4, ?_⟩
 ·rcases hlast with ⟨-, rfl⟩ | ⟨y, h0, hy, rfl⟩
  ·have := f4.parts
   unfold klt
   rw [ByteArray.toList_eq, ByteArray.toList_eq]
   cases hd : x.2.name.data.toList with
   | nil =>
    have h2 := size_data x.2.name
    rw [hd] at h2
    simp at h2
    omega
   | cons a b => rfl
  ·obtain ⟨g1, g2, g3, g4, -, -, g7⟩ := sel_facts hM hK hno (List.mem_iff_getElem?.2 ⟨j - 1, hy⟩)
   refine names_rise (g2.trans f2.symm) (g3.trans f3.symm) ?_
   rw [← g7, ← f7]
   have hr : Rises klt (span klt (strB (rowL (K : Int) S)) (strB (toL (K : Int) S)) M.tab) := hM.tab.ris.sublist List.filter_sublist
   have h1 := (List.getElem?_eq_some_iff.1 hy)
   have h2 := (List.getElem?_eq_some_iff.1 hx)
   have := List.pairwise_iff_getElem.1 hr (j - 1) j h1.1 h2.1 (by omega)
   rw [h1.2, h2.2] at this
   exact this
 ·intro z hz
  rcases List.mem_append.1 hz with hz | hz
  ·obtain ⟨e, e1, e2, e3⟩ := hs z hz
   exact ⟨e, e1, e2, bef_next hp hx e (.inl e3) f2⟩
  ·rw [List.mem_singleton] at hz
   exact ⟨x, f1, hz.symm, bef_next hp hx x (.inr rfl) f2⟩
end
theorem sps_at (p : Nat) (h : p < 4) : ∃ S, sps[p]? = some S := ⟨_, List.getElem?_eq_getElem (l := sps) h⟩
theorem sps_cell {w : World} {b p : Nat} {S : ByteArray} (h : w.heap[b]? = some (.cells #[.string ⟨#[]⟩, .string ⟨#[97]⟩, .string ⟨#[98]⟩, .string ⟨#[115, 104, 111, 112]⟩] 9 (0, 0))) (hp : sps[p]? = some S) : w.cell? ⟨b, p, none⟩ = some (.string S) := by
 rw [cell_of_row _ _ p _ _ _ h]
 have hlt : p < 4 := (List.getElem?_eq_some_iff.1 hp).1
 match p, hlt, hp with
 | 0, _, hp => injection hp with hp; rw [← hp]; rfl
 | 1, _, hp => injection hp with hp; rw [← hp]; rfl
 | 2, _, hp => injection hp with hp; rw [← hp]; rfl
 | 3, _, hp => injection hp with hp; rw [← hp]; rfl
theorem im_ne {w : World} {b k : Nat} {l : List Int} {cs : Array Value} {T : TypeId} (h : IM w b l) (hk : w.heap[k]? = some (.cells cs T (0, 0))) : k ≠ b := fun e => by
 obtain ⟨es, c, h1, -⟩ := h
 rw [e, h1] at hk
 cases hk
theorem list_cells {wl wj : World} {base n c j Bm : Nat} {Al : Option Addr} {os : List OV} {v : OV} {V : List Int} (h : OL wl base (.slice Al n c) os) (hv : os[j]? = some v) (hf : Fr (fun k => k = Bm) wl wj) (hm : IM wl Bm V) :
 ∃ lb lo, Al = some ⟨lb, lo, none⟩ ∧ wj.cell? ⟨lb, lo + j * 5, none⟩ = some (.int .i64 v.kind) ∧ wj.cell? ⟨lb, lo + j * 5 + 1, none⟩ = some (.string v.space) ∧ wj.cell? ⟨lb, lo + j * 5 + 2, none⟩ = some (.string v.name) ∧ wj.cell? ⟨lb, lo + j * 5 + 3, none⟩ = some (.int .i64 v.ver) ∧ wj.cell? ⟨lb, lo + j * 5 + 4, none⟩ = some (.slice v.A v.n v.c) := by
 have h2 : OL wj base (.slice Al n c) os := OwnS.kept h hf fun k hk e => by
  obtain ⟨cur, hc⟩ := own_type h hk
  exact im_ne hm hc e
 have hl : 0 < (ocells os).length := by
  have h3 := h.1
  have h4 := (List.getElem?_eq_some_iff.1 hv).1
  omega
 obtain ⟨lb, lo, cap, hA, -, -, hc⟩ := h2.cells hl
 injection hA with hA _ _
 have hg : ∀ i x, (ocell v)[i]? = some x → wj.cell? ⟨lb, lo + (j * 5 + i), none⟩ = some x := fun i x hx => hc _ x (flat_get ocell 5 (fun _ => rfl) os j v i x hv hx)
 have e0 : ∀ i, lo + (j * 5 + i) = lo + j * 5 + i := fun i => by omega
 refine ⟨lb, lo, hA, ?_, ?_, ?_, ?_, ?_⟩
 ·have := hg 0 _ rfl; rw [e0] at this; exact this
 ·have := hg 1 _ rfl; rw [e0] at this; exact this
 ·have := hg 2 _ rfl; rw [e0] at this; exact this
 ·have := hg 3 _ rfl; rw [e0] at this; exact this
 ·have := hg 4 _ rfl; rw [e0] at this; exact this
theorem evs_cells {we : World} {base n c j : Nat} {Az : Option Addr} {zs : List (Bool × (OV × ObM))} {y : Bool × (OV × ObM)} (h : EL we base (.slice Az n c) zs) (hy : zs[j]? = some y) :
 ∃ lg lo, Az = some ⟨lg, lo, none⟩ ∧ we.cell? ⟨lg, lo + j * 7, none⟩ = some (.int .i64 (y.2.2.ver : Int)) ∧ we.cell? ⟨lg, lo + j * 7 + 1, none⟩ = some (.bool y.1) ∧ we.cell? ⟨lg, lo + j * 7 + 2, none⟩ = some (.int .i64 y.2.1.kind) ∧ we.cell? ⟨lg, lo + j * 7 + 3, none⟩ = some (.string y.2.1.space) ∧ we.cell? ⟨lg, lo + j * 7 + 4, none⟩ = some (.string y.2.1.name) ∧ we.cell? ⟨lg, lo + j * 7 + 5, none⟩ = some (.int .i64 y.2.1.ver) ∧ we.cell? ⟨lg, lo + j * 7 + 6, none⟩ = some (.slice y.2.1.A y.2.1.n y.2.1.c) := by
 have hl : 0 < (ecells zs).length := by
  have h3 := h.1
  have h4 := (List.getElem?_eq_some_iff.1 hy).1
  omega
 obtain ⟨lg, lo, cap, hA, -, -, hc⟩ := h.cells hl
 injection hA with hA _ _
 have hg : ∀ i x, ([.int .i64 (y.2.2.ver : Int), .bool y.1, .int .i64 y.2.1.kind, .string y.2.1.space, .string y.2.1.name, .int .i64 y.2.1.ver, sl y.2.1] : List Value)[i]? = some x → we.cell? ⟨lg, lo + (j * 7 + i), none⟩ = some x := fun i x hx => hc _ x (flat_get _ 7 (fun _ => rfl) zs j y i x hy hx)
 have e0 : ∀ i, lo + (j * 7 + i) = lo + j * 7 + i := fun i => by omega
 refine ⟨lg, lo, hA, ?_, ?_, ?_, ?_, ?_, ?_, ?_⟩
 ·have := hg 0 _ rfl; rw [e0] at this; exact this
 ·have := hg 1 _ rfl; rw [e0] at this; exact this
 ·have := hg 2 _ rfl; rw [e0] at this; exact this
 ·have := hg 3 _ rfl; rw [e0] at this; exact this
 ·have := hg 4 _ rfl; rw [e0] at this; exact this
 ·have := hg 5 _ rfl; rw [e0] at this; exact this
 ·have := hg 6 _ rfl; rw [e0] at this; exact this
end Go.Proofs.YtfmagnpmjlppiaaGreatDoor
