/- Layer 16, tables of int to int: the walk through a tree that hands yield on; what the tables' iterators hand out. -/
import Derived.RangeFuncBox
import Derived.RangeFuncLeaves
import Derived.RangeFuncKeeps
import Derived.RangeFuncBound
import Derived.Shelf.Abstract
import Derived.WalkKit
import Derived.OwnWalkIn
import Derived.TacticsInMore
import Derived.LoopNIn
import Derived.LoopIn
import Derived.Maps.AppendAt
import Derived.Test.YtbpmigcbfbdnjaaTabII
namespace Go.Proofs.Ytbpmigcbfbdnjaa.II
open Go.RowKit Go.Shelf
attribute [local go_sem] Oper.semAt_some

theorem room_of_none {F : Fence} (hd : F.depth = none) (k : Nat) : F.room k := fun d h => by rw [hd] at h; cases h
theorem RoundIn.anyDepth {F : Fence} (hd : F.depth = none) {m m' : Nat} {P : Program} {l : Nat} {f : FuncId} {tmps : Array Value} {assign body : Code} {w : World} {R : Ending → World → Prop}
    (h : RoundIn F m P l f tmps assign body w R) : RoundIn F m' P l f tmps assign body w R := ⟨h.1, fun c cs _ => h.2 c cs (room_of_none hd _)⟩
theorem YieldAt.anyDepth {F : Fence} (hd : F.depth = none) {m : Nat} (m' : Nat) {P : Program} {l : Nat} {args : Array Value} {W : World} {R : Ending → World → Prop} (h : YieldAt F m P l args W R) : YieldAt F m' P l args W R := by
  obtain ⟨fn, tmps, assign, body, hy, hR⟩ := h
  exact ⟨fn, tmps, assign, body, hy, RoundIn.anyDepth hd hR⟩

/-- A node that stands in w: its block, its key and value. -/
abbrev Nd (w : World) : Type := { x : Nat × (Int × Int) // x.1 < w.heap.size ∧ w.cell? ⟨x.1, 0, none⟩ = some (.int .i64 x.2.1) ∧ w.cell? ⟨x.1, 1, none⟩ = some (.int .i64 x.2.2) }

/-- The nodes of a tree, from left to right. -/
def NTr (w : World) : Nat → Option Addr → List (Nd w) → Prop
  | 0, p, ns => p = none ∧ ns = []
  | f + 1, p, ns => (p = none ∧ ns = []) ∨ ∃ (x : Nd w) (pl pr : Option Addr) (nl nr : List (Nd w)), p = some ⟨x.1.1, 0, none⟩ ∧ w.cell? ⟨x.1.1, 2, none⟩ = some (.pointer pl) ∧ w.cell? ⟨x.1.1, 3, none⟩ = some (.pointer pr) ∧ ns = nl ++ x :: nr ∧ NTr w f pl nl ∧ NTr w f pr nr

theorem NTr.of_T {w : World} : ∀ (n : Nat) (s : Code) (p : Option Addr) (l : List (Int × Int)), sz s ≤ n → T w s p l → ∃ ns : List (Nd w), ns.map (fun x => x.1.2) = l ∧ NTr w n p ns := by
  intro n
  induction n with
  | zero =>
    intro s p l hn a
    rcases Tr.open a with ⟨rfl, rfl, rfl⟩ | ⟨b, k, v, pl, pr, ll, lr, sl, sr, _, _, _, rfl, _, _⟩
    · exact ⟨[], rfl, rfl, rfl⟩
    · simp [sz] at hn
  | succ n ih =>
    intro s p l hn a
    rcases Tr.open a with ⟨rfl, rfl, rfl⟩ | ⟨b, k, v, pl, pr, ll, lr, sl, sr, rfl, hn', rfl, rfl, al, ar⟩
    · exact ⟨[], rfl, .inl ⟨rfl, rfl⟩⟩
    · simp only [sz] at hn
      obtain ⟨nl, e1, t1⟩ := ih _ _ _ (by omega) al
      obtain ⟨nr, e2, t2⟩ := ih _ _ _ (by omega) ar
      obtain ⟨c0, c1, c2, c3, -, -⟩ := NP.cells hn'
      exact ⟨nl ++ ⟨(b, (k, v)), (Array.getElem?_eq_some_iff.1 hn').1, c0, c1⟩ :: nr, by simp [e1, e2], .inr ⟨⟨(b, (k, v)), (Array.getElem?_eq_some_iff.1 hn').1, c0, c1⟩, pl, pr, nl, nr, rfl, c2, c3, rfl, t1, t2⟩⟩

set_option maxRecDepth 100000 in
set_option maxHeartbeats 4000000 in
theorem walkIn (F : Fence) (hw : Hid (F = Fence.wide)) (hd : F.depth = none) (hF : F.fn 60) (hro : F.round = none) (w : World) (l N : Nat) (J Jx : List (Nd w) → World → Prop)
    (hY : ∀ m pre x W, J pre W → pre.length < N → YieldAt F m Try.prog l #[.pointer (some ⟨x.1.1, 0, none⟩)] W fun e W' =>
      (e = .returned (.bool true) ∧ J (pre ++ [x]) W' ∧ Below w.heap.size W W') ∨ (e = .returned (.bool false) ∧ Jx (pre ++ [x]) W')) :
    ∀ (f n : Nat) (p : Option Addr) (ns pre : List (Nd w)) (W : World), NTr w f p ns → Below w.heap.size w W → J pre W → pre.length + ns.length ≤ N →
      CallsIn F n Try.prog 60 #[.pointer p, .func (.yield l) #[] #[]] W fun e W' =>
        (e = .returned (.bool true) ∧ J (pre ++ ns) W' ∧ Below w.heap.size W W') ∨ (e = .returned (.bool false) ∧ ∃ q, q <+: ns ∧ Jx (pre ++ q) W') := by
  have hnil : ∀ (n : Nat) (pre : List (Nd w)) (W : World), J pre W → CallsIn F n Try.prog 60 #[.pointer none, .func (.yield l) #[] #[]] W fun e W' =>
        (e = .returned (.bool true) ∧ J (pre ++ []) W' ∧ Below w.heap.size W W') ∨ (e = .returned (.bool false) ∧ ∃ q, q <+: ([] : List (Nd w)) ∧ Jx (pre ++ q) W') := by
    intro n pre W hJ
    have hw' := hw.out
    subst hw'
    refine callsIn_wide.2 ?_
    go_enter Try.func60, Try.ntmps60
    go_wp2
    go_ret
    exact .inl ⟨rfl, by simpa using hJ, Below.refl _ _⟩
  intro f
  induction f with
  | zero =>
    rintro n p ns pre W ⟨rfl, rfl⟩ _ hJ _
    exact hnil n pre W hJ
  | succ f ih =>
    rintro n p ns pre W (⟨rfl, rfl⟩ | ⟨x, pl, pr, nl, nr, rfl, c2, c3, rfl, tl, tr⟩) hB hJ hN
    · exact hnil n pre W hJ
    clear hnil
    have hb := x.2.1
    have hdd : ∀ k : Nat, (F.depth.isSome = true → 1 ≤ k) := fun k h => by rw [hd] at h; cases h
    simp only [List.length_append, List.length_cons] at hN
    have c2' := (hB.cell (p := ⟨x.1.1, 2, none⟩) hb).trans c2
    have hy2 : ∀ W1, J (pre ++ nl) W1 → Below w.heap.size W W1 → YieldAt F (n - 1) Try.prog l #[.pointer (some ⟨x.1.1, 0, none⟩)] W1 fun e W2 =>
        (e = .returned (.bool true) ∧ J (pre ++ nl ++ [x]) W2 ∧ Below w.heap.size W W2 ∧ W2.cell? ⟨x.1.1, 3, none⟩ = some (.pointer pr)) ∨ (e = .returned (.bool false) ∧ Jx (pre ++ nl ++ [x]) W2) := fun W1 hJ1 hb1 =>
      YieldAt.mono (hY (n - 1) _ x W1 hJ1 (by simp; omega)) fun e W2 h => h.elim
        (fun ⟨he, hj, hb2⟩ => .inl ⟨he, hj, hb1.trans hb2, (((hB.trans hb1).trans hb2).cell (p := ⟨x.1.1, 3, none⟩) hb).trans c3⟩) .inr
    have ih1 := (ih (n - 1) pl nl pre W tl hB hJ (by omega)).mono (R' := fun e W1 =>
        (e = .returned (.bool true) ∧ YieldAt F (n - 1) Try.prog l #[.pointer (some ⟨x.1.1, 0, none⟩)] W1 fun e W2 =>
          (e = .returned (.bool true) ∧ J (pre ++ nl ++ [x]) W2 ∧ Below w.heap.size W W2 ∧ W2.cell? ⟨x.1.1, 3, none⟩ = some (.pointer pr)) ∨ (e = .returned (.bool false) ∧ Jx (pre ++ nl ++ [x]) W2)) ∨
        (e = .returned (.bool false) ∧ ∃ q, q <+: nl ∧ Jx (pre ++ q) W1))
      (fun e W1 h => h.elim (fun ⟨he, hj, hb1⟩ => .inl ⟨he, hy2 W1 hj hb1⟩) .inr)
    have ihr := fun (W2 : World) (hJ2 : J (pre ++ nl ++ [x]) W2) (hb2 : Below w.heap.size W W2) => ih (n - 1) pr nr (pre ++ nl ++ [x]) W2 tr (hB.trans hb2) hJ2 (by simp; omega)
    clear hy2 ih
    refine callsIn_of_wp Try.func60 rfl hF ?_ hro
    simp only [Try.ntmps60, List.size_toArray, List.length_cons, List.length_nil, Nat.reduceAdd, Nat.reduceSub, Array.replicate_succ, Array.replicate_zero, List.push_toArray, List.append_toArray, List.nil_append, List.cons_append]
    gi_wp2_with (first
      | ((try refine ⟨hdd _, ?_⟩); gi_at_call 60; refine ih1.mono ?_; clear ih1; rintro e W1 (⟨rfl, fn, tmps, assign, body, hy, hR⟩ | ⟨rfl, q, hq, hx1⟩))
      | ((try refine ⟨hdd _, ?_⟩); refine hR.mono ?_; clear hR; rintro e W2 (⟨rfl, hJ2, hb2, c3'⟩ | ⟨rfl, hx2⟩))
      | ((try refine ⟨hdd _, ?_⟩); gi_at_call 60; refine (ihr _ hJ2 hb2).mono ?_; clear ihr; rintro e W3 (⟨rfl, hJ3, hb3⟩ | ⟨rfl, q, hq, hx3⟩)))
    · go_ret
      exact .inl ⟨rfl, by simpa [List.append_assoc] using hJ3, hb2.trans hb3⟩
    · go_ret
      obtain ⟨r, hr'⟩ := hq
      exact .inr ⟨rfl, nl ++ x :: q, ⟨r, by simp [← hr']⟩, by simpa [List.append_assoc] using hx3⟩
    · go_ret
      exact .inr ⟨rfl, nl ++ [x], ⟨nr, by simp⟩, by simpa [List.append_assoc] using hx2⟩
    · refine ⟨fun _ h => (by cases h), ?_⟩
      gi_wp2
      go_ret
      exact .inr ⟨rfl, q, hq.trans (by simp), hx1⟩

set_option maxHeartbeats 1000000 in
theorem all1_in (F : Fence) (hw : Hid (F = Fence.wide)) (hd : F.depth = none) (n : Nat) (h5 : F.fn 59) (h6 : F.fn 60) (hro : F.round = none) (w : World) (l Bt g0 f : Nat) (p0 : Option Addr) (ns : List (Nd w)) (J Jx : List (Nd w) → World → Prop)
    (hY : ∀ pre x W, J pre W → pre.length < ns.length → YieldAt F (n - 1) Try.prog l #[.pointer (some ⟨x.1.1, 0, none⟩)] W fun e W' =>
      (e = .returned (.bool true) ∧ J (pre ++ [x]) W' ∧ Below w.heap.size W W') ∨ (e = .returned (.bool false) ∧ Jx (pre ++ [x]) W'))
    (W : World) (hBt : W.cell? ⟨Bt, 0, none⟩ = some (.pointer (some ⟨g0, 0, none⟩))) (hg0 : W.cell? ⟨g0, 0, none⟩ = some (.pointer p0)) (hT : NTr w f p0 ns) (hB : Below w.heap.size w W) (h0 : J [] W) :
    CallsIn F n Try.prog 59 #[.func (.yield l) #[] #[], .pointer (some ⟨Bt, 0, none⟩)] W fun e W' => (∃ v, e = .returned v) ∧
      ((∃ ys, ys = ns ∧ J ys W') ∨ (∃ pre, pre <+: ns ∧ Jx pre W')) := by
  have hdd : ∀ k : Nat, (F.depth.isSome = true → 1 ≤ k) := fun k h => by rw [hd] at h; cases h
  have hp := walkIn F hw hd h6 hro w l ns.length J Jx (fun m pre x W hj hl => YieldAt.anyDepth hd m (hY pre x W hj hl)) f (n - 1) p0 ns [] W hT hB h0 (by simp)
  clear hY
  refine callsIn_of_wp Try.func59 rfl h5 ?_ hro
  simp only [Try.ntmps59, List.size_toArray, List.length_cons, List.length_nil, Nat.reduceAdd, Nat.reduceSub, Array.replicate_succ, Array.replicate_zero, List.push_toArray, List.append_toArray, List.nil_append, List.cons_append]
  gi_wp2_with ((try refine ⟨hdd _, ?_⟩); gi_at_call 60; refine hp.mono ?_; clear hp; rintro e W1 (⟨rfl, hJ1, _⟩ | ⟨rfl, q, hq, hx⟩))
  · go_end0
    exact ⟨⟨_, rfl⟩, .inl ⟨_, rfl, by simpa using hJ1⟩⟩
  · go_end0
    exact ⟨⟨_, rfl⟩, .inr ⟨q, hq, by simpa using hx⟩⟩

set_option maxHeartbeats 1000000 in
theorem all_in (F : Fence) (n : Nat) (h4 : F.fn 43) (hro : F.round = none) (g0 : Nat) (w : World) :
    CallsIn F n Try.prog 43 #[.pointer (some ⟨g0, 0, none⟩)] w fun e w' => e = .returned (.func (.func 59) #[] #[.pointer (some ⟨w.heap.size, 0, none⟩)]) ∧ w' = w.alloc (.cells #[.pointer (some ⟨g0, 0, none⟩)] 24) := by
  refine callsIn_of_wp Try.func43 rfl h4 ?_ hro
  simp only [Try.ntmps43, List.size_toArray, List.length_cons, List.length_nil, Nat.reduceAdd, Nat.reduceSub, Array.replicate_succ, Array.replicate_zero, List.push_toArray, List.append_toArray, List.nil_append, List.cons_append]
  gi_wp2
  go_ret
  exact ⟨rfl, rfl⟩

/-- t.all() hands out all nodes, in order. -/
theorem all_stops (F : Fence) (hwf : Hid (F = Fence.wide)) (hd : F.depth = none) (n : Nat) (h5 : F.fn 59) (h6 : F.fn 60) (hro : F.round = none) (w : World) (Bt g0 f : Nat) (p0 : Option Addr) (ns : List (Nd w)) (w1 : World) (hw : Below w.heap.size w w1) (hBt : Bt < w1.heap.size)
    (hc : w1.cell? ⟨Bt, 0, none⟩ = some (.pointer (some ⟨g0, 0, none⟩))) (hg : w1.cell? ⟨g0, 0, none⟩ = some (.pointer p0)) (hT : NTr w f p0 ns) :
    SeqStopsK F n Try.prog 59 #[.pointer (some ⟨Bt, 0, none⟩)] (fun x : Nd w => #[Value.pointer (some ⟨x.1.1, 0, none⟩)]) (Below w.heap.size) (fun ys => ys = ns) (fun pre => pre <+: ns) ns.length w1 := fun l J Jx W hW _ _ hY h0 =>
  all1_in F hwf hd n h5 h6 hro w l Bt g0 f p0 ns J Jx hY W ((hW.cell (p := ⟨Bt, 0, none⟩) hBt).trans hc) (Keeps.of_below hW _ _ hg) hT (hw.trans (hW.mono hw.size)) h0
end Go.Proofs.Ytbpmigcbfbdnjaa.II
