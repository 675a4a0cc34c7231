/- OrderedPlays: its walk. -/
import Derived.Test.YtgiaifglkecdjaaPlayK0
import Derived.Test.YtgiaifglkecdjaaPlayK1
import Derived.Test.YtgiaifglkecdjaaPlayK2
import Derived.Test.YtgiaifglkecdjaaPlayK3
import Derived.Test.YtgiaifglkecdjaaPlayK4
import Derived.Test.YtgiaifglkecdjaaPlayK5
namespace Go.Proofs.Ytgiaifglkecdjaa
open Go.RowKit
open SI

set_option maxHeartbeats 4000000 in
set_option maxRecDepth 100000 in
theorem play_exit (fr : Act) (n : Nat) (w : World) (Q : Exit → Act → World → Prop) (hfr : IsP fr) (h24 : slotP fr 24 = .int .i64 (n : Int)) (h25 : slotP fr 25 = .int .i64 (n : Int))
    (hQ : ∀ fr' : Act, IsP fr' → slotP fr' 2 = slotP fr 2 → Q (.exit 0) fr' w) : Code.wp Try.prog (lpP Try.f3.body 0) Q fr w := by
  have HQ := Lib.hid hQ
  clear hQ
  unfold IsP at hfr
  generalize slotP fr = f at *
  subst hfr
  unfold PF
  rw [h24, h25]
  conv => arg 2; whnf
  clear h24 h25
  go_wp2
  exact HQ.out _ rfl rfl

set_option maxRecDepth 100000 in
theorem play_loop (fr : Act) (A : Option Addr) (n c g R : Nat) (l : List Act16) (w0 w : World) (Q : Exit → Act → World → Prop) (hfr : IsP fr) (h2 : slotP fr 2 = .bool false) (h3 : slotP fr 3 = .pointer (some ⟨g, 0, none⟩)) (h4 : slotP fr 4 = .pointer (some ⟨R, 0, none⟩))
    (h23 : slotP fr 23 = .slice A n c) (h24 : slotP fr 24 = .int .i64 (n : Int)) (h25 : slotP fr 25 = .int .i64 0)
    (hl : RActs w0 A n l) (hn : n ≤ 80) (hb : ∀ a ∈ l, -9223372036854775808 ≤ a.n ∧ a.n ≤ 9223372036854775807) (ha : TabAt w g .skip []) (hr : RTab w R []) (hBg : w0.heap.size ≤ g) (hBR : w0.heap.size ≤ R) (hB : Below w0.heap.size w0 w)
    (hQ : ∀ (fr' : Act) (w' : World), IsP fr' → slotP fr' 2 = .bool false → Below w0.heap.size w0 w' → Q (.exit 0) fr' w') :
    Code.wp Try.prog (.loop (lpP Try.f3.body 0)) Q fr w := by
  refine wp_loop_ghost (fun N a w' => ∃ (i g : Nat) (s : Code) (L : List (ByteArray × Int)), i + N = n ∧ IsP a ∧ slotP a 2 = .bool false ∧ slotP a 3 = .pointer (some ⟨g, 0, none⟩) ∧ slotP a 4 = .pointer (some ⟨R, 0, none⟩) ∧ slotP a 23 = .slice A n c ∧ slotP a 24 = .int .i64 (n : Int) ∧ slotP a 25 = .int .i64 (i : Int) ∧
    TabAt w' g s L ∧ RTab w' R L ∧ Rises klt L ∧ L.length ≤ i ∧ w0.heap.size ≤ g ∧ Below w0.heap.size w0 w') n ⟨0, g, .skip, [], by omega, hfr, h2, h3, h4, h23, h24, h25, ha, hr, List.Pairwise.nil, Nat.le_refl _, hBg, hB⟩ ?_
  rintro N a w1 ⟨i, g, s, L, hiN, a0, a2, a3, a4, a23, a24, a25, ta, tr, tri, tl, tg, tb⟩
  by_cases hi : i < n
  · obtain ⟨b, o, rfl, hc⟩ := hl.2 (by omega)
    obtain ⟨c0, c1, c2, c3⟩ := hc i hi
    have e : l.getD i default = l[i]'(by rw [hl.1]; exact hi) := by rw [List.getD_eq_getElem?_getD, List.getElem?_eq_getElem (by rw [hl.1]; exact hi)]; rfl
    have hx := hb _ (List.getElem_mem (l := l) (n := i) (by rw [hl.1]; exact hi))
    rw [← e] at hx
    replace c0 := Keeps.of_below tb _ _ c0
    replace c1 := Keeps.of_below tb _ _ c1
    replace c2 := Keeps.of_below tb _ _ c2
    replace c3 := Keeps.of_below tb _ _ c3
    generalize l.getD i default = x at *
    have done : ∀ (fr' : Act) (w' : World) (g' : Nat) (s' : Code) (L' : List (ByteArray × Int)), IsP fr' → slotP fr' 2 = .bool false → slotP fr' 3 = .pointer (some ⟨g', 0, none⟩) → slotP fr' 4 = .pointer (some ⟨R, 0, none⟩) → slotP fr' 23 = .slice (some ⟨b, o, none⟩) n c → slotP fr' 24 = .int .i64 (n : Int) → slotP fr' 25 = .int .i64 ((i + 1 : Nat) : Int) →
        TabAt w' g' s' L' → RTab w' R L' → Rises klt L' → L'.length ≤ L.length + 1 → w0.heap.size ≤ g' → Below w0.heap.size w1 w' →
        Exit.then (fun a' w' => ∃ n', n' < N ∧ ∃ (i g : Nat) (s : Code) (L : List (ByteArray × Int)), i + n' = n ∧ IsP a' ∧ slotP a' 2 = .bool false ∧ slotP a' 3 = .pointer (some ⟨g, 0, none⟩) ∧ slotP a' 4 = .pointer (some ⟨R, 0, none⟩) ∧ slotP a' 23 = .slice (some ⟨b, o, none⟩) n c ∧ slotP a' 24 = .int .i64 (n : Int) ∧ slotP a' 25 = .int .i64 (i : Int) ∧
          TabAt w' g s L ∧ RTab w' R L ∧ Rises klt L ∧ L.length ≤ i ∧ w0.heap.size ≤ g ∧ Below w0.heap.size w0 w') Q .normal fr' w' :=
      fun fr' w' g' s' L' b0 b2 b3 b4 b23 b24 b25 t1 t2 t3 t4 t5 t6 => ⟨N - 1, by omega, i + 1, g', s', L', by omega, b0, b2, b3, b4, b23, b24, b25, t1, t2, t3, by omega, t5, tb.trans t6⟩
    by_cases k0 : x.kind = 0
    · rw [k0] at c0
      exact play0_any a g R b o n c i w0.heap.size s L x.n x.key x.to w1 _ a0 a2 a3 a4 a23 a24 a25 hi hn c0 c1 c2 c3 hx.1 hx.2 ta tr tri (by omega) tg hBR done
    by_cases k1 : x.kind = 1
    · rw [k1] at c0
      exact play1_any a g R b o n c i w0.heap.size s L x.n x.key x.to w1 _ a0 a2 a3 a4 a23 a24 a25 hi hn c0 c1 c2 c3 hx.1 hx.2 ta tr tri (by omega) tg hBR done
    by_cases k2 : x.kind = 2
    · rw [k2] at c0
      exact play2_any a g R b o n c i w0.heap.size s L x.n x.key x.to w1 _ a0 a2 a3 a4 a23 a24 a25 hi hn c0 c1 c2 c3 hx.1 hx.2 ta tr tri (by omega) tg hBR done
    by_cases k3 : x.kind = 3
    · rw [k3] at c0
      exact play3_any a g R b o n c i w0.heap.size s L x.n x.key x.to w1 _ a0 a2 a3 a4 a23 a24 a25 hi hn c0 c1 c2 c3 hx.1 hx.2 ta tr tri (by omega) tg hBR done
    by_cases k4 : x.kind = 4
    · rw [k4] at c0
      exact play4_any a g R b o n c i w0.heap.size s L x.n x.key x.to w1 _ a0 a2 a3 a4 a23 a24 a25 hi hn c0 c1 c2 c3 hx.1 hx.2 ta tr tri (by omega) tg hBR done
    exact play5_any a g R b o n c i w0.heap.size s L x.kind (beq_eq_false_iff_ne.2 k0) (beq_eq_false_iff_ne.2 k1) (beq_eq_false_iff_ne.2 k2) (beq_eq_false_iff_ne.2 k3) (beq_eq_false_iff_ne.2 k4) x.n x.key x.to w1 _ a0 a2 a3 a4 a23 a24 a25 hi hn c0 c1 c2 c3 hx.1 hx.2 ta tr tri (by omega) tg hBR done
  · obtain rfl : i = n := by omega
    exact play_exit a i w1 _ a0 a24 a25 fun fr' b0 b2 => hQ fr' w1 b0 (b2.trans a2) tb

set_option maxHeartbeats 4000000 in
set_option maxRecDepth 100000 in
theorem OrderedPlays_any (A : Option Addr) (n c : Nat) (l : List Act16) (w : World) (hl : RActs w A n l) (hn : n ≤ maxLen) (hb : ∀ a ∈ l, -9223372036854775808 ≤ a.n ∧ a.n ≤ 9223372036854775807) :
    Calls Try.prog 3 #[.slice A n c] w fun e w' => e = .returned (.bool true) ∧ Below w.heap.size w w' := by
  cases hlg : longA l with
  | true =>
    have HG : Hid (∀ W, RActs W A n l → Calls Try.prog 5 #[.slice A n c] W fun e w' => e = .returned (.bool true) ∧ Below W.heap.size W w') := Lib.hid fun W hW => by
      have := long16_any A n c l W hW hn
      rw [hlg] at this
      exact this
    have Hl := Lib.hid (fun (W : World) (k : Keeps w W) => (show RActs W A n l from ⟨hl.1, fun h => let ⟨b, o, e, hc⟩ := hl.2 h; ⟨b, o, e, fun i hi => ⟨k _ _ (hc i hi).1, k _ _ (hc i hi).2.1, k _ _ (hc i hi).2.2.1, k _ _ (hc i hi).2.2.2⟩⟩⟩))
    clear hlg hl
    go_enter Try.func3, Try.ntmps3
    go_wp2_with (first
      | (go_at_call 4; refine (alive16_any _).mono ?_; rintro e w1 ⟨rfl, hb1⟩; replace hb1 := Lib.hid hb1)
      | (go_at_call 5; refine (HG.out w1 (Hl.out w1 (Keeps.of_below hb1.out))).mono ?_; rintro e w2 ⟨rfl, hb2⟩; replace hb2 := Lib.hid hb2))
    go_ret
    exact ⟨rfl, hb1.out.trans (hb2.out.mono hb1.out.size)⟩
  | false =>
    have HG : Hid (∀ W, RActs W A n l → Calls Try.prog 5 #[.slice A n c] W fun e w' => e = .returned (.bool false) ∧ Below W.heap.size W w') := Lib.hid fun W hW => by
      have := long16_any A n c l W hW hn
      rw [hlg] at this
      exact this
    have hn80 : n ≤ 80 := by
      have h0 := hlg
      unfold longA at h0
      rw [Bool.or_eq_false_iff, decide_eq_false_iff_not, hl.1] at h0
      omega
    have Hl := Lib.hid (fun (W : World) (k : Keeps w W) => (show RActs W A n l from ⟨hl.1, fun h => let ⟨b, o, e, hc⟩ := hl.2 h; ⟨b, o, e, fun i hi => ⟨k _ _ (hc i hi).1, k _ _ (hc i hi).2.1, k _ _ (hc i hi).2.2.1, k _ _ (hc i hi).2.2.2⟩⟩⟩))
    have Hb := Lib.hid hb
    clear hlg hl hb
    go_enter Try.func3, Try.ntmps3
    go_wp2_with (first
      | (go_at_call 4; refine (alive16_any _).mono ?_; rintro e w1 ⟨rfl, hb1⟩; replace hb1 := Lib.hid hb1)
      | (go_at_call 5; refine (HG.out w1 (Hl.out w1 (Keeps.of_below hb1.out))).mono ?_; rintro e w2 ⟨rfl, hb2⟩; replace hb2 := Lib.hid hb2)
      | (go_at_call 6; refine (New_T w2).mono ?_; rintro e w3 ⟨rfl, ht3, hb3⟩; replace ht3 := Lib.hid ht3; replace hb3 := Lib.hid hb3))
    have B2 := hb1.out.trans (hb2.out.mono hb1.out.size)
    have B3 := B2.trans (hb3.out.mono B2.size)
    have B4 := B3.alloc B3.size (.cells #[.slice none 0 0] 30)
    refine play_loop _ A n c w2.heap.size w3.heap.size l w _ _ rfl rfl rfl rfl rfl rfl rfl (Hl.out w (Keeps.refl w)) hn80 Hb.out (ht3.out.below ((Below.refl _ _).alloc (Nat.le_refl _) _)) ⟨_, heap_alloc_new w3 _, OwnS.nil _ _ _ _⟩ B2.size B3.size B4 ?_
    intro fr1 w9 b0 b2 hb9
    have HB9 := Lib.hid hb9
    clear hb9 B2 B3 B4
    unfold IsP at b0
    generalize slotP fr1 = f1 at *
    subst b0
    unfold PF
    clear b2
    go_wp2
    go_ret
    exact ⟨rfl, HB9.out⟩
end Go.Proofs.Ytgiaifglkecdjaa
