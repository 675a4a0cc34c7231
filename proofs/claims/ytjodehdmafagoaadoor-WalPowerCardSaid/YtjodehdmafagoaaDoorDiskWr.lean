/- disk.image.do of a write. -/
import Derived.Test.YtjodehdmafagoaaDoorDiskDo
import Derived.Test.YtjodehdmafagoaaDoorCopyOB
namespace Go.Proofs.YtjodehdmafagoaaDoor
open Go.RowKit

theorem below_drewz {B : Nat} {a w : World} (h : Below B a w) : Below B a w.drew := ⟨h.os, h.tape, h.output, h.size, h.block⟩
theorem fr_cell2 {S : Nat → Prop} {w w' : World} {b o : Nat} {v : Value} (hf : Fr S w w') (hne : ¬ S b) (h : w.cell? ⟨b, o, none⟩ = some v) : w'.cell? ⟨b, o, none⟩ = some v :=
  (hf.cell (World.block_lt_of_cell? w _ h) hne).trans h
theorem ob_some {w : World} {B n c : Nat} {A : Option Addr} {l : List UInt8} (h : OB w B (.slice A n c) l) (hl : l.length = n) (hn : 0 < n) : ∃ g o, A = some ⟨g, o, none⟩ := by
  rcases h.2 with ⟨_, h0⟩ | ⟨g, o, cap, cur, h1, _⟩
  · omega
  · injection h1 with h1 _ _
    exact ⟨g, o, h1⟩
theorem doB_write (l bs : List UInt8) (a pos : Nat) : doB l ⟨a, pos, bs, false⟩ = (padTo l (pos + bs.length)).take pos ++ bs ++ (padTo l (pos + bs.length)).drop (pos + bs.length) := rfl

set_option maxHeartbeats 4000000 in
set_option maxRecDepth 100000 in
theorem do_write (g off a pos nb cb : Nat) (cs : Array Value) (A Ab : Option Addr) (n c : Nat) (l bs : List UInt8) (w : World) (hg : w.heap[g]? = some (.cells cs 68 (0, 0))) (ha : a < 3)
    (hc : cs[off + a]? = some (.slice A n c)) (hown : OB w 0 (.slice A n c) l) (hn : l.length = n) (hncap : n ≤ c) (hl : l.length ≤ 1048576) (hp : pos + nb ≤ 1048576) (hb : RB w Ab nb bs)
    (hap : 0 < nb → ∀ b' o', Ab = some ⟨b', o', none⟩ → (Value.slice A n c).ownBlock ≠ some b') :
    Calls Tryd.prog 41 #[.pointer (some ⟨g, off, none⟩), .agg #[.int .i64 (a : Int), .int .i64 (pos : Int), .slice Ab nb cb, .bool false]] w fun e w' => e = .returned (.tuple #[]) ∧
      ∃ v', w'.heap[g]? = some (.cells (cs.setIfInBounds (off + a) v') 68 (0, 0)) ∧ OB w' 0 v' (doB l ⟨a, pos, bs, false⟩) ∧ (v'.ownBlock = (Value.slice A n c).ownBlock ∨ ∃ k, v'.ownBlock = some k ∧ w.heap.size ≤ k) ∧ Fr (doS g (.slice A n c)) w w' := by
  have Hg := Lib.hid hg
  have Hown := Lib.hid hown
  have Hb := Lib.hid hb
  have hbl := Lib.hid hb.1
  have c0 : w.cell? ⟨g, off + a, none⟩ = some (.slice A n c) := by rw [cell_of_row _ _ _ _ _ _ hg]; exact hc
  have D0 := (Below.refl w.heap.size w).alloc (Nat.le_refl _) (.cells #[.int .i64 (a : Int), .int .i64 (pos : Int), .slice Ab nb cb, .bool false] 73)
  have c0a := Keeps.of_below D0 _ _ c0
  have a0 : (0 : Int) ≤ (a : Int) := by omega
  have a1 : (a : Int) < 3 := by omega
  have hne : ∀ q, (Value.slice A n c).ownBlock = some q → q ≠ g ∧ q < w.heap.size := fun q hq => ⟨fun e => by
    subst e
    rcases Hown.out.2 with ⟨h1, _⟩ | ⟨g', o', cap', cur, h1, _, h3, _⟩
    · rw [h1] at hq; cases hq
    · rw [h1] at hq
      injection hq with hq
      subst hq
      rw [Hg.out] at h3
      injection h3 with h3
      injection h3 with _ h3 _
      exact absurd h3 (by decide), (OB.lt hown q hq).2⟩
  have Hne := Lib.hid hne
  have Hap := Lib.hid hap
  have hgl := Lib.hid ((Array.getElem?_eq_some_iff.1 hg).1)
  clear hg hown hb hne hap
  go_enter Tryd.func41, Tryd.ntmps41
  go_wp2
  go_quiet (fail)
  obtain ⟨w1, hw1⟩ : ∃ W, W = (w.alloc (.cells #[.int .i64 (a : Int), .int .i64 (pos : Int), .slice Ab nb cb, .bool false] 73)).drewN nq := ⟨_, rfl⟩
  have D1 : Below w.heap.size w w1 := by rw [hw1]; exact below_drewN D0 nq
  have hbx : w1.heap[w.heap.size]? = some (.cells #[.int .i64 (a : Int), .int .i64 (pos : Int), .slice Ab nb cb, .bool false] 73) := by rw [hw1]; exact heap_alloc_new w _
  have HS1 : Hid (w1.heap.size = w.heap.size + 1) := Lib.hid (by rw [hw1]; exact (show (w.alloc (.cells #[.int .i64 (a : Int), .int .i64 (pos : Int), .slice Ab nb cb, .bool false] 73)).heap.size = w.heap.size + 1 by simp))
  have b0 : w1.cell? ⟨w.heap.size, 0, none⟩ = some (.int .i64 (a : Int)) := cell_of_row _ _ 0 _ _ _ hbx
  have b1 : w1.cell? ⟨w.heap.size, 1, none⟩ = some (.int .i64 (pos : Int)) := cell_of_row _ _ 1 _ _ _ hbx
  have b2 : w1.cell? ⟨w.heap.size, 2, none⟩ = some (.slice Ab nb cb) := cell_of_row _ _ 2 _ _ _ hbx
  have b3 : w1.cell? ⟨w.heap.size, 3, none⟩ = some (.bool false) := cell_of_row _ _ 3 _ _ _ hbx
  rw [← hw1]
  have HD1 := Lib.hid D1
  have Hbx := Lib.hid hbx
  clear hw1 c0 c0a D0 D1 hbx
  by_cases hgr : n < pos + nb
  · have q1 : decide ((n : Int) < (pos : Int) + (nb : Int)) = true := decide_eq_true (by omega)
    have HOW1 : Hid (OB w1 0 (.slice A n c) l) := Lib.hid (OB.below Hown.out HD1.out)
    have HG1 := Lib.hid ((HD1.out.block g hgl.out).trans Hg.out)
    obtain ⟨N, hN⟩ : ∃ N, N = pos + nb := ⟨_, rfl⟩
    have hN1 : N ≤ pos + nb := by omega
    have hN2 : pos + nb ≤ N := by omega
    have hLN : (l ++ List.replicate (pos + nb - n) 0).length = N := by rw [List.length_append, List.length_replicate, hn]; omega
    have HLN := Lib.hid hLN
    have HNe := Lib.hid hN
    clear hN hLN
    go_wp2_with (at_builtin; refine wpList_append_zeros rfl (.tmp 36) (.tmp 40) rfl HOW1.out rfl (m := pos + nb - n) (congrArg (Value.int .i64) (show (pos : Int) + (nb : Int) - (n : Int) = ((pos + nb - n : Nat) : Int) by omega)) (by omega) (by omega) (Nat.zero_le _) ?_; intro v2 w2 hown2 hgr2 hat2; obtain ⟨A2, c2, hv2, hc2, hm2, -⟩ := hown2.form; rw [HLN.out] at hv2 hc2; subst hv2; have H2 := Lib.hid hown2; have G2 := Lib.hid hgr2; have T2 := Lib.hid hat2; clear hown2 hgr2 hat2)
    have hs1 : Hid (w1.heap.size = w.heap.size + 1) := Lib.hid HS1.out
    have F2 := Lib.hid (Fr.of_grown G2.out)
    have HBX := Lib.hid ((F2.out.block w.heap.size (by have := hs1.out; omega) (fun h => by have := (Hne.out _ h.symm).2; omega)).trans Hbx.out)
    have HOW : Hid (OB w2.drew 0 (.slice A2 N c2) (l ++ List.replicate (pos + nb - n) 0)) := H2
    have HGW := Lib.hid ((F2.out.block g (by have := hs1.out; have := hgl.out; omega) (fun h => (Hne.out _ h.symm).1 rfl)).trans HG1.out)
    have HRB : Hid (RB w2.drew Ab nb bs) := Lib.hid ⟨hbl.out, fun h0 => by
      obtain ⟨b', o', rfl, hcc⟩ := Hb.out.2 h0
      refine ⟨b', o', rfl, fun k hk => ?_⟩
      have h1 := Keeps.of_below HD1.out _ _ (hcc k hk)
      exact fr_cell2 F2.out.drew (fun h => Hap.out h0 b' o' rfl (Eq.symm h)) h1⟩
    have HT2 : Hid (∀ k, (Value.slice A2 N c2).ownBlock = some k → (Value.slice A n c).ownBlock = some k ∨ k = w.heap.size + 1) := Lib.hid (fun k hk => by
      rcases T2.out with h | h
      · exact .inl (h.symm.trans hk)
      · rw [h] at hk
        injection hk with hk
        exact .inr (by rw [← hk]; exact hs1.out))
    have HXN : Hid (¬ (Value.slice A2 N c2).ownBlock = some w.heap.size) := Lib.hid (fun h => by
      rcases HT2.out _ h with h | h
      · have := (Hne.out _ h).2; omega
      · omega)
    have HGN : Hid (¬ (Value.slice A2 N c2).ownBlock = some g) := Lib.hid (fun h => by
      rcases HT2.out _ h with h | h
      · exact (Hne.out _ h).1 rfl
      · have := hgl.out; omega)
    have HAL : Hid ((Value.slice A2 N c2).ownBlock = (Value.slice A n c).ownBlock ∨ ∃ k, (Value.slice A2 N c2).ownBlock = some k ∧ w.heap.size ≤ k) := Lib.hid (by
      rcases T2.out with h | h
      · exact .inl h
      · exact .inr ⟨_, h, by have := hs1.out; omega⟩)
    have HDO : Hid (doB l ⟨a, pos, bs, false⟩ = (l ++ List.replicate (pos + nb - n) 0).take pos ++ bs ++ (l ++ List.replicate (pos + nb - n) 0).drop (pos + nb)) := Lib.hid (by rw [doB_write, hbl.out]; unfold padTo; rw [hn])
    have HFW : Hid (Fr (doS g (.slice A n c)) w w2.drew) := Lib.hid ((((Fr.of_below HD1.out).trans F2.out (fun k _ h => .inr h.symm)).drew))
    have HSub : Hid (∀ k, k < w.heap.size → (Value.slice A2 N c2).ownBlock = some k → doS g (.slice A n c) k) := Lib.hid (fun k hk h => by
      rcases HT2.out _ h with h | h
      · exact .inr h
      · omega)
    rcases Nat.eq_zero_or_pos nb with hz | hz
    · have Hz := Lib.hid hz
      clear hz
      by_cases hcq : c2 = pos
      · have hcp : (c2 = pos) = True := eq_true hcq
        clear hcq
        have e1 : w2.drew.cell? ⟨w.heap.size, 1, none⟩ = some (.int .i64 (pos : Int)) := cell_of_row _ _ 1 _ _ _ HBX.out
        have e2 : w2.drew.cell? ⟨w.heap.size, 2, none⟩ = some (.slice Ab nb cb) := cell_of_row _ _ 2 _ _ _ HBX.out
        have hpN : (pos : Int) ≤ ((N : Nat) : Int) := by omega
        have hp0 : (0 : Int) ≤ (pos : Int) := by omega
        have hNc : ((N : Nat) : Int) ≤ ((c2 : Nat) : Int) := by omega
        skip
        go_region_held3 (fun w' => w'.cell? ⟨w.heap.size, 1, none⟩ = some (.int .i64 (pos : Int)) ∧ w'.cell? ⟨w.heap.size, 2, none⟩ = some (.slice Ab nb cb)) (first | assumption | go_keep)
          (first | ((refine step_copy_ob (w := w2.drew) rfl (.tmp 45) (.tmp 47) (by rfl) (B := 0) (n := N) (c := c2) (pos := pos) (nb := nb) (A := A2) (l := (l ++ List.replicate (pos + nb - n) 0)) HOW.out HLN.out (by omega) (by rfl) (fun h => absurd h (by have := Hz.out; omega)) (by rfl) HRB.out ?_; intro w3 hown3 hf3; have s1 := fr_cell2 hf3 HXN.out e1; have s2 := fr_cell2 hf3 HXN.out e2; have H3 := Lib.hid hown3; have F3 := Lib.hid hf3; clear hown3 hf3)))
        go_wp2
        have HG3 := Lib.hid ((F3.out.block g (Array.getElem?_eq_some_iff.1 HGW.out).1 HGN.out).trans HGW.out)
        have HB3 := Lib.hid ((F3.out.block w.heap.size (Array.getElem?_eq_some_iff.1 HBX.out).1 HXN.out).trans HBX.out)
        have k0 : w3.cell? ⟨w.heap.size, 0, none⟩ = some (.int .i64 (a : Int)) := cell_of_row _ _ 0 _ _ _ HB3.out
        have k1 : w3.frozen? ⟨g, off + a, none⟩ = false := frozen_of_row _ _ _ _ _ HG3.out
        have k2 : w3.cell? ⟨g, off + a, none⟩ = some (.slice A n c) := by rw [cell_of_row _ _ _ _ _ _ HG3.out]; exact hc
        go_still_tail 6, (by kernel_rfl)
        change wpList _ _ _ _ _ w3.drew
        go_wp2
        refine bodyPost_end (results_none rfl _ _ _) rfl ⟨rfl, _, heap_setCell_same _ _ _ _ _ _ HG3.out, ?_, HAL.out, ?_⟩
        · rw [HDO.out]
          exact OB.keepB H3.out fun k hk => Below.heap_setCell w3 ⟨g, off + a, none⟩ _ k (fun e => HGN.out (by rw [← show k = g from e]; exact hk))
        · exact ((HFW.out.trans F3.out (fun k hk h => HSub.out k hk h)).setCell (p := ⟨g, off + a, none⟩) (fun _ => .inl rfl) _).drew
      · have hcp : (c2 = pos) = False := eq_false hcq
        clear hcq
        have e1 : w2.drew.cell? ⟨w.heap.size, 1, none⟩ = some (.int .i64 (pos : Int)) := cell_of_row _ _ 1 _ _ _ HBX.out
        have e2 : w2.drew.cell? ⟨w.heap.size, 2, none⟩ = some (.slice Ab nb cb) := cell_of_row _ _ 2 _ _ _ HBX.out
        have hpN : (pos : Int) ≤ ((N : Nat) : Int) := by omega
        have hp0 : (0 : Int) ≤ (pos : Int) := by omega
        have hNc : ((N : Nat) : Int) ≤ ((c2 : Nat) : Int) := by omega
        skip
        go_region_held3 (fun w' => w'.cell? ⟨w.heap.size, 1, none⟩ = some (.int .i64 (pos : Int)) ∧ w'.cell? ⟨w.heap.size, 2, none⟩ = some (.slice Ab nb cb)) (first | assumption | go_keep)
          (first | ((refine step_copy_ob (w := w2.drew) rfl (.tmp 45) (.tmp 47) (by rfl) (B := 0) (n := N) (c := c2) (pos := pos) (nb := nb) (A := A2) (l := (l ++ List.replicate (pos + nb - n) 0)) HOW.out HLN.out (by omega) (by rfl) (fun h => absurd h (by have := Hz.out; omega)) (by rfl) HRB.out ?_; intro w3 hown3 hf3; have s1 := fr_cell2 hf3 HXN.out e1; have s2 := fr_cell2 hf3 HXN.out e2; have H3 := Lib.hid hown3; have F3 := Lib.hid hf3; clear hown3 hf3)))
        go_wp2
        have HG3 := Lib.hid ((F3.out.block g (Array.getElem?_eq_some_iff.1 HGW.out).1 HGN.out).trans HGW.out)
        have HB3 := Lib.hid ((F3.out.block w.heap.size (Array.getElem?_eq_some_iff.1 HBX.out).1 HXN.out).trans HBX.out)
        have k0 : w3.cell? ⟨w.heap.size, 0, none⟩ = some (.int .i64 (a : Int)) := cell_of_row _ _ 0 _ _ _ HB3.out
        have k1 : w3.frozen? ⟨g, off + a, none⟩ = false := frozen_of_row _ _ _ _ _ HG3.out
        have k2 : w3.cell? ⟨g, off + a, none⟩ = some (.slice A n c) := by rw [cell_of_row _ _ _ _ _ _ HG3.out]; exact hc
        go_still_tail 6, (by kernel_rfl)
        change wpList _ _ _ _ _ w3.drew
        go_wp2
        refine bodyPost_end (results_none rfl _ _ _) rfl ⟨rfl, _, heap_setCell_same _ _ _ _ _ _ HG3.out, ?_, HAL.out, ?_⟩
        · rw [HDO.out]
          exact OB.keepB H3.out fun k hk => Below.heap_setCell w3 ⟨g, off + a, none⟩ _ k (fun e => HGN.out (by rw [← show k = g from e]; exact hk))
        · exact ((HFW.out.trans F3.out (fun k hk h => HSub.out k hk h)).setCell (p := ⟨g, off + a, none⟩) (fun _ => .inl rfl) _).drew
    · obtain ⟨gb, ob, hAv⟩ : ∃ gb ob, A2 = some ⟨gb, ob, none⟩ := ob_some HOW.out HLN.out (by omega)
      subst hAv
      have e1 : w2.drew.cell? ⟨w.heap.size, 1, none⟩ = some (.int .i64 (pos : Int)) := cell_of_row _ _ 1 _ _ _ HBX.out
      have e2 : w2.drew.cell? ⟨w.heap.size, 2, none⟩ = some (.slice Ab nb cb) := cell_of_row _ _ 2 _ _ _ HBX.out
      have hpN : (pos : Int) ≤ ((N : Nat) : Int) := by omega
      have hp0 : (0 : Int) ≤ (pos : Int) := by omega
      have hNc : ((N : Nat) : Int) ≤ ((c2 : Nat) : Int) := by omega
      have hcp : (c2 = pos) = False := eq_false (by omega)
      go_region_held3 (fun w' => w'.cell? ⟨w.heap.size, 1, none⟩ = some (.int .i64 (pos : Int)) ∧ w'.cell? ⟨w.heap.size, 2, none⟩ = some (.slice Ab nb cb)) (first | assumption | go_keep)
        (first | ((refine step_copy_ob (w := w2.drew) rfl (.tmp 45) (.tmp 47) (by rfl) (B := 0) (n := N) (c := c2) (pos := pos) (nb := nb) (A := (some ⟨gb, ob, none⟩)) (l := (l ++ List.replicate (pos + nb - n) 0)) HOW.out HLN.out (by omega) (by rfl) (fun _ g1 o1 e => by injection e with e; injection e with e1 e2; subst e1 e2; rfl) (by rfl) HRB.out ?_; intro w3 hown3 hf3; have s1 := fr_cell2 hf3 HXN.out e1; have s2 := fr_cell2 hf3 HXN.out e2; have H3 := Lib.hid hown3; have F3 := Lib.hid hf3; clear hown3 hf3)))
      go_wp2
      have HG3 := Lib.hid ((F3.out.block g (Array.getElem?_eq_some_iff.1 HGW.out).1 HGN.out).trans HGW.out)
      have HB3 := Lib.hid ((F3.out.block w.heap.size (Array.getElem?_eq_some_iff.1 HBX.out).1 HXN.out).trans HBX.out)
      have k0 : w3.cell? ⟨w.heap.size, 0, none⟩ = some (.int .i64 (a : Int)) := cell_of_row _ _ 0 _ _ _ HB3.out
      have k1 : w3.frozen? ⟨g, off + a, none⟩ = false := frozen_of_row _ _ _ _ _ HG3.out
      have k2 : w3.cell? ⟨g, off + a, none⟩ = some (.slice A n c) := by rw [cell_of_row _ _ _ _ _ _ HG3.out]; exact hc
      go_still_tail 6, (by kernel_rfl)
      change wpList _ _ _ _ _ w3.drew
      go_wp2
      refine bodyPost_end (results_none rfl _ _ _) rfl ⟨rfl, _, heap_setCell_same _ _ _ _ _ _ HG3.out, ?_, HAL.out, ?_⟩
      · rw [HDO.out]
        exact OB.keepB H3.out fun k hk => Below.heap_setCell w3 ⟨g, off + a, none⟩ _ k (fun e => HGN.out (by rw [← show k = g from e]; exact hk))
      · exact ((HFW.out.trans F3.out (fun k hk h => HSub.out k hk h)).setCell (p := ⟨g, off + a, none⟩) (fun _ => .inl rfl) _).drew
  · have q1 : decide ((n : Int) < (pos : Int) + (nb : Int)) = false := decide_eq_false (by omega)
    go_wp2
    have HBX := Hbx
    have HOW : Hid (OB w1.drew 0 (.slice A n c) l) := Lib.hid (OB.below Hown.out (below_drewz HD1.out))
    have HLN := Lib.hid hn
    have HRB : Hid (RB w1.drew Ab nb bs) := Lib.hid ((Hb.out.keep (Keeps.of_below HD1.out)).keep (Keeps.drew _))
    have HGW := Lib.hid ((HD1.out.block g hgl.out).trans Hg.out)
    have HXN : Hid (¬ (Value.slice A n c).ownBlock = some w.heap.size) := Lib.hid (fun h => by have := (Hne.out _ h).2; omega)
    have HGN : Hid (¬ (Value.slice A n c).ownBlock = some g) := Lib.hid (fun h => (Hne.out _ h).1 rfl)
    have HAL : Hid ((Value.slice A n c).ownBlock = (Value.slice A n c).ownBlock ∨ ∃ k, (Value.slice A n c).ownBlock = some k ∧ w.heap.size ≤ k) := Lib.hid (.inl rfl)
    have HDO : Hid (doB l ⟨a, pos, bs, false⟩ = l.take pos ++ bs ++ l.drop (pos + nb)) := Lib.hid (by rw [doB_write, hbl.out, padTo_le _ _ (by omega)])
    have HFW : Hid (Fr (doS g (.slice A n c)) w w1.drew) := Lib.hid (Fr.of_below (below_drewz HD1.out))
    have HSub : Hid (∀ k, k < w.heap.size → (Value.slice A n c).ownBlock = some k → doS g (.slice A n c) k) := Lib.hid (fun k _ h => .inr h)
    rcases Nat.eq_zero_or_pos nb with hz | hz
    · have Hz := Lib.hid hz
      clear hz
      by_cases hcq : c = pos
      · have hcp : (c = pos) = True := eq_true hcq
        clear hcq
        have e1 : w1.drew.cell? ⟨w.heap.size, 1, none⟩ = some (.int .i64 (pos : Int)) := cell_of_row _ _ 1 _ _ _ HBX.out
        have e2 : w1.drew.cell? ⟨w.heap.size, 2, none⟩ = some (.slice Ab nb cb) := cell_of_row _ _ 2 _ _ _ HBX.out
        have hpN : (pos : Int) ≤ ((n : Nat) : Int) := by omega
        have hp0 : (0 : Int) ≤ (pos : Int) := by omega
        have hNc : ((n : Nat) : Int) ≤ ((c : Nat) : Int) := by omega
        skip
        go_region_held3 (fun w' => w'.cell? ⟨w.heap.size, 1, none⟩ = some (.int .i64 (pos : Int)) ∧ w'.cell? ⟨w.heap.size, 2, none⟩ = some (.slice Ab nb cb)) (first | assumption | go_keep)
          (first | ((refine step_copy_ob (w := w1.drew) rfl (.tmp 45) (.tmp 47) (by rfl) (B := 0) (n := n) (c := c) (pos := pos) (nb := nb) (A := A) (l := l) HOW.out HLN.out (by omega) (by rfl) (fun h => absurd h (by have := Hz.out; omega)) (by rfl) HRB.out ?_; intro w3 hown3 hf3; have s1 := fr_cell2 hf3 HXN.out e1; have s2 := fr_cell2 hf3 HXN.out e2; have H3 := Lib.hid hown3; have F3 := Lib.hid hf3; clear hown3 hf3)))
        go_wp2
        have HG3 := Lib.hid ((F3.out.block g (Array.getElem?_eq_some_iff.1 HGW.out).1 HGN.out).trans HGW.out)
        have HB3 := Lib.hid ((F3.out.block w.heap.size (Array.getElem?_eq_some_iff.1 HBX.out).1 HXN.out).trans HBX.out)
        have k0 : w3.cell? ⟨w.heap.size, 0, none⟩ = some (.int .i64 (a : Int)) := cell_of_row _ _ 0 _ _ _ HB3.out
        have k1 : w3.frozen? ⟨g, off + a, none⟩ = false := frozen_of_row _ _ _ _ _ HG3.out
        have k2 : w3.cell? ⟨g, off + a, none⟩ = some (.slice A n c) := by rw [cell_of_row _ _ _ _ _ _ HG3.out]; exact hc
        go_still_tail 6, (by kernel_rfl)
        change wpList _ _ _ _ _ w3.drew
        go_wp2
        refine bodyPost_end (results_none rfl _ _ _) rfl ⟨rfl, _, heap_setCell_same _ _ _ _ _ _ HG3.out, ?_, .inl rfl, ?_⟩
        · rw [HDO.out]
          exact OB.keepB H3.out fun k hk => Below.heap_setCell w3 ⟨g, off + a, none⟩ _ k (fun e => HGN.out (by rw [← show k = g from e]; exact hk))
        · exact ((HFW.out.trans F3.out (fun k hk h => HSub.out k hk h)).setCell (p := ⟨g, off + a, none⟩) (fun _ => .inl rfl) _).drew
      · have hcp : (c = pos) = False := eq_false hcq
        clear hcq
        have e1 : w1.drew.cell? ⟨w.heap.size, 1, none⟩ = some (.int .i64 (pos : Int)) := cell_of_row _ _ 1 _ _ _ HBX.out
        have e2 : w1.drew.cell? ⟨w.heap.size, 2, none⟩ = some (.slice Ab nb cb) := cell_of_row _ _ 2 _ _ _ HBX.out
        have hpN : (pos : Int) ≤ ((n : Nat) : Int) := by omega
        have hp0 : (0 : Int) ≤ (pos : Int) := by omega
        have hNc : ((n : Nat) : Int) ≤ ((c : Nat) : Int) := by omega
        skip
        go_region_held3 (fun w' => w'.cell? ⟨w.heap.size, 1, none⟩ = some (.int .i64 (pos : Int)) ∧ w'.cell? ⟨w.heap.size, 2, none⟩ = some (.slice Ab nb cb)) (first | assumption | go_keep)
          (first | ((refine step_copy_ob (w := w1.drew) rfl (.tmp 45) (.tmp 47) (by rfl) (B := 0) (n := n) (c := c) (pos := pos) (nb := nb) (A := A) (l := l) HOW.out HLN.out (by omega) (by rfl) (fun h => absurd h (by have := Hz.out; omega)) (by rfl) HRB.out ?_; intro w3 hown3 hf3; have s1 := fr_cell2 hf3 HXN.out e1; have s2 := fr_cell2 hf3 HXN.out e2; have H3 := Lib.hid hown3; have F3 := Lib.hid hf3; clear hown3 hf3)))
        go_wp2
        have HG3 := Lib.hid ((F3.out.block g (Array.getElem?_eq_some_iff.1 HGW.out).1 HGN.out).trans HGW.out)
        have HB3 := Lib.hid ((F3.out.block w.heap.size (Array.getElem?_eq_some_iff.1 HBX.out).1 HXN.out).trans HBX.out)
        have k0 : w3.cell? ⟨w.heap.size, 0, none⟩ = some (.int .i64 (a : Int)) := cell_of_row _ _ 0 _ _ _ HB3.out
        have k1 : w3.frozen? ⟨g, off + a, none⟩ = false := frozen_of_row _ _ _ _ _ HG3.out
        have k2 : w3.cell? ⟨g, off + a, none⟩ = some (.slice A n c) := by rw [cell_of_row _ _ _ _ _ _ HG3.out]; exact hc
        go_still_tail 6, (by kernel_rfl)
        change wpList _ _ _ _ _ w3.drew
        go_wp2
        refine bodyPost_end (results_none rfl _ _ _) rfl ⟨rfl, _, heap_setCell_same _ _ _ _ _ _ HG3.out, ?_, .inl rfl, ?_⟩
        · rw [HDO.out]
          exact OB.keepB H3.out fun k hk => Below.heap_setCell w3 ⟨g, off + a, none⟩ _ k (fun e => HGN.out (by rw [← show k = g from e]; exact hk))
        · exact ((HFW.out.trans F3.out (fun k hk h => HSub.out k hk h)).setCell (p := ⟨g, off + a, none⟩) (fun _ => .inl rfl) _).drew
    · obtain ⟨gb, ob, hAv⟩ : ∃ gb ob, A = some ⟨gb, ob, none⟩ := ob_some HOW.out HLN.out (by omega)
      subst hAv
      have e1 : w1.drew.cell? ⟨w.heap.size, 1, none⟩ = some (.int .i64 (pos : Int)) := cell_of_row _ _ 1 _ _ _ HBX.out
      have e2 : w1.drew.cell? ⟨w.heap.size, 2, none⟩ = some (.slice Ab nb cb) := cell_of_row _ _ 2 _ _ _ HBX.out
      have hpN : (pos : Int) ≤ ((n : Nat) : Int) := by omega
      have hp0 : (0 : Int) ≤ (pos : Int) := by omega
      have hNc : ((n : Nat) : Int) ≤ ((c : Nat) : Int) := by omega
      have hcp : (c = pos) = False := eq_false (by omega)
      go_region_held3 (fun w' => w'.cell? ⟨w.heap.size, 1, none⟩ = some (.int .i64 (pos : Int)) ∧ w'.cell? ⟨w.heap.size, 2, none⟩ = some (.slice Ab nb cb)) (first | assumption | go_keep)
        (first | ((refine step_copy_ob (w := w1.drew) rfl (.tmp 45) (.tmp 47) (by rfl) (B := 0) (n := n) (c := c) (pos := pos) (nb := nb) (A := (some ⟨gb, ob, none⟩)) (l := l) HOW.out HLN.out (by omega) (by rfl) (fun _ g1 o1 e => by injection e with e; injection e with e1 e2; subst e1 e2; rfl) (by rfl) HRB.out ?_; intro w3 hown3 hf3; have s1 := fr_cell2 hf3 HXN.out e1; have s2 := fr_cell2 hf3 HXN.out e2; have H3 := Lib.hid hown3; have F3 := Lib.hid hf3; clear hown3 hf3)))
      go_wp2
      have HG3 := Lib.hid ((F3.out.block g (Array.getElem?_eq_some_iff.1 HGW.out).1 HGN.out).trans HGW.out)
      have HB3 := Lib.hid ((F3.out.block w.heap.size (Array.getElem?_eq_some_iff.1 HBX.out).1 HXN.out).trans HBX.out)
      have k0 : w3.cell? ⟨w.heap.size, 0, none⟩ = some (.int .i64 (a : Int)) := cell_of_row _ _ 0 _ _ _ HB3.out
      have k1 : w3.frozen? ⟨g, off + a, none⟩ = false := frozen_of_row _ _ _ _ _ HG3.out
      have k2 : w3.cell? ⟨g, off + a, none⟩ = some (.slice (some ⟨gb, ob, none⟩) n c) := by rw [cell_of_row _ _ _ _ _ _ HG3.out]; exact hc
      go_still_tail 6, (by kernel_rfl)
      change wpList _ _ _ _ _ w3.drew
      go_wp2
      refine bodyPost_end (results_none rfl _ _ _) rfl ⟨rfl, _, heap_setCell_same _ _ _ _ _ _ HG3.out, ?_, .inl rfl, ?_⟩
      · rw [HDO.out]
        exact OB.keepB H3.out fun k hk => Below.heap_setCell w3 ⟨g, off + a, none⟩ _ k (fun e => HGN.out (by rw [← show k = g from e]; exact hk))
      · exact ((HFW.out.trans F3.out (fun k hk h => HSub.out k hk h)).setCell (p := ⟨g, off + a, none⟩) (fun _ => .inl rfl) _).drew
end Go.Proofs.YtjodehdmafagoaaDoor
