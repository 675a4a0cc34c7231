/- OrderedPlays: its frame, its loop's body; what is compared behind each act. -/
import Derived.Test.YtgiaifglkecdjaaActs16
import Derived.Test.YtgiaifglkecdjaaRefDel
import Derived.Test.YtgiaifglkecdjaaBtwSI
import Derived.Test.YtgiaifglkecdjaaKeysSI
import Derived.Test.YtgiaifglkecdjaaKeysOf
import Derived.Test.YtgiaifglkecdjaaRefBtw
import Derived.Test.YtgiaifglkecdjaaSameTexts
import Derived.Test.YtgiaifglkecdjaaAlive16
import Derived.Deep.LoopGhost
import Derived.Deep.RegionHeld3
namespace Go.Proofs.Ytgiaifglkecdjaa
open Go.RowKit
open SI

/-- All loops' bodies, the outer ones first. -/
def loopsP : Code → List Code
  | .loop c => c :: loopsP c
  | .seq a b => loopsP a ++ loopsP b
  | .block _ c => loopsP c
  | .scope c => loopsP c
  | .cond _ a b => loopsP a ++ loopsP b
  | _ => []
def lpP (b : Option Code) (i : Nat) : Code := (loopsP (b.getD .skip)).getD i .skip
/-- What stands behind the acts' branches. -/
def tailP (c : Code) : Code := match c with
  | .seq _ (.seq _ (.seq (.block _ (.seq _ (.seq _ (.seq r _)))) _)) => r
  | _ => .skip

set_option maxRecDepth 100000 in
def PF (f : Nat → Value) : Act := ⟨#[f 0, f 1, f 2, f 3, f 4, f 5, f 6, f 7, f 8, f 9, f 10, f 11, f 12, f 13, f 14, f 15, f 16, f 17, f 18, f 19, f 20, f 21, f 22, f 23, f 24, f 25, f 26, f 27, f 28, f 29, f 30, f 31, f 32, f 33, f 34, f 35, f 36, f 37, f 38, f 39, f 40, f 41, f 42, f 43, f 44, f 45, f 46, f 47, f 48, f 49, f 50, f 51, f 52, f 53, f 54, f 55, f 56, f 57, f 58, f 59, f 60, f 61, f 62, f 63, f 64, f 65, f 66, f 67, f 68, f 69, f 70, f 71, f 72, f 73, f 74, f 75, f 76, f 77, f 78, f 79, f 80, f 81, f 82, f 83, f 84, f 85, f 86, f 87, f 88, f 89, f 90, f 91, f 92, f 93, f 94, f 95, f 96, f 97, f 98, f 99, f 100, f 101, f 102, f 103, f 104, f 105, f 106, f 107, f 108, f 109, f 110, f 111, f 112, f 113, f 114, f 115, f 116, f 117, f 118, f 119, f 120, f 121, f 122, f 123, f 124, f 125, f 126, f 127, f 128, f 129, f 130, f 131, f 132, f 133, f 134, f 135, f 136, f 137, f 138, f 139, f 140, f 141, f 142, f 143, f 144, f 145, f 146, f 147, f 148, f 149, f 150, f 151, f 152, f 153, f 154, f 155, f 156, f 157, f 158, f 159, f 160, f 161, f 162, f 163, f 164, f 165, f 166, f 167, f 168, f 169, f 170, f 171, f 172, f 173, f 174, f 175, f 176, f 177, f 178, f 179, f 180, f 181, f 182, f 183, f 184, f 185, f 186, f 187, f 188, f 189, f 190, f 191, f 192, f 193, f 194, f 195, f 196, f 197, f 198, f 199, f 200, f 201, f 202, f 203, f 204], []⟩
def slotP (a : Act) (i : Nat) : Value := a.tmps.toList.getD i undef
/-- A frame of that many slots. -/
def IsP (a : Act) : Prop := a = PF (slotP a)


theorem tabLt {w : World} {R : Nat} {l : List (ByteArray × Int)} (a : RTab w R l) : R < w.heap.size := let ⟨_, h1, _⟩ := a; (Array.getElem?_eq_some_iff.1 h1).1
theorem tabNe {w : World} {g R : Nat} {s : Code} {L l : List (ByteArray × Int)} (a : TabAt w g s L) (b : RTab w R l) : g ≠ R := by
  rintro rfl
  obtain ⟨p, h1, _⟩ := a
  obtain ⟨v, h2, _⟩ := b
  rw [h1] at h2
  injection h2 with h2
  injection h2 with _ h2 _
  exact absurd h2 (by decide)
theorem RTab.fr {w w' : World} {g R : Nat} {s : Code} {L l : List (ByteArray × Int)} (a : TabAt w g s L) (b : RTab w R l) (hf : Fr (fun i => i = g) w w') : RTab w' R l := by
  obtain ⟨p, h1, _⟩ := a
  refine b.kept hf ?_
  rintro c cs t hc ht rfl
  rw [h1] at hc
  injection hc with hc
  injection hc with _ hc _
  rcases ht with rfl | rfl
  · exact absurd hc (by decide)
  · exact absurd hc (by decide)
theorem TabAt.frR {w w' : World} {g R : Nat} {s : Code} {L l : List (ByteArray × Int)} (a : TabAt w g s L) (b : RTab w R l) (hf : Fr (fun i => i = R) w w') : TabAt w' g s L := by
  refine a.fr hf (tabNe a b) ?_
  rintro c cs hc rfl
  obtain ⟨v, h2, _⟩ := b
  rw [h2] at hc
  injection hc with hc
  injection hc with _ hc _
  exact absurd hc (by decide)
theorem fr_cell {w w' : World} {g b o : Nat} {v : Value} (hf : Fr (fun i => i = g) w w') (hne : b ≠ g) (h : w.cell? ⟨b, o, none⟩ = some v) : w'.cell? ⟨b, o, none⟩ = some v :=
  (hf.cell (World.block_lt_of_cell? w _ h) hne).trans h
theorem rtab_form {w : World} {R : Nat} {l : List (ByteArray × Int)} (a : RTab w R l) : ∃ A c, w.cell? ⟨R, 0, none⟩ = some (.slice A l.length c) ∧ RE w A l.length l := by
  obtain ⟨v, h1, h2⟩ := a
  obtain ⟨A, c, rfl, _, _⟩ := OwnS.form h2
  exact ⟨A, c, cell_of_one h1, RE.of_own h2⟩

set_option maxHeartbeats 4000000 in
set_option maxRecDepth 100000 in
theorem tail_any (fr : Act) (g R ba : Nat) (s : Code) (L : List (ByteArray × Int)) (key : ByteArray) (w : World) (Q : Exit → Act → World → Prop) (hfr : IsP fr)
    (h3 : slotP fr 3 = .pointer (some ⟨g, 0, none⟩)) (h4 : slotP fr 4 = .pointer (some ⟨R, 0, none⟩)) (h6 : slotP fr 6 = .pointer (some ⟨ba, 0, none⟩))
    (ha : TabAt w g s L) (hr : RTab w R L) (hri : Rises klt L) (hlen : L.length ≤ 1000000) (hkey : w.cell? ⟨ba, 2, none⟩ = some (.string key))
    (hQ : ∀ (fr' : Act) (w' : World), IsP fr' → slotP fr' 2 = slotP fr 2 → slotP fr' 3 = .pointer (some ⟨g, 0, none⟩) → slotP fr' 4 = .pointer (some ⟨R, 0, none⟩) → slotP fr' 23 = slotP fr 23 → slotP fr' 24 = slotP fr 24 → slotP fr' 25 = slotP fr 25 → slotP fr' 203 = .bool false →
      Below w.heap.size w w' → Q .normal fr' w') :
    Code.wp Try.prog (tailP (lpP Try.f3.body 0)) Q fr w := by
  have HQ := Lib.hid hQ
  have HR := Lib.hid hri
  have D0 := below_dr (Below.refl w.heap.size w)
  have HD := Lib.hid (TabAt.below ha D0)
  have RD := Lib.hid (RTab.below hr D0)
  obtain ⟨A, c, c0, hre⟩ := rtab_form hr
  clear hQ hri ha hr hre D0
  unfold IsP at hfr
  generalize slotP fr = f at *
  subst hfr
  unfold PF
  rw [h3, h4, h6]
  conv => arg 2; whnf
  clear h3 h4 h6
  go_region_held3 (fun w' => w'.cell? ⟨R, 0, none⟩ = some (.slice A L.length c) ∧ w'.cell? ⟨ba, 2, none⟩ = some (.string key)) (go_keep)
    (first
      | (go_at_call 18; (with_reducible refine (Len_T g s L w.drew HD.out).mono ?_); rintro e w' ⟨rfl, rfl⟩)
      | (go_at_call 19; (with_reducible refine (Keys_T g s L w.drew HD.out (by omega)).mono ?_); rintro e w4 ⟨v4, rfl, ho4, hb4⟩; replace ho4 := Lib.hid (OwnS.of_own ho4); obtain ⟨A4, c4, rfl, -, -⟩ := OwnS.form ho4.out; have s1 := Keeps.of_below hb4 _ _ c0; have s2 := Keeps.of_below hb4 _ _ hkey; have H4 := Lib.hid (HD.out.below hb4); have R4 := Lib.hid (RD.out.below hb4); have X4 := Lib.hid (RX.of_ownS ho4.out); have B4 := Lib.hid ((below_dr (Below.refl w.heap.size w)).trans hb4); clear hb4 ho4)
      | (go_at_call 20; (with_reducible refine (keysOf_T R L w4 R4.out (by omega)).mono ?_); rintro e w5 ⟨v5, rfl, ho5, hb5⟩; obtain ⟨A5, c5, rfl, -, -, hx5⟩ := ho5.form; have m1 := Keeps.of_below hb5 _ _ s1; have m2 := Keeps.of_below hb5 _ _ s2; have H5 := Lib.hid (H4.out.below hb5); have R5 := Lib.hid (R4.out.below hb5); rw [List.length_map] at hx5; have X5 := Lib.hid hx5; have Y5 := Lib.hid (show RX w5 A4 L.length ((L.map fun y => y.1).map Value.string) from by rw [List.map_map]; exact X4.out.keep (Keeps.of_below hb5)); have B5 := Lib.hid (B4.out.trans (hb5.mono B4.out.size)); clear hb5 hx5 ho5 s1 s2)
      | (go_at_call 13; (with_reducible refine (SameTexts_any A4 A5 L.length L.length c4 c5 (L.map fun y => y.1) (L.map fun y => y.1) w5 Y5.out X5.out (by unfold maxLen; omega) (by unfold maxLen; omega)).mono ?_); rw [decide_eq_true (show (L.map fun y => y.1) = L.map fun y => y.1 from rfl)]; rintro e w6 ⟨rfl, q6, rfl⟩)
      | (go_at_call 21; (with_reducible refine (Rank_T g key s L (w5.drewN q6) (H5.out.below (below_drewN (Below.refl _ _) q6)) HR.out (by omega)).mono ?_); rintro e w' ⟨rfl, rfl⟩)
      | (go_at_call 22; (with_reducible refine (RefRank_T R key L (w5.drewN q6) (R5.out.below (below_drewN (Below.refl _ _) q6)) (by omega)).mono ?_); rintro e w7 ⟨rfl, hb7⟩; have s1 := Keeps.of_below hb7 _ _ m1; have s2 := Keeps.of_below hb7 _ _ m2; have B7 := Lib.hid ((below_drewN B5.out q6).trans (hb7.mono B5.out.size)); clear hb7))
  exact HQ.out _ _ rfl rfl rfl rfl rfl rfl rfl rfl B7.out
end Go.Proofs.Ytgiaifglkecdjaa

