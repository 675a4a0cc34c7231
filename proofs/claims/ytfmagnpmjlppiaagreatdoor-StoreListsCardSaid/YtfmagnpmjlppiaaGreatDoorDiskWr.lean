/- Layer 17 (disk): what it does, in plain words: areas of bytes, changes that wait. No program in sight. -/
import Derived.Test.YtfmagnpmjlppiaaGreatDoorBase
import Derived.Test.YtfmagnpmjlppiaaGreatDoorZeros
import Derived.Deep.RegionHeld3
import Derived.Deep.RegionLaw
import Derived.OneCell
import Derived.StillTailTactics
namespace Go.Proofs.YtfmagnpmjlppiaaGreatDoor

structure DChg where
 area : Nat
 pos : Nat
 bytes : List UInt8
 cuts : Bool

/-- An area, long enough for a change. -/
def padTo (l : List UInt8) (n : Nat) : List UInt8 := l ++ List.replicate (n - l.length) 0
/-- An area behind a change. -/
def doB (l : List UInt8) (c : DChg) : List UInt8 :=
 if c.cuts then l.take c.pos else (padTo l (c.pos + c.bytes.length)).take c.pos ++ c.bytes ++ (padTo l (c.pos + c.bytes.length)).drop (c.pos + c.bytes.length)

theorem padTo_length (l : List UInt8) (n : Nat) : (padTo l n).length = max l.length n := by simp [padTo]; omega
theorem doB_length (l : List UInt8) (c : DChg) : (doB l c).length ≤ max l.length (c.pos + c.bytes.length) := by
 unfold doB
 split
 ·rw [List.length_take]; omega
 ·rw [List.length_append, List.length_append, List.length_take, List.length_drop, padTo_length]; omega
theorem padTo_le (l : List UInt8) (n : Nat) (h : n ≤ l.length) : padTo l n = l := by simp [padTo, show n - l.length = 0 by omega]

/-- Areas 0 to 2 are sure, 3 to 5 are seen. -/
structure DM where
 room : Int
 b : Nat → List UInt8
 waits : List DChg
 armed : Bool
 left : Int
 gone : Bool

def updB (f : Nat → List UInt8) (i : Nat) (x : List UInt8) : Nat → List UInt8 := fun j => if j = i then x else f j
theorem updB_same (f : Nat → List UInt8) (i : Nat) (x : List UInt8) : updB f i x i = x := if_pos rfl
theorem updB_other (f : Nat → List UInt8) (i j : Nat) (x : List UInt8) (h : j ≠ i) : updB f i x j = f j := if_neg h

/-- What a disk holds is small. -/
structure DM.Ok (m : DM) : Prop where
 room0 : 0 ≤ m.room
 room1 : m.room ≤ 1048576
 len : ∀ i, i < 6 → (m.b i).length ≤ 1048576
 wait : ∀ c ∈ m.waits, c.area < 3 ∧ c.pos + c.bytes.length ≤ 1048576
 left0 : 0 ≤ m.left
 left1 : m.left ≤ 9223372036854775807

def DM.free (m : DM) : Int := m.room - ((m.b 3).length : Int) - ((m.b 4).length : Int) - ((m.b 5).length : Int)

/-- A unit is asked for: no more of them? -/
def DM.dead (m : DM) : Bool := m.gone || (m.armed && m.left == 0)
def DM.unit (m : DM) : DM := if m.dead then { m with gone := true } else if m.armed then { m with left := m.left - 1 } else m

def DM.wait (m : DM) (c : DChg) : DM := { m with waits := m.waits ++ [c], b := updB m.b (3 + c.area) (doB (m.b (3 + c.area)) c) }

/-- The error's number of a write; 0: it waits. -/
def DM.writeE (m : DM) (area at_ : Int) (n : Nat) : Nat :=
 if ¬ (0 ≤ area ∧ area < 3) ∨ at_ < 0 ∨ ((m.b (3 + area.toNat)).length : Int) < at_ then 1
 else if m.free < at_ + n - ((m.b (3 + area.toNat)).length : Int) then 26
 else if m.dead then 25 else 0
def DM.write (m : DM) (area at_ : Int) (bs : List UInt8) : DM :=
 if m.writeE area at_ bs.length = 0 then m.unit.wait ⟨area.toNat, at_.toNat, bs, false⟩ else if m.writeE area at_ bs.length = 25 then m.unit else m
def DM.cutE (m : DM) (area n : Int) : Nat :=
 if ¬ (0 ≤ area ∧ area < 3) ∨ n < 0 ∨ ((m.b (3 + area.toNat)).length : Int) < n then 1 else if m.dead then 25 else 0
def DM.cut (m : DM) (area n : Int) : DM :=
 if m.cutE area n = 0 then m.unit.wait ⟨area.toNat, n.toNat, [], true⟩ else if m.cutE area n = 25 then m.unit else m
/-- All that is seen is sure. -/
def DM.flush (m : DM) : DM := { m with b := fun i => if i < 3 then m.b (3 + i) else m.b i, waits := [] }
def DM.sync (m : DM) : DM := if m.dead then m.unit else m.unit.flush

def bitAt (s : Int) (k : Nat) : Bool := s / 2 ^ k % 2 == 1
/-- What a crash does to what is sure, at the i-th change. -/
def crash1 (first : Nat) (s torn : Int) (i : Nat) (c : DChg) (f : Nat → List UInt8) : Nat → List UInt8 :=
 if i < first ∨ (i - first < 63 ∧ bitAt s (i - first) = true) then updB f c.area (doB (f c.area) c)
 else if i = first ∧ c.cuts = false ∧ 0 < torn ∧ c.bytes ≠ [] then updB f c.area (doB (f c.area) { c with bytes := c.bytes.take torn.toNat })
 else f
def crashTo (first : Nat) (s torn : Int) (ws : List DChg) (f : Nat → List UInt8) : Nat → Nat → List UInt8
 | 0 => f
 | k + 1 => match ws[k]? with
  | some c => crash1 first s torn k c (crashTo first s torn ws f k)
  | none => crashTo first s torn ws f k
def firstOf (kept : Int) (n : Nat) : Nat := (max 0 (min kept (n : Int))).toNat
def DM.crash (m : DM) (kept s torn : Int) : DM :=
 let f := crashTo (firstOf kept m.waits.length) s torn m.waits m.b m.waits.length
 { room := m.room, b := fun i => if i < 3 then f i else f (i - 3), waits := [], armed := false, left := 0, gone := false }

theorem DM.Ok.unit {m : DM} (h : m.Ok) : m.unit.Ok := by
 unfold DM.unit
 split
 ·exact ⟨h.room0, h.room1, h.len, h.wait, h.left0, h.left1⟩
 ·rename_i hd
  split
  ·rename_i ha
   simp [DM.dead, ha] at hd
   have := h.left0
   have := h.left1
   exact ⟨h.room0, h.room1, h.len, h.wait, by show 0 ≤ m.left - 1; omega, by show m.left - 1 ≤ _; omega⟩
  ·exact h
theorem DM.Ok.wait' {m : DM} (h : m.Ok) {c : DChg} (ha : c.area < 3) (hc : c.pos + c.bytes.length ≤ 1048576) : (m.wait c).Ok := by
 refine ⟨h.room0, h.room1, fun i hi => ?_, fun c' hc' => ?_, h.left0, h.left1⟩
 ·show (updB m.b (3 + c.area) _ i).length ≤ _
  by_cases e : i = 3 + c.area
  ·subst e
   rw [updB_same]
   have := doB_length (m.b (3 + c.area)) c
   have := h.len (3 + c.area) hi
   omega
  ·rw [updB_other _ _ _ _ e]
   exact h.len i hi
 ·rcases List.mem_append.1 hc' with hc' | hc'
  ·exact h.wait c' hc'
  ·rw [List.mem_singleton.1 hc']
   exact ⟨ha, hc⟩
theorem DM.unit_b (m : DM) : m.unit.b = m.b := by
 unfold DM.unit
 split
 ·rfl
 ·split <;> rfl
theorem DM.unit_waits (m : DM) : m.unit.waits = m.waits := by
 unfold DM.unit
 split
 ·rfl
 ·split <;> rfl
theorem DM.unit_room (m : DM) : m.unit.room = m.room := by
 unfold DM.unit
 split
 ·rfl
 ·split <;> rfl
theorem DM.Ok.write {m : DM} (h : m.Ok) (area at_ : Int) (bs : List UInt8) : (m.write area at_ bs).Ok := by
 unfold DM.write
 split
 ·rename_i h0
  unfold DM.writeE at h0
  split at h0
  ·cases h0
  split at h0
  ·cases h0
  rename_i h1 h2
  refine h.unit.wait' (by show area.toNat < 3; omega) ?_
  show at_.toNat + bs.length ≤ 1048576
  have h3 := h.room1
  have h4 := h.len 3 (by omega)
  simp only [DM.free] at h2
  have : area = 0 ∨ area = 1 ∨ area = 2 := by omega
  rcases this with rfl | rfl | rfl
  ·change ¬ _ < _ + _ - ((m.b 3).length : Int) at h2; omega
  ·change ¬ _ < _ + _ - ((m.b 4).length : Int) at h2; omega
  ·change ¬ _ < _ + _ - ((m.b 5).length : Int) at h2; omega
 ·split
  ·exact h.unit
  ·exact h
theorem DM.Ok.cut {m : DM} (h : m.Ok) (area n : Int) : (m.cut area n).Ok := by
 unfold DM.cut
 split
 ·rename_i h0
  unfold DM.cutE at h0
  split at h0
  ·cases h0
  rename_i h1
  have h4 := h.len (3 + area.toNat) (by omega)
  refine h.unit.wait' (by show area.toNat < 3; omega) ?_
  show n.toNat + 0 ≤ 1048576
  omega
 ·split
  ·exact h.unit
  ·exact h
theorem DM.Ok.flush {m : DM} (h : m.Ok) : m.flush.Ok :=
 ⟨h.room0, h.room1, fun i hi => by
  show (if i < 3 then m.b (3 + i) else m.b i).length ≤ _
  split
  ·exact h.len _ (by omega)
  ·exact h.len _ hi, fun c hc => (by cases hc), h.left0, h.left1⟩
theorem DM.Ok.sync {m : DM} (h : m.Ok) : m.sync.Ok := by
 unfold DM.sync
 split
 ·exact h.unit
 ·exact h.unit.flush
theorem crash1_len {first : Nat} {s torn : Int} {i : Nat} {c : DChg} {f : Nat → List UInt8} (hc : c.pos + c.bytes.length ≤ 1048576) (hf : ∀ i, i < 6 → (f i).length ≤ 1048576) : ∀ j, j < 6 → (crash1 first s torn i c f j).length ≤ 1048576 := by
 intro j hj
 have up : ∀ c' : DChg, c'.pos + c'.bytes.length ≤ 1048576 → (updB f c'.area (doB (f c'.area) c') j).length ≤ 1048576 := fun c' h' => by
  by_cases e : j = c'.area
  ·subst e
   rw [updB_same]
   have := doB_length (f c'.area) c'
   have := hf _ hj
   omega
  ·rw [updB_other _ _ _ _ e]
   exact hf j hj
 unfold crash1
 split
 ·exact up c hc
 ·split
  ·exact up { c with bytes := c.bytes.take torn.toNat } (by show c.pos + (c.bytes.take torn.toNat).length ≤ _; rw [List.length_take]; omega)
  ·exact hf j hj
theorem crashTo_len {first : Nat} {s torn : Int} {ws : List DChg} {f : Nat → List UInt8} (hw : ∀ c ∈ ws, c.area < 3 ∧ c.pos + c.bytes.length ≤ 1048576) (hf : ∀ i, i < 6 → (f i).length ≤ 1048576) : ∀ k j, j < 6 → (crashTo first s torn ws f k j).length ≤ 1048576 := by
 intro k
 induction k with
 | zero => exact hf
 | succ k ih =>
  intro j hj
  simp only [crashTo]
  cases h : ws[k]? with
  | none => exact ih j hj
  | some c => exact crash1_len (hw c (List.mem_of_getElem? h)).2 ih j hj
theorem DM.Ok.crash {m : DM} (h : m.Ok) (kept s torn : Int) : (m.crash kept s torn).Ok := by
 refine ⟨h.room0, h.room1, fun i hi => ?_, fun c hc => (by cases hc), Int.le_refl _, by show (0 : Int) ≤ _; omega⟩
 show (if i < 3 then crashTo _ _ _ _ _ _ i else crashTo _ _ _ _ _ _ (i - 3)).length ≤ _
 split
 ·exact crashTo_len h.wait h.len _ _ hi
 ·exact crashTo_len h.wait h.len _ _ (by omega)
end Go.Proofs.YtfmagnpmjlppiaaGreatDoor

/- disk.image.do: an area behind a change, in memory. -/
namespace Go.Proofs.YtfmagnpmjlppiaaGreatDoor
open Go.RowKit

/-- The blocks that an area's change may turn: the disk's own and the area's. -/
def doS (g : Nat) (v : Value) (k : Nat) : Prop := k = g ∨ v.ownBlock = some k

theorem OB.cutTo {w : World} {B n c : Nat} {A : Option Addr} {l : List UInt8} (h : OB w B (.slice A n c) l) (k : Nat) (hk : k ≤ l.length) : OB w B (.slice A k c) (l.take k) := by
 obtain ⟨h1, h2⟩ := h
 have hl : (l.take k).length = k := by rw [List.length_take]; omega
 refine ⟨by rw [bcells_length, Nat.mul_one], ?_⟩
 rw [hl]
 rcases h2 with ⟨h2, h3⟩ | ⟨g, o, cap, cur, h2, h3, h4, h5, h6, h7, h8⟩
 ·injection h2 with e1 e2 e3
  subst e1; subst e2; subst e3
  have : k = 0 := by omega
  subst this
  exact .inl ⟨rfl, rfl⟩
 ·injection h2 with e1 e2 e3
  subst e1; subst e2; subst e3
  refine .inr ⟨g, o, c, cur, rfl, h3, h4, by omega, h6, h7, ?_⟩
  have : (List.drop o cur.toList).take (k * 1) = (bcells l).take k := by
   rw [← h8, List.take_take, Nat.mul_one, Nat.mul_one, Nat.min_eq_left hk]
  rw [this]
  simp [bcells, List.map_take]

set_option maxHeartbeats 4000000 in
set_option maxRecDepth 100000 in
theorem do_cut (g off a pos : Nat) (cs : Array Value) (A : Option Addr) (n c : Nat) (l : List UInt8) (cb : Value) (w : World) (hg : w.heap[g]? = some (.cells cs 78 (0, 0))) (ha : a < 3)
  (hc : cs[off + a]? = some (.slice A n c)) (hown : OB w 0 (.slice A n c) l) (hn : l.length = n) (hncap : n ≤ c) (hl : l.length ≤ 1048576) (hp : pos ≤ 1048576) :
  Calls Tryz.prog 47 #[.pointer (some ⟨g, off, none⟩), .agg #[.int .i64 (a : Int), .int .i64 (pos : Int), cb, .bool true]] w fun e w' => e = .returned (.tuple #[]) ∧
   w'.heap[g]? = some (.cells (cs.setIfInBounds (off + a) (.slice A (min pos n) c)) 78 (0, 0)) ∧ OB w' 0 (.slice A (min pos n) c) (l.take pos) ∧ Fr (fun k => k = g) w w' := by
 have Hg := Hj hg
 have Hown := Hj hown
 have c0 : w.cell? ⟨g, off + a, none⟩ = some (.slice A n c) := by rw [cell_of_row _ _ _ _ _ _ hg]; exact hc
 have f0 : w.frozen? ⟨g, off + a, none⟩ = false := Kx hg
 have D0 := (Below.refl w.heap.size w).alloc Kj (.cells #[.int .i64 (a : Int), .int .i64 (pos : Int), cb, .bool true] 105)
 have c0a := Kz D0 _ _ c0
 have f0a : (w.alloc (.cells #[.int .i64 (a : Int), .int .i64 (pos : Int), cb, .bool true] 105)).frozen? ⟨g, off + a, none⟩ = false := by
  rw [D0.frozen (World.block_lt_of_cell? w _ c0)]; exact f0
 have a0 : (0 : Int) ≤ (a : Int) := by omega
 have a1 : (a : Int) < 3 := by omega
 clear hg hown
 go_enter Tryz.func47, Tryz.ntmps47
 go_wp2
 go_quiet (fail)
 go_wp2
 obtain ⟨w1, hw1⟩ : ∃ W, W = (w.alloc (.cells #[.int .i64 (a : Int), .int .i64 (pos : Int), cb, .bool true] 105)).drewN nq := ⟨_, rfl⟩
 have D1 : Below w.heap.size w w1 := by rw [hw1]; exact below_drewN D0 nq
 have b0 : w1.cell? ⟨w.heap.size, 0, none⟩ = some (.int .i64 (a : Int)) := by rw [hw1]; exact Kq 0 (heap_alloc_new w _)
 have b1 : w1.cell? ⟨w.heap.size, 1, none⟩ = some (.int .i64 (pos : Int)) := by rw [hw1]; exact Kq 1 (heap_alloc_new w _)
 have b2 : w1.cell? ⟨g, off + a, none⟩ = some (.slice A n c) := by rw [hw1]; exact c0a
 have b3 : w1.frozen? ⟨g, off + a, none⟩ = false := by rw [hw1]; exact f0a
 rw [← hw1]
 have HD1 := Hj D1
 clear hw1 c0 f0 c0a f0a D0 D1
 have hrow : ∀ (x : Value), (w1.setCell ⟨g, off + a, none⟩ x).heap[g]? = some (.cells (cs.setIfInBounds (off + a) x) 78 (0, 0)) := fun x => heap_setCell_same _ _ _ _ _ _ ((HD1.out.block g (Cz Hg.out)).trans Hg.out)
 have Hrow := Hj hrow
 have hne : ∀ q, (Value.slice A n c).ownBlock = some q → q ≠ g := fun q hq e => by
  subst e
  rcases Hown.out.2 with ⟨h1, _⟩ | ⟨g', o', cap', cur, h1, _, h3, _⟩
  ·rw [h1] at hq; cases hq
  ·rw [h1] at hq
   injection hq with hq
   subst hq
   rw [Hg.out] at h3
   injection h3 with h3
   injection h3 with _ h3 _
   exact absurd h3 (by decide)
 have Hne := Hj hne
 clear hrow hne
 by_cases hpn : pos ≤ n
 ·have hm : (n < pos) = False := eq_false (by omega)
  have hpc : (pos : Int) ≤ (c : Int) := by omega
  have hp0 : (0 : Int) ≤ (pos : Int) := by omega
  have HM : Hid (min pos n = pos) := Hj (by omega)
  go_still_tail 12, (by kernel_rfl)
  change wpList _ _ _ _ _ w1.drew
  go_wp2
  refine bodyPost_ret (results_none rfl _ _ _) rfl ⟨rfl, ?_, ?_, ((Fr.of_below (S := fun k => k = g) HD1.out).setCell (p := ⟨g, off + a, none⟩) (fun _ => rfl) _).drew⟩
  ·rw [HM.out]; exact Hrow.out _
  ·rw [HM.out]
   exact OB.cutTo (OB.keepB (OB.below Hown.out HD1.out) fun k hk => Below.heap_setCell w1 ⟨g, off + a, none⟩ _ k (Hne.out k hk)) pos (by omega)
 ·have hm : (n < pos) = True := eq_true (by omega)
  have hpc : (n : Int) ≤ (c : Int) := by omega
  have hp0 : (0 : Int) ≤ (n : Int) := by omega
  have HM : Hid (min pos n = n) := Hj (by omega)
  have HT : Hid (l.take pos = l.take n) := Hj (by rw [List.take_of_length_le (by omega), List.take_of_length_le (by omega)])
  go_still_tail 12, (by kernel_rfl)
  change wpList _ _ _ _ _ w1.drew
  go_wp2
  refine bodyPost_ret (results_none rfl _ _ _) rfl ⟨rfl, ?_, ?_, ((Fr.of_below (S := fun k => k = g) HD1.out).setCell (p := ⟨g, off + a, none⟩) (fun _ => rfl) _).drew⟩
  ·rw [HM.out]; exact Hrow.out _
  ·rw [HM.out, HT.out]
   exact OB.cutTo (OB.keepB (OB.below Hown.out HD1.out) fun k hk => Below.heap_setCell w1 ⟨g, off + a, none⟩ _ k (Hne.out k hk)) n (by omega)
end Go.Proofs.YtfmagnpmjlppiaaGreatDoor

/- disk.image.do of a write. -/
namespace Go.Proofs.YtfmagnpmjlppiaaGreatDoor
open Go.RowKit

theorem below_drewz {B : Nat} {a w : World} (h : Below B a w) : Below B a w.drew := ⟨h.os, h.tape, h.output, h.size, h.block⟩
theorem fr_cell2 {S : Nat → Prop} {w w' : World} {b o : Nat} {v : Value} (hf : Fr S w w') (hne : ¬ S b) (h : w.cell? ⟨b, o, none⟩ = some v) : w'.cell? ⟨b, o, none⟩ = some v :=
 (hf.cell (World.block_lt_of_cell? w _ h) hne).trans h
theorem ob_some {w : World} {B n c : Nat} {A : Option Addr} {l : List UInt8} (h : OB w B (.slice A n c) l) (hl : l.length = n) (hn : 0 < n) : ∃ g o, A = some ⟨g, o, none⟩ := by
 rcases h.2 with ⟨_, h0⟩ | ⟨g, o, cap, cur, h1, _⟩
 ·omega
 ·injection h1 with h1 _ _
  exact ⟨g, o, h1⟩
theorem doB_write (l bs : List UInt8) (a pos : Nat) : doB l ⟨a, pos, bs, false⟩ = (padTo l (pos + bs.length)).take pos ++ bs ++ (padTo l (pos + bs.length)).drop (pos + bs.length) := rfl

set_option maxHeartbeats 4000000 in
set_option maxRecDepth 100000 in
theorem do_write (g off a pos nb cb : Nat) (cs : Array Value) (A Ab : Option Addr) (n c : Nat) (l bs : List UInt8) (w : World) (hg : w.heap[g]? = some (.cells cs 78 (0, 0))) (ha : a < 3)
  (hc : cs[off + a]? = some (.slice A n c)) (hown : OB w 0 (.slice A n c) l) (hn : l.length = n) (hncap : n ≤ c) (hl : l.length ≤ 1048576) (hp : pos + nb ≤ 1048576) (hb : RB w Ab nb bs)
  (hap : 0 < nb → ∀ b' o', Ab = some ⟨b', o', none⟩ → (Value.slice A n c).ownBlock ≠ some b') :
  Calls Tryz.prog 47 #[.pointer (some ⟨g, off, none⟩), .agg #[.int .i64 (a : Int), .int .i64 (pos : Int), .slice Ab nb cb, .bool false]] w fun e w' => e = .returned (.tuple #[]) ∧
   ∃ v', w'.heap[g]? = some (.cells (cs.setIfInBounds (off + a) v') 78 (0, 0)) ∧ OB w' 0 v' (doB l ⟨a, pos, bs, false⟩) ∧ (v'.ownBlock = (Value.slice A n c).ownBlock ∨ ∃ k, v'.ownBlock = some k ∧ w.heap.size ≤ k) ∧ Fr (doS g (.slice A n c)) w w' := by
 have Hg := Hj hg
 have Hown := Hj hown
 have Hb := Hj hb
 have hbl := Hj hb.1
 have c0 : w.cell? ⟨g, off + a, none⟩ = some (.slice A n c) := by rw [cell_of_row _ _ _ _ _ _ hg]; exact hc
 have D0 := (Below.refl w.heap.size w).alloc Kj (.cells #[.int .i64 (a : Int), .int .i64 (pos : Int), .slice Ab nb cb, .bool false] 105)
 have c0a := Kz D0 _ _ c0
 have a0 : (0 : Int) ≤ (a : Int) := by omega
 have a1 : (a : Int) < 3 := by omega
 have hne : ∀ q, (Value.slice A n c).ownBlock = some q → q ≠ g ∧ q < w.heap.size := fun q hq => ⟨fun e => by
  subst e
  rcases Hown.out.2 with ⟨h1, _⟩ | ⟨g', o', cap', cur, h1, _, h3, _⟩
  ·rw [h1] at hq; cases hq
  ·rw [h1] at hq
   injection hq with hq
   subst hq
   rw [Hg.out] at h3
   injection h3 with h3
   injection h3 with _ h3 _
   exact absurd h3 (by decide), (OB.lt hown q hq).2⟩
 have Hne := Hj hne
 have Hap := Hj hap
 have hgl := Hj ((Cz hg))
 clear hg hown hb hne hap
 go_enter Tryz.func47, Tryz.ntmps47
 go_wp2
 go_quiet (fail)
 obtain ⟨w1, hw1⟩ : ∃ W, W = (w.alloc (.cells #[.int .i64 (a : Int), .int .i64 (pos : Int), .slice Ab nb cb, .bool false] 105)).drewN nq := ⟨_, rfl⟩
 have D1 : Below w.heap.size w w1 := by rw [hw1]; exact below_drewN D0 nq
 have hbx : w1.heap[w.heap.size]? = some (.cells #[.int .i64 (a : Int), .int .i64 (pos : Int), .slice Ab nb cb, .bool false] 105) := by rw [hw1]; exact heap_alloc_new w _
 have HS1 : Hid (w1.heap.size = w.heap.size + 1) := Hj (by rw [hw1]; exact (show (w.alloc (.cells #[.int .i64 (a : Int), .int .i64 (pos : Int), .slice Ab nb cb, .bool false] 105)).heap.size = w.heap.size + 1 by simp))
 have b0 : w1.cell? ⟨w.heap.size, 0, none⟩ = some (.int .i64 (a : Int)) := Kq 0 hbx
 have b1 : w1.cell? ⟨w.heap.size, 1, none⟩ = some (.int .i64 (pos : Int)) := Kq 1 hbx
 have b2 : w1.cell? ⟨w.heap.size, 2, none⟩ = some (.slice Ab nb cb) := Kq 2 hbx
 have b3 : w1.cell? ⟨w.heap.size, 3, none⟩ = some (.bool false) := Kq 3 hbx
 rw [← hw1]
 have HD1 := Hj D1
 have Hbx := Hj hbx
 clear hw1 c0 c0a D0 D1 hbx
 by_cases hgr : n < pos + nb
 ·have q1 : decide ((n : Int) < (pos : Int) + (nb : Int)) = true := decide_eq_true (by omega)
  have HOW1 : Hid (OB w1 0 (.slice A n c) l) := Hj (OB.below Hown.out HD1.out)
  have HG1 := Hj ((HD1.out.block g hgl.out).trans Hg.out)
  obtain ⟨N, hN⟩ : ∃ N, N = pos + nb := ⟨_, rfl⟩
  have hN1 : N ≤ pos + nb := by omega
  have hN2 : pos + nb ≤ N := by omega
  have hLN : (l ++ List.replicate (pos + nb - n) 0).length = N := by rw [List.length_append, List.length_replicate, hn]; omega
  have HLN := Hj hLN
  have HNe := Hj hN
  clear hN hLN
  go_wp2_with (at_builtin; refine wpList_append_zeros rfl (.tmp 36) (.tmp 40) rfl HOW1.out rfl (m := pos + nb - n) (congrArg (Value.int .i64) (show (pos : Int) + (nb : Int) - (n : Int) = ((pos + nb - n : Nat) : Int) by omega)) (by omega) (by omega) (Nat.zero_le _) ?_; intro v2 w2 hown2 hgr2 hat2; obtain ⟨A2, c2, hv2, hc2, hm2, -⟩ := hown2.form; rw [HLN.out] at hv2 hc2; subst hv2; have H2 := Hj hown2; have G2 := Hj hgr2; have T2 := Hj hat2; clear hown2 hgr2 hat2)
  have hs1 : Hid (w1.heap.size = w.heap.size + 1) := Hj HS1.out
  have F2 := Hj (Fr.of_grown G2.out)
  have HBX := Hj ((F2.out.block w.heap.size (by have := hs1.out; omega) (fun h => by have := (Hne.out _ h.symm).2; omega)).trans Hbx.out)
  have HOW : Hid (OB w2.drew 0 (.slice A2 N c2) (l ++ List.replicate (pos + nb - n) 0)) := H2
  have HGW := Hj ((F2.out.block g (by have := hs1.out; have := hgl.out; omega) (fun h => (Hne.out _ h.symm).1 rfl)).trans HG1.out)
  have HRB : Hid (RB w2.drew Ab nb bs) := Hj ⟨hbl.out, fun h0 => by
   obtain ⟨b', o', rfl, hcc⟩ := Hb.out.2 h0
   refine ⟨b', o', rfl, fun k hk => ?_⟩
   have h1 := Kz HD1.out _ _ (hcc k hk)
   exact fr_cell2 F2.out.drew (fun h => Hap.out h0 b' o' rfl (Eq.symm h)) h1⟩
  have HT2 : Hid (∀ k, (Value.slice A2 N c2).ownBlock = some k → (Value.slice A n c).ownBlock = some k ∨ k = w.heap.size + 1) := Hj (fun k hk => by
   rcases T2.out with h | h
   ·exact .inl (h.symm.trans hk)
   ·rw [h] at hk
    injection hk with hk
    exact .inr (by rw [← hk]; exact hs1.out))
  have HXN : Hid (¬ (Value.slice A2 N c2).ownBlock = some w.heap.size) := Hj (fun h => by
   rcases HT2.out _ h with h | h
   ·have := (Hne.out _ h).2; omega
   ·omega)
  have HGN : Hid (¬ (Value.slice A2 N c2).ownBlock = some g) := Hj (fun h => by
   rcases HT2.out _ h with h | h
   ·exact (Hne.out _ h).1 rfl
   ·have := hgl.out; omega)
  have HAL : Hid ((Value.slice A2 N c2).ownBlock = (Value.slice A n c).ownBlock ∨ ∃ k, (Value.slice A2 N c2).ownBlock = some k ∧ w.heap.size ≤ k) := Hj (by
   rcases T2.out with h | h
   ·exact .inl h
   ·exact .inr ⟨_, h, by have := hs1.out; omega⟩)
  have HDO : Hid (doB l ⟨a, pos, bs, false⟩ = (l ++ List.replicate (pos + nb - n) 0).take pos ++ bs ++ (l ++ List.replicate (pos + nb - n) 0).drop (pos + nb)) := Hj (by rw [doB_write, hbl.out]; unfold padTo; rw [hn])
  have HFW : Hid (Fr (doS g (.slice A n c)) w w2.drew) := Hj ((((Fr.of_below HD1.out).trans F2.out (fun k _ h => .inr h.symm)).drew))
  have HSub : Hid (∀ k, k < w.heap.size → (Value.slice A2 N c2).ownBlock = some k → doS g (.slice A n c) k) := Hj (fun k hk h => by
   rcases HT2.out _ h with h | h
   ·exact .inr h
   ·omega)
  rcases Nat.eq_zero_or_pos nb with hz | hz
  focus
   have Hz := Hj hz
   clear hz
   by_cases hcq : c2 = pos
   focus
    have hcp : (c2 = pos) = True := eq_true hcq
   rotate_right
   focus
    have hcp : (c2 = pos) = False := eq_false hcq
   all_goals
    clear hcq
    have e1 : w2.drew.cell? ⟨w.heap.size, 1, none⟩ = some (.int .i64 (pos : Int)) := Kq 1 HBX.out
    have e2 : w2.drew.cell? ⟨w.heap.size, 2, none⟩ = some (.slice Ab nb cb) := Kq 2 HBX.out
    have hpN : (pos : Int) ≤ ((N : Nat) : Int) := by omega
    have hp0 : (0 : Int) ≤ (pos : Int) := by omega
    have hNc : ((N : Nat) : Int) ≤ ((c2 : Nat) : Int) := by omega
    skip
    go_region_held3 (fun w' => w'.cell? ⟨w.heap.size, 1, none⟩ = some (.int .i64 (pos : Int)) ∧ w'.cell? ⟨w.heap.size, 2, none⟩ = some (.slice Ab nb cb)) (first | assumption | go_keep)
     (first | ((refine step_copy_ob (w := w2.drew) rfl (.tmp 45) (.tmp 47) (by rfl) (B := 0) (n := N) (c := c2) (pos := pos) (nb := nb) (A := A2) (l := (l ++ List.replicate (pos + nb - n) 0)) HOW.out HLN.out (by omega) (by rfl) (fun h => absurd h (by have := Hz.out; omega)) (by rfl) HRB.out ?_; intro w3 hown3 hf3; have s1 := fr_cell2 hf3 HXN.out e1; have s2 := fr_cell2 hf3 HXN.out e2; have H3 := Hj hown3; have F3 := Hj hf3; clear hown3 hf3)))
  rotate_right
  focus
   obtain ⟨gb, ob, hAv⟩ : ∃ gb ob, A2 = some ⟨gb, ob, none⟩ := ob_some HOW.out HLN.out (by omega)
   subst hAv
   have e1 : w2.drew.cell? ⟨w.heap.size, 1, none⟩ = some (.int .i64 (pos : Int)) := Kq 1 HBX.out
   have e2 : w2.drew.cell? ⟨w.heap.size, 2, none⟩ = some (.slice Ab nb cb) := Kq 2 HBX.out
   have hpN : (pos : Int) ≤ ((N : Nat) : Int) := by omega
   have hp0 : (0 : Int) ≤ (pos : Int) := by omega
   have hNc : ((N : Nat) : Int) ≤ ((c2 : Nat) : Int) := by omega
   have hcp : (c2 = pos) = False := eq_false (by omega)
   go_region_held3 (fun w' => w'.cell? ⟨w.heap.size, 1, none⟩ = some (.int .i64 (pos : Int)) ∧ w'.cell? ⟨w.heap.size, 2, none⟩ = some (.slice Ab nb cb)) (first | assumption | go_keep)
    (first | ((refine step_copy_ob (w := w2.drew) rfl (.tmp 45) (.tmp 47) (by rfl) (B := 0) (n := N) (c := c2) (pos := pos) (nb := nb) (A := (some ⟨gb, ob, none⟩)) (l := (l ++ List.replicate (pos + nb - n) 0)) HOW.out HLN.out (by omega) (by rfl) (fun _ g1 o1 e => by injection e with e; injection e with e1 e2; subst e1 e2; rfl) (by rfl) HRB.out ?_; intro w3 hown3 hf3; have s1 := fr_cell2 hf3 HXN.out e1; have s2 := fr_cell2 hf3 HXN.out e2; have H3 := Hj hown3; have F3 := Hj hf3; clear hown3 hf3)))
  all_goals
   go_wp2
   have HG3 := Hj ((F3.out.block g (Cz HGW.out) HGN.out).trans HGW.out)
   have HB3 := Hj ((F3.out.block w.heap.size (Cz HBX.out) HXN.out).trans HBX.out)
   have k0 : w3.cell? ⟨w.heap.size, 0, none⟩ = some (.int .i64 (a : Int)) := Kq 0 HB3.out
   have k1 : w3.frozen? ⟨g, off + a, none⟩ = false := Kx HG3.out
   have k2 : w3.cell? ⟨g, off + a, none⟩ = some (.slice A n c) := by rw [cell_of_row _ _ _ _ _ _ HG3.out]; exact hc
   go_still_tail 6, (by kernel_rfl)
   change wpList _ _ _ _ _ w3.drew
   go_wp2
   refine bodyPost_end (results_none rfl _ _ _) rfl ⟨rfl, _, heap_setCell_same _ _ _ _ _ _ HG3.out, ?_, HAL.out, ?_⟩
   ·rw [HDO.out]
    exact OB.keepB H3.out fun k hk => Below.heap_setCell w3 ⟨g, off + a, none⟩ _ k (fun e => HGN.out (by rw [← show k = g from e]; exact hk))
   ·exact ((HFW.out.trans F3.out (fun k hk h => HSub.out k hk h)).setCell (p := ⟨g, off + a, none⟩) (fun _ => .inl rfl) _).drew
 ·have q1 : decide ((n : Int) < (pos : Int) + (nb : Int)) = false := decide_eq_false (by omega)
  go_wp2
  have HBX := Hbx
  have HOW : Hid (OB w1.drew 0 (.slice A n c) l) := Hj (OB.below Hown.out (below_drewz HD1.out))
  have HLN := Hj hn
  have HRB : Hid (RB w1.drew Ab nb bs) := Hj ((Hb.out.keep (Kz HD1.out)).keep (Keeps.drew _))
  have HGW := Hj ((HD1.out.block g hgl.out).trans Hg.out)
  have HXN : Hid (¬ (Value.slice A n c).ownBlock = some w.heap.size) := Hj (fun h => by have := (Hne.out _ h).2; omega)
  have HGN : Hid (¬ (Value.slice A n c).ownBlock = some g) := Hj (fun h => (Hne.out _ h).1 rfl)
  have HAL : Hid ((Value.slice A n c).ownBlock = (Value.slice A n c).ownBlock ∨ ∃ k, (Value.slice A n c).ownBlock = some k ∧ w.heap.size ≤ k) := Hj (.inl rfl)
  have HDO : Hid (doB l ⟨a, pos, bs, false⟩ = l.take pos ++ bs ++ l.drop (pos + nb)) := Hj (by rw [doB_write, hbl.out, padTo_le _ _ (by omega)])
  have HFW : Hid (Fr (doS g (.slice A n c)) w w1.drew) := Hj (Fr.of_below (below_drewz HD1.out))
  have HSub : Hid (∀ k, k < w.heap.size → (Value.slice A n c).ownBlock = some k → doS g (.slice A n c) k) := Hj (fun k _ h => .inr h)
  rcases Nat.eq_zero_or_pos nb with hz | hz
  focus
   have Hz := Hj hz
   clear hz
   by_cases hcq : c = pos
   focus
    have hcp : (c = pos) = True := eq_true hcq
   rotate_right
   focus
    have hcp : (c = pos) = False := eq_false hcq
   all_goals
    clear hcq
    have e1 : w1.drew.cell? ⟨w.heap.size, 1, none⟩ = some (.int .i64 (pos : Int)) := Kq 1 HBX.out
    have e2 : w1.drew.cell? ⟨w.heap.size, 2, none⟩ = some (.slice Ab nb cb) := Kq 2 HBX.out
    have hpN : (pos : Int) ≤ ((n : Nat) : Int) := by omega
    have hp0 : (0 : Int) ≤ (pos : Int) := by omega
    have hNc : ((n : Nat) : Int) ≤ ((c : Nat) : Int) := by omega
    skip
    go_region_held3 (fun w' => w'.cell? ⟨w.heap.size, 1, none⟩ = some (.int .i64 (pos : Int)) ∧ w'.cell? ⟨w.heap.size, 2, none⟩ = some (.slice Ab nb cb)) (first | assumption | go_keep)
     (first | ((refine step_copy_ob (w := w1.drew) rfl (.tmp 45) (.tmp 47) (by rfl) (B := 0) (n := n) (c := c) (pos := pos) (nb := nb) (A := A) (l := l) HOW.out HLN.out (by omega) (by rfl) (fun h => absurd h (by have := Hz.out; omega)) (by rfl) HRB.out ?_; intro w3 hown3 hf3; have s1 := fr_cell2 hf3 HXN.out e1; have s2 := fr_cell2 hf3 HXN.out e2; have H3 := Hj hown3; have F3 := Hj hf3; clear hown3 hf3)))
    go_wp2
    have HG3 := Hj ((F3.out.block g (Cz HGW.out) HGN.out).trans HGW.out)
    have HB3 := Hj ((F3.out.block w.heap.size (Cz HBX.out) HXN.out).trans HBX.out)
    have k0 : w3.cell? ⟨w.heap.size, 0, none⟩ = some (.int .i64 (a : Int)) := Kq 0 HB3.out
    have k1 : w3.frozen? ⟨g, off + a, none⟩ = false := Kx HG3.out
    have k2 : w3.cell? ⟨g, off + a, none⟩ = some (.slice A n c) := by rw [cell_of_row _ _ _ _ _ _ HG3.out]; exact hc
  rotate_right
  focus
   obtain ⟨gb, ob, hAv⟩ : ∃ gb ob, A = some ⟨gb, ob, none⟩ := ob_some HOW.out HLN.out (by omega)
   subst hAv
   have e1 : w1.drew.cell? ⟨w.heap.size, 1, none⟩ = some (.int .i64 (pos : Int)) := Kq 1 HBX.out
   have e2 : w1.drew.cell? ⟨w.heap.size, 2, none⟩ = some (.slice Ab nb cb) := Kq 2 HBX.out
   have hpN : (pos : Int) ≤ ((n : Nat) : Int) := by omega
   have hp0 : (0 : Int) ≤ (pos : Int) := by omega
   have hNc : ((n : Nat) : Int) ≤ ((c : Nat) : Int) := by omega
   have hcp : (c = pos) = False := eq_false (by omega)
   go_region_held3 (fun w' => w'.cell? ⟨w.heap.size, 1, none⟩ = some (.int .i64 (pos : Int)) ∧ w'.cell? ⟨w.heap.size, 2, none⟩ = some (.slice Ab nb cb)) (first | assumption | go_keep)
    (first | ((refine step_copy_ob (w := w1.drew) rfl (.tmp 45) (.tmp 47) (by rfl) (B := 0) (n := n) (c := c) (pos := pos) (nb := nb) (A := (some ⟨gb, ob, none⟩)) (l := l) HOW.out HLN.out (by omega) (by rfl) (fun _ g1 o1 e => by injection e with e; injection e with e1 e2; subst e1 e2; rfl) (by rfl) HRB.out ?_; intro w3 hown3 hf3; have s1 := fr_cell2 hf3 HXN.out e1; have s2 := fr_cell2 hf3 HXN.out e2; have H3 := Hj hown3; have F3 := Hj hf3; clear hown3 hf3)))
   go_wp2
   have HG3 := Hj ((F3.out.block g (Cz HGW.out) HGN.out).trans HGW.out)
   have HB3 := Hj ((F3.out.block w.heap.size (Cz HBX.out) HXN.out).trans HBX.out)
   have k0 : w3.cell? ⟨w.heap.size, 0, none⟩ = some (.int .i64 (a : Int)) := Kq 0 HB3.out
   have k1 : w3.frozen? ⟨g, off + a, none⟩ = false := Kx HG3.out
   have k2 : w3.cell? ⟨g, off + a, none⟩ = some (.slice (some ⟨gb, ob, none⟩) n c) := by rw [cell_of_row _ _ _ _ _ _ HG3.out]; exact hc
  all_goals
   go_still_tail 6, (by kernel_rfl)
   change wpList _ _ _ _ _ w3.drew
   go_wp2
   refine bodyPost_end (results_none rfl _ _ _) rfl ⟨rfl, _, heap_setCell_same _ _ _ _ _ _ HG3.out, ?_, .inl rfl, ?_⟩
   ·rw [HDO.out]
    exact OB.keepB H3.out fun k hk => Below.heap_setCell w3 ⟨g, off + a, none⟩ _ k (fun e => HGN.out (by rw [← show k = g from e]; exact hk))
   ·exact ((HFW.out.trans F3.out (fun k hk h => HSub.out k hk h)).setCell (p := ⟨g, off + a, none⟩) (fun _ => .inl rfl) _).drew
end Go.Proofs.YtfmagnpmjlppiaaGreatDoor
