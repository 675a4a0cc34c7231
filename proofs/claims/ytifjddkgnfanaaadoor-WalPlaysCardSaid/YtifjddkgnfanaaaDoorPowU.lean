/- Layer 18 (wal): a call on a disk on which nothing waits, whatever the power does. In plain words. -/
import Derived.Test.YtifjddkgnfanaaaDoorWalK
import Derived.Test.YtifjddkgnfanaaaDoorAlive18
import Derived.Test.YtifjddkgnfanaaaDoorWalN
import Derived.Test.YtifjddkgnfanaaaDoorActs18
import Derived.Test.YtifjddkgnfanaaaDoorSameLists
import Derived.Test.YtifjddkgnfanaaaDoorErrs
namespace Go.Proofs.YtifjddkgnfanaaaDoor
section
variable {m : DM} {A : Nat → List UInt8} {L : LM}
theorem sync_waits (m : DM) : m.sync.waits.length ≤ m.waits.length := by
  unfold DM.sync
  split
  · rw [m.unit_waits]; exact Nat.le_refl _
  · exact Nat.zero_le _
theorem write_waits1 (m : DM) (a p : Int) (bs : List UInt8) : (m.write a p bs).waits.length ≤ m.waits.length + 1 := by
  unfold DM.write
  split
  · show (m.unit.waits ++ [_]).length ≤ _
    rw [m.unit_waits, List.length_append]; simp
  · split
    · rw [m.unit_waits]; omega
    · omega
theorem cut_waits1 (m : DM) (a n : Int) : (m.cut a n).waits.length ≤ m.waits.length + 1 := by
  unfold DM.cut
  split
  · show (m.unit.waits ++ [_]).length ≤ _
    rw [m.unit_waits, List.length_append]; simp
  · split
    · rw [m.unit_waits]; omega
    · omega
theorem wrM_waits1 (m : DM) (a p : Int) (bs : List UInt8) : (wrM m a p bs).waits.length ≤ m.waits.length + 1 := by
  unfold wrM
  split
  · exact Nat.le_trans (sync_waits _) (write_waits1 _ _ _ _)
  · exact write_waits1 _ _ _ _
theorem clM_waits1 (m : DM) (a : Int) : (clM m a).waits.length ≤ m.waits.length + 1 := by
  unfold clM
  split
  · exact Nat.le_trans (sync_waits _) (cut_waits1 _ _ _)
  · exact cut_waits1 _ _ _
theorem swM_waits3 (m : DM) (a : Int) (bs : List UInt8) : (swM m a bs).waits.length ≤ m.waits.length + 3 := by
  unfold swM
  split
  · split
    · have h1 := clM_waits1 (wrM (clM m a) a 0 bs) 2
      have h2 := wrM_waits1 (clM m a) a 0 bs
      have h3 := clM_waits1 m a
      omega
    · have h2 := wrM_waits1 (clM m a) a 0 bs
      have h3 := clM_waits1 m a
      omega
  · have h3 := clM_waits1 m a
    omega
theorem appM_waits (m : DM) (L : LM) (t : List UInt8) : (L.appM m t).waits.length ≤ m.waits.length + 3 := by
  unfold LM.appM
  split
  · have := wrM_waits1 m 2 (endOf L.recs : Int) (recB L.gen L.recs.length t); omega
  · omega
theorem cpM_waits (m : DM) (L : LM) (t : List UInt8) : (L.cpM m t).waits.length ≤ m.waits.length + 3 := by
  unfold LM.cpM
  split
  · exact swM_waits3 _ _ _
  · omega
theorem DM.Ok.appM (h : m.Ok) (L : LM) (t : List UInt8) : (L.appM m t).Ok := by
  unfold LM.appM
  split
  · exact h.wrM _ _ _
  · exact h
theorem DM.Ok.cpM (h : m.Ok) (L : LM) (t : List UInt8) : (L.cpM m t).Ok := by
  unfold LM.cpM
  split
  · exact h.swM _ _
  · exact h

/-- All that a crash can leave reads as the one or the other. -/
def Either (m : DM) (L L' : LM) : Prop := ∀ kept s torn, ∃ B, (m.crash kept s torn).Is B ∧ (Reads B L ∨ Reads B L')
theorem pow_app (h : m.Is A) (hL : L.On A) (hd : L.dead = false) (t : List UInt8) (ht : t.length ≤ 16384) :
    (L.appE m t = 26 ∧ L.appM m t = m ∧ L.app m t = L) ∨ (L.appE m t = 0 ∧ (∃ B, (L.appM m t).Is B ∧ (L.with t).On B) ∧ L.app m t = L.with t) ∨ (L.appE m t = 25 ∧ Either (L.appM m t) L (L.with t)) := by
  rcases room_cases (m := m) hd ht with hr | hr
  · rcases append_law h hL t hr with ⟨h0, B, b1, b2, b3, _⟩ | ⟨h25, _, hB⟩
    · exact .inr (.inl ⟨h0, ⟨B, b1, b3⟩, b2⟩)
    · exact .inr (.inr ⟨h25, hB⟩)
  · left
    unfold LM.appE LM.appM LM.app
    rw [if_neg (by omega), if_neg (by omega), if_neg (by omega)]
    exact ⟨hr, rfl, rfl⟩
theorem pow_cp (h : m.Is A) (hL : L.On A) (hd : L.dead = false) (t : List UInt8) :
    (L.cpE m t = 26 ∧ L.cpM m t = m ∧ L.cp m t = L) ∨ (L.cpE m t = 0 ∧ (∃ B, (L.cpM m t).Is B ∧ (L.new t).On B) ∧ L.cp m t = L.new t) ∨ (L.cpE m t = 25 ∧ Either (L.cpM m t) L (L.new t)) := by
  rcases space_cases (m := m) (t := t) hd with hr | hr
  · rcases compact_law h hL hL.reads.slot t hr with ⟨h0, B, b1, b2, b3, _⟩ | ⟨h25, _, hB⟩
    · exact .inr (.inl ⟨h0, ⟨B, b1, b3⟩, b2⟩)
    · exact .inr (.inr ⟨h25, hB⟩)
  · left
    unfold LM.cpE LM.cpM LM.cp
    rw [if_neg (by omega), if_neg (by omega), if_neg (by omega)]
    exact ⟨hr, rfl, rfl⟩
end
end Go.Proofs.YtifjddkgnfanaaaDoor

/- Layer 18: small laws that several of its walks use. -/
namespace Go.Proofs.YtifjddkgnfanaaaDoor
open Go.RowKit

theorem errOf_dErr (ea : Nat → Addr) (n : Nat) : errOf ea n = dErr ea n := by
  cases n with
  | zero => rfl
  | succ n => rfl
theorem EW.of_errs {w : World} {ea : Nat → Addr} (he : Errs w ea) (hs : ShaTabs w) : EW w ea :=
  ⟨hs, ⟨he.cell 1 (by decide) (by decide), he.cell 25 (by decide) (by decide), he.cell 26 (by decide) (by decide)⟩, he.cell 3 (by decide) (by decide), Nat.le_trans (by decide) hs.lt⟩
theorem EW.below {w w' : World} {ea : Nat → Addr} (h : EW w ea) (hb : Below w.heap.size w w') : EW w' ea := ⟨h.sha.keep (Keeps.of_below hb), h.d.keep (Keeps.of_below hb), Keeps.of_below hb _ _ h.long, Nat.le_trans h.size hb.size⟩
theorem DM.Is.arm {m : DM} {A : Nat → List UInt8} (h : m.Is A) {n : Int} (h0 : 0 ≤ n) (h1 : n ≤ 9223372036854775807) : (m.arm n).Is A := ⟨h.ok.arm h0 h1, h.gone, h.waits, h.sure, h.seen⟩

/-- A literal of no elements. -/
theorem own_empty {w : World} {q base : Nat} (h : w.heap[q]? = some (.cells #[] 28 (0, 0))) (hb : base ≤ q) : OwnS w base 28 1 (.slice (some ⟨q, 0, none⟩) 0 0) 0 [] :=
  ⟨rfl, .inr ⟨q, 0, 0, #[], rfl, hb, h, Nat.le_refl _, by unfold maxLen; omega, by simp, rfl⟩⟩

theorem grown_new {w wa w7 : World} {q : Nat} {n c : Nat} (hb : Below w.heap.size w wa) (hg : wa.grownBy w7 (Value.slice (some ⟨q, 0, none⟩) n c).ownBlock) (hq : w.heap.size ≤ q) : Below w.heap.size w w7 :=
  hb.grown hg hb.size fun k hk => by injection hk with hk; subst hk; exact hq

theorem two_allocs (w : World) (o1 o2 : Obj) : ((w.alloc o1).alloc o2).heap[w.heap.size]? = some o1 ∧ ((w.alloc o1).alloc o2).heap[w.heap.size + 1]? = some o2 ∧ Below w.heap.size w ((w.alloc o1).alloc o2) := by
  have hs : (w.alloc o1).heap.size = w.heap.size + 1 := by simp
  refine ⟨?_, ?_, ((Below.refl _ w).alloc (Nat.le_refl _) _).alloc (by simp) _⟩
  · rw [heap_alloc_old (w.alloc o1) o2 (by rw [hs]; omega)]
    exact heap_alloc_new w o1
  · rw [← hs]
    exact heap_alloc_new (w.alloc o1) o2
theorem src_kept {wa w7 : World} {q qX n c : Nat} {A : Option Addr} (hc : wa.heap[qX]? = some (.cells #[.slice A n c] 28 (0, 0))) (hg : wa.grownBy w7 (Value.slice (some ⟨q, 0, none⟩) 0 0).ownBlock) (hne : qX ≠ q) : Src Tryd.prog 1 22 (.slice (some ⟨qX, 0, none⟩) 1 1) 1 [.slice A n c] w7 := by
  have h7 : w7.heap[qX]? = some (.cells #[.slice A n c] 28 (0, 0)) := ((Fr.of_grown hg).block qX (Array.getElem?_eq_some_iff.1 hc).1 (fun e => by injection e with e; exact hne e)).trans hc
  exact Src.ofSlice _ Tryd.underlying22 _ _ 1 _ rfl (fun j u hu => World.news_of_block (cs := #[.slice A n c]) h7 j u hu) (fun u hu => by
    rw [List.mem_singleton.1 hu]; rfl)

theorem DM.Is.okL {m : DM} {A : Nat → List UInt8} {L : LM} (h : m.Is A) (hR : Reads A L) : L.Ok :=
  hR.ok (by rw [← h.sure 0 (by decide)]; exact h.ok.len _ (by decide)) (by rw [← h.sure 1 (by decide)]; exact h.ok.len _ (by decide)) (by rw [← h.sure 2 (by decide)]; exact h.ok.len _ (by decide))

end Go.Proofs.YtifjddkgnfanaaaDoor
