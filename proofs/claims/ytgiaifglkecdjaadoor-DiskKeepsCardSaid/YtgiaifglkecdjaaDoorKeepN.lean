/- A disk and a block beside it that is not its own. -/
import Derived.Test.YtgiaifglkecdjaaDoorDiskS
namespace Go.Proofs.YtgiaifglkecdjaaDoor
open Go.RowKit

def DSn (w0 w : World) (g : Nat) (m : DM) (q : Nat) : Prop := ∃ O, DiskAt w O g m ∧ (∀ k, O k → w0.heap.size ≤ k ∧ k ≠ q) ∧ Below w0.heap.size w0 w ∧ q < w.heap.size ∧ w0.heap.size ≤ q
section
variable {w0 w w' : World} {g q : Nat} {m m' : DM} {ea : Nat → Addr}
theorem DiskV.fr {O S : Nat → Prop} {bv : Nat → Value} {wv : Value} {ws : List (DChg × Value)} (h : DiskV w O g m bv wv ws) (hf : Fr S w w') (hn : ∀ k, O k → ¬ S k) : DiskV w' O g m bv wv ws :=
  ⟨(hf.block g h.lt (hn g h.ownG)).trans h.cells, fun i hi => OwnS.kept (h.areas i hi) hf (fun k hk => hn k (h.ownB i hi k hk)), OwnS.kept h.wts hf (fun k hk => hn k (h.ownW k hk)), h.eq, fun x hx => OwnS.kept (h.bytes x hx) hf (fun k hk => hn k (h.ownX x hx k hk)), h.apart, h.apartW, h.ownG, h.ownB, h.ownW, h.ownX⟩
theorem DSn.ds (h : DSn w0 w g m q) : DS w0 w g m := let ⟨O, h1, h2, h3, _⟩ := h; ⟨O, h1, fun k hk => (h2 k hk).1, h3⟩
theorem DSn.bel (h : DSn w0 w g m q) : Below w0.heap.size w0 w := let ⟨_, _, _, h, _⟩ := h; h
theorem DSn.made (h : DS w0 w g m) (o : Obj) : DSn w0 (w.alloc o) g m w.heap.size := by
  obtain ⟨O, ⟨bv, wv, ws, hv⟩, ho, hb⟩ := h
  have h1 := (Below.refl w.heap.size w).alloc (Nat.le_refl _) o
  exact ⟨fun k => O k ∧ k < w.heap.size, ⟨bv, wv, ws, (hv.mono fun k hk h => ⟨h, hk⟩).below h1⟩, fun k hk => ⟨ho k hk.1, Nat.ne_of_lt hk.2⟩, hb.trans (h1.mono hb.size), by simp, hb.size⟩
theorem DSn.below (h : DSn w0 w g m q) (hb : Below w.heap.size w w') : DSn w0 w' g m q := by
  obtain ⟨O, ⟨bv, wv, ws, hv⟩, ho, hb0, hq, hq0⟩ := h
  exact ⟨O, ⟨bv, wv, ws, hv.below hb⟩, ho, hb0.trans (hb.mono hb0.size), Nat.lt_of_lt_of_le hq hb.size, hq0⟩
theorem DSn.store (h : DSn w0 w g m q) (hf : Fr (fun k => k = q) w w') : DSn w0 w' g m q := by
  obtain ⟨O, ⟨bv, wv, ws, hv⟩, ho, hb0, hq, hq0⟩ := h
  exact ⟨O, ⟨bv, wv, ws, hv.fr hf fun k hk => (ho k hk).2⟩, ho, hb0.trans (hf.below hb0.size fun k _ e => by subst e; exact hq0), Nat.lt_of_lt_of_le hq hf.size, hq0⟩
theorem DSn.of {O : Nat → Prop} (ho : ∀ k, O k → w0.heap.size ≤ k ∧ k ≠ q) (hb : Below w0.heap.size w0 w) (hq : q < w.heap.size) (hq0 : w0.heap.size ≤ q) (hd : DiskAt w' (ext O w w') g m') (hf : Fr O w w') : DSn w0 w' g m' q ∧ w'.heap[q]? = w.heap[q]? :=
  ⟨⟨_, hd, fun k hk => hk.elim (ho k) fun h => ⟨Nat.le_trans hb.size h.1, fun e => by have := h.1; omega⟩, hb.trans (hf.below hb.size fun k _ hk => (ho k hk).1), Nat.lt_of_lt_of_le hq hf.size, hq0⟩, hf.block q hq fun h => (ho q h).2 rfl⟩
theorem Write_N (area at_ : Int) (A : Option Addr) (n k : Nat) (bs : List UInt8) (hS : DSn w0 w g m q) (hok : m.Ok) (hE : DErrs w0 ea) (hg : 26 ≤ g) (hb : RB w A n bs) (hn : n ≤ 1048576) (hw : m.waits.length ≤ 1000) :
    Calls Tryd.prog 23 #[.pointer (some ⟨g, 0, none⟩), .int .i64 area, .int .i64 at_, .slice A n k] w fun e w' => e = .returned (dErr ea (m.writeE area at_ bs.length)) ∧ DSn w0 w' g (m.write area at_ bs) q ∧ w'.heap[q]? = w.heap[q]? := by
  obtain ⟨O, hd, ho, hb0, hq, hq0⟩ := hS
  refine (DWrite_any area at_ A n k bs hd hok (hE.keep (Keeps.of_below hb0)) hg hb hn hw).mono ?_
  rintro e w' ⟨rfl, hd', hf⟩
  exact ⟨rfl, DSn.of ho hb0 hq hq0 hd' hf⟩
theorem Crash_N (hS : DSn w0 w g m q) (hok : m.Ok) (hw : m.waits.length ≤ 1000) (kept s torn : Int) (hs0 : 0 ≤ s) (hs1 : s ≤ 18446744073709551615) :
    Calls Tryd.prog 26 #[.pointer (some ⟨g, 0, none⟩), .int .i64 kept, .int .u64 s, .int .i64 torn] w fun e w' => e = .returned (.tuple #[]) ∧ DSn w0 w' g (m.crash kept s torn) q ∧ w'.heap[q]? = w.heap[q]? := by
  obtain ⟨O, hd, ho, hb0, hq, hq0⟩ := hS
  refine (Crash_any hd hok hw kept s torn hs0 hs1).mono ?_
  rintro e w' ⟨rfl, hd', hf⟩
  exact ⟨rfl, DSn.of ho hb0 hq hq0 hd' hf⟩
theorem Read_N (a : Nat) (l : List UInt8) (hl : m.b (3 + a) = l) (ha : a < 3) (hS : DSn w0 w g m q) (hok : m.Ok) (hg : m.gone = false) : Calls Tryd.prog 25 #[.pointer (some ⟨g, 0, none⟩), .int .i64 (a : Int)] w fun e w' => ∃ A c, e = .returned (.tuple #[.slice A l.length c, .nilIface]) ∧
    (convert 22 9 (.slice A l.length c)).run Tryd.prog w' = .ok (.string ⟨l.toArray⟩) w' ∧ (∀ k, (convert 22 9 (.slice A l.length c)).run Tryd.prog (w'.drewN k) = .ok (.string ⟨l.toArray⟩) (w'.drewN k)) ∧ RB w' A l.length l ∧ DSn w0 w' g m q ∧ w'.heap[q]? = w.heap[q]? := by
  refine (Read_S a l hl ha hS.ds hok hg).mono ?_
  rintro e w' ⟨A, c, rfl, hr, _, hb⟩
  refine ⟨A, c, rfl, run_bytes_string (P := Tryd.prog) Tryd.underlying22 Tryd.underlying5 Tryd.underlying9 (c := c) hr, fun k => run_bytes_string (P := Tryd.prog) Tryd.underlying22 Tryd.underlying5 Tryd.underlying9 (c := c) (hr.keep (Keeps.of_below (below_drewN (Below.refl _ _) k))), hr, hS.below hb, ?_⟩
  obtain ⟨_, _, _, _, hq, _⟩ := hS
  exact hb.block q hq
end
end Go.Proofs.YtgiaifglkecdjaaDoor
