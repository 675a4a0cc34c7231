/- KeysCount: its walk. -/
import Derived.Test.YtlfeofakggkebaaDoorCountA
import Derived.Test.YtlfeofakggkebaaDoorRefFrm
import Derived.Deep.LoopGhost
import Derived.Deep.Cut
namespace Go.Proofs.YtlfeofakggkebaaDoor
open Go.RowKit Go.Instr

set_option maxHeartbeats 4000000 in
set_option maxRecDepth 100000 in
theorem KeysCount_long (A : Option Addr) (n c : Nat) (ask : Sgn) (w : World) {ea : Nat → Addr} (hE : Errs w ea) (ht : ShaTabs w) (h : 20 < n ∨ overS ask = true) :
    Calls Tryd.prog 4 #[.slice A n c, .agg #[.int .i64 ask.key, .string ask.dom, ask.v]] w fun e w' => e = .returned (.bool true) ∧ Below w.heap.size w w' := by
  unfold Sgn.v
  have D0 := Lib.hid ((Below.refl w.heap.size w).alloc (Nat.le_refl _) (.cells #[.int .i64 ask.key, .string ask.dom, .slice ask.A ask.msg.length ask.c] 36))
  obtain ⟨w0, hw0⟩ : ∃ W, W = w.alloc (.cells #[.int .i64 ask.key, .string ask.dom, .slice ask.A ask.msg.length ask.c] 36) := ⟨_, rfl⟩
  have HA := Lib.hid (alive10_any w0 (hE.below (by rw [hw0]; exact D0.out)) (ht.keep (Keeps.of_below (by rw [hw0]; exact D0.out))))
  have E0 : Hid (w0.heap[w.heap.size]? = some (.cells #[.int .i64 ask.key, .string ask.dom, .slice ask.A ask.msg.length ask.c] 36 (0, 0))) := Lib.hid (by rw [hw0]; exact heap_alloc_new w _)
  rw [← hw0] at D0
  have HW := Lib.hid hw0
  have hc : ∃ b1 b2 b3 : Bool, decide (20 < (n : Int)) = b1 ∧ decide (100 < (ask.dom.size : Int)) = b2 ∧ decide (200 < (ask.msg.length : Int)) = b3 ∧ (b1 = true ∨ b1 = false ∧ (b2 = true ∨ b2 = false ∧ b3 = true)) := by
    refine ⟨_, _, _, rfl, rfl, rfl, ?_⟩
    unfold overS at h
    simp only [Bool.or_eq_true, decide_eq_true_eq, decide_eq_false_iff_not] at h ⊢
    omega
  obtain ⟨b1, b2, b3, hb1, hb2, hb3, hb⟩ := hc
  clear hE ht h hw0
  rcases hb with rfl | ⟨rfl, rfl | ⟨rfl, rfl⟩⟩
  all_goals
    go_enter Tryd.func4, Tryd.ntmps4
    go_wp2_with fail
    rw [← HW.out]
    refine HA.out.mono ?_
    rintro e w1 ⟨rfl, h1⟩
    have D1 := Lib.hid h1
    have B1 := Lib.hid (D0.out.trans (h1.mono D0.out.size))
    have E1 := (D1.out.block w.heap.size (Array.getElem?_eq_some_iff.1 E0.out).1).trans E0.out
    have c1 : w1.cell? ⟨w.heap.size, 1, none⟩ = some (.string ask.dom) := cell_of_row _ _ 1 _ _ _ E1
    have c2 : w1.cell? ⟨w.heap.size, 2, none⟩ = some (.slice ask.A ask.msg.length ask.c) := cell_of_row _ _ 2 _ _ _ E1
    clear h1 E1
    go_wp2
    go_ret
    exact ⟨rfl, B1.out⟩

/-- The keys so far. -/
def Raws (w : World) (rb k : Nat) : Prop := ∃ cs, w.heap[rb]? = some (.cells cs 40 (0, 0)) ∧ cs.size = 3 ∧ ∀ j, j < k → ∃ q, cs[j]? = some (.slice (some ⟨q, 0, none⟩) 32 32) ∧ w.heap[q]? = some (.cells (bcells (keyI j)).toArray 5 (0, 0))
def IdsR (w : World) (ib k : Nat) : Prop := ∃ cs, w.heap[ib]? = some (.cells cs 39 (0, 0)) ∧ cs.size = 3 ∧ ∀ j, j < k → cs[j]? = some (.string (idI j))
def AskR (w : World) (ab : Nat) (ask : Sgn) : Prop := w.heap[ab]? = some (.cells #[.int .i64 ask.key, .string ask.dom, .slice ask.A ask.msg.length ask.c] 36 (0, 0))
theorem AskCell1 {w : World} {ab : Nat} {ask : Sgn} (h : AskR w ab ask) : w.cell? ⟨ab, 1, none⟩ = some (.string ask.dom) := cell_of_row _ _ 1 _ _ _ h
theorem AskCell2 {w : World} {ab : Nat} {ask : Sgn} (h : AskR w ab ask) : w.cell? ⟨ab, 2, none⟩ = some (.slice ask.A ask.msg.length ask.c) := cell_of_row _ _ 2 _ _ _ h
theorem Raws.kb {w w' : World} {rb k : Nat} (h : Raws w rb k) (f : KB w w') : Raws w' rb k :=
  let ⟨cs, h1, h2, h3⟩ := h; ⟨cs, f _ _ _ _ h1, h2, fun j hj => let ⟨q, h4, h5⟩ := h3 j hj; ⟨q, h4, f _ _ _ _ h5⟩⟩
theorem IdsR.kb {w w' : World} {ib k : Nat} (h : IdsR w ib k) (f : KB w w') : IdsR w' ib k := let ⟨cs, h1, h2⟩ := h; ⟨cs, f _ _ _ _ h1, h2⟩
theorem AskR.kb {w w' : World} {ab : Nat} {ask : Sgn} (h : AskR w ab ask) (f : KB w w') : AskR w' ab ask := f _ _ _ _ h
theorem row_ne {w : World} {p q : Nat} {cs ds : Array Value} {T U : TypeId} {fr gr : Nat × Nat} (h : w.heap[p]? = some (.cells cs T fr)) (k : w.heap[q]? = some (.cells ds U gr)) (hne : T ≠ U) : p ≠ q := by
  rintro rfl
  rw [h] at k
  injection k with k
  injection k with _ k _
  exact hne k
theorem RG.fr {w0 w w' : World} {g : Nat} {ks : List (ByteArray × List UInt8)} {es : List (ByteArray × ByteArray)} (h : RG w0 w g ks es) {p : Nat} {cs : Array Value} {T : TypeId} {fr : Nat × Nat} (hp : w.heap[p]? = some (.cells cs T fr)) (hT : T ≠ 117) (hlow : w0.heap.size ≤ p) (hf : Fr (fun i => i = p) w w') : RG w0 w' g ks es := by
  obtain ⟨⟨a, b, hr, h1, h2, h3⟩, h4, h5⟩ := h
  have n1 : g ≠ p := fun e => row_ne hp hr.row hT e.symm
  have n2 : a ≠ p := fun e => hr.keys.ne hp e.symm
  have n3 : b ≠ p := fun e => hr.ents.ne hp e.symm
  exact ⟨⟨a, b, ⟨(hf.block g hr.lt n1).trans hr.row, hr.keys.keepB (hf.block a hr.keys.lt n2), hr.ents.keepB (hf.block b hr.ents.lt n3), hr.ab⟩, h1, h2, h3⟩, h4, h5.trans (hf.below h5.size fun i _ e => by rw [e]; exact hlow)⟩

section
variable {w w' : World} {p : Nat} {cs : Array Value} {T : TypeId} {fz : Nat × Nat}
theorem Raws.fr {rb k : Nat} (h : Raws w rb k) (hp : w.heap[p]? = some (.cells cs T fz)) (hT : T ≠ 40) (hU : T ≠ 5) (hf : Fr (fun i => i = p) w w') : Raws w' rb k := by
  obtain ⟨ds, h1, h2, h3⟩ := h
  have keep : ∀ {q : Nat} {es : Array Value} {U : TypeId}, T ≠ U → w.heap[q]? = some (.cells es U (0, 0)) → w'.heap[q]? = some (.cells es U (0, 0)) := fun {q es U} hne hq =>
    (hf.block q (Array.getElem?_eq_some_iff.1 hq).1 fun e => row_ne hp hq hne e.symm).trans hq
  exact ⟨ds, keep hT h1, h2, fun j hj => let ⟨q, h4, h5⟩ := h3 j hj; ⟨q, h4, keep hU h5⟩⟩
theorem IdsR.fr {ib k : Nat} (h : IdsR w ib k) (hp : w.heap[p]? = some (.cells cs T fz)) (hT : T ≠ 39) (hf : Fr (fun i => i = p) w w') : IdsR w' ib k := by
  obtain ⟨ds, h1, h2⟩ := h
  exact ⟨ds, (hf.block ib (Array.getElem?_eq_some_iff.1 h1).1 fun e => row_ne hp h1 hT e.symm).trans h1, h2⟩
theorem AskR.fr {ab : Nat} {ask : Sgn} (h : AskR w ab ask) (hp : w.heap[p]? = some (.cells cs T fz)) (hT : T ≠ 36) (hf : Fr (fun i => i = p) w w') : AskR w' ab ask :=
  (hf.block ab (Array.getElem?_eq_some_iff.1 h).1 fun e => row_ne hp h hT e.symm).trans h
theorem Raws.step {rb k Q : Nat} {ds : Array Value} (hk : k < 3) (h1 : w.heap[rb]? = some (.cells ds 40 (0, 0))) (h2 : ds.size = 3) (h3 : ∀ j, j < k → ∃ q, ds[j]? = some (.slice (some ⟨q, 0, none⟩) 32 32) ∧ w.heap[q]? = some (.cells (bcells (keyI j)).toArray 5 (0, 0)))
    (hf : Fr (fun i => i = rb) w w') (hrow : w'.heap[rb]? = some (.cells (ds.setIfInBounds k (.slice (some ⟨Q, 0, none⟩) 32 32)) 40 (0, 0))) (hQ : w'.heap[Q]? = some (.cells (bcells (keyI k)).toArray 5 (0, 0))) : Raws w' rb (k + 1) := by
  refine ⟨_, hrow, by simpa using h2, fun j hj => ?_⟩
  by_cases e : j = k
  · subst e
    exact ⟨Q, by simp [h2, hk], hQ⟩
  · obtain ⟨q, h4, h5⟩ := h3 j (by omega)
    refine ⟨q, by rw [Array.getElem?_setIfInBounds_ne (fun x => e x.symm)]; exact h4, ?_⟩
    exact (hf.block q (Array.getElem?_eq_some_iff.1 h5).1 fun x => row_ne h5 h1 (by decide) x).trans h5
theorem IdsR.step {ib k : Nat} {ds : Array Value} (hk : k < 3) (h1 : w.heap[ib]? = some (.cells ds 39 (0, 0))) (h2 : ds.size = 3) (h3 : ∀ j, j < k → ds[j]? = some (.string (idI j))) : IdsR (w.setCell ⟨ib, k, none⟩ (.string (idI k))) ib (k + 1) := by
  refine ⟨_, heap_setCell_same _ _ _ _ _ _ h1, by simpa using h2, fun j hj => ?_⟩
  by_cases e : j = k
  · subst e
    simp [h2, hk]
  · rw [Array.getElem?_setIfInBounds_ne (fun x => e x.symm)]
    exact h3 j (by omega)
end

def zlit : Array Value := #[.int .u8 0, .int .u8 0, .int .u8 0, .int .u8 0, .int .u8 0, .int .u8 0, .int .u8 0, .int .u8 0, .int .u8 0, .int .u8 0, .int .u8 0, .int .u8 0, .int .u8 0, .int .u8 0, .int .u8 0, .int .u8 0, .int .u8 0, .int .u8 0, .int .u8 0, .int .u8 0, .int .u8 0, .int .u8 0, .int .u8 0, .int .u8 0, .int .u8 0, .int .u8 0, .int .u8 0, .int .u8 0, .int .u8 0, .int .u8 0, .int .u8 0, .int .u8 0]
theorem below_setCells {B : Nat} {a : World} {b : Nat} (hb : B ≤ b) (vs : List Value) : ∀ (o : Nat) (w : World), Below B a w → Below B a (w.setCells b o vs) := by
  induction vs with
  | nil => exact fun _ _ h => h
  | cons v r ih => exact fun o w h => ih (o + 1) _ (h.setCell (p := ⟨b, o, none⟩) hb v)
theorem there_row {w : World} {b n : Nat} {cs : Array Value} {T : TypeId} (h : w.heap[b]? = some (.cells cs T (0, 0))) (hn : cs.size = n) : w.there b 0 n := fun j hj =>
  ⟨by rw [cell_of_row _ _ _ _ _ _ h, Array.getElem?_eq_getElem (by omega)]; rfl, frozen_of_row _ _ _ _ _ h⟩
theorem rb_range {w : World} {b n : Nat} {l : List UInt8} (hl : l.length = n) (h : w.rangeAt b 0 (bcells l)) : RB w (some ⟨b, 0, none⟩) n l :=
  ⟨hl, fun _ => ⟨b, 0, rfl, fun k hk => h k _ (bcells_get (by omega))⟩⟩
/-- A digest stored into a new array. -/
theorem store_new {w wx : World} {p : Nat} {l : List UInt8} {csl : List Value} (hcs : csl = bcells l) (hb : Below w.heap.size w wx) (hp : w.heap.size ≤ p) (hz : wx.there p 0 32) (hl : l.length = 32) :
    Below w.heap.size w (wx.setCells p 0 csl) ∧ RB (wx.setCells p 0 csl) (some ⟨p, 0, none⟩) 32 l := by
  subst hcs
  exact ⟨below_setCells hp _ _ _ hb, rb_range hl (World.rangeAt_setCells_same wx p 0 (bcells l) (by rw [bcells_length, hl]; exact hz))⟩
theorem ksI_succ (k : Nat) : ksI (k + 1) = ksI k ++ [(idI k, keyI k)] := rfl
theorem Add_I {w0 w : World} {g k Q : Nat} (hk : k < 3) (hS : RG w0 w g (ksI k) []) (hQ : w.heap[Q]? = some (.cells (bcells (keyI k)).toArray 5 (0, 0))) (ht : ShaTabs w0) :
    Calls Tryd.prog 17 #[.pointer (some ⟨g, 0, none⟩), .slice (some ⟨Q, 0, none⟩) 32 32] w fun e w' => e = .returned (.tuple #[.string (idI k), .nilIface]) ∧ RG w0 w' g (ksI (k + 1)) [] ∧ KB w w' := by
  have hn := findK_new hk k (Nat.le_refl _)
  rw [ksI_succ]
  unfold idI at hn ⊢
  exact Add_G hS _ 32 (keyI k) (RB.row hQ (keyI_len k)) (by omega) (by unfold maxLen; omega) ht hn

set_option maxHeartbeats 4000000 in
set_option maxRecDepth 100000 in
theorem KeysCount_short (A : Option Addr) (n c : Nat) (l : List Sgn) (ask : Sgn) (w : World) (hl : RSgn w A n l) (hask : SgnOk w ask) {ea : Nat → Addr} (hE : Errs w ea) (ht : ShaTabs w) (h : n ≤ 20) (ho : overS ask = false) :
    Calls Tryd.prog 4 #[.slice A n c, .agg #[.int .i64 ask.key, .string ask.dom, ask.v]] w fun e w' => e = .returned (.bool true) ∧ Below w.heap.size w w' := by
  unfold Sgn.v
  have HL := Lib.hid hl
  have HK := Lib.hid hask
  have HE := Lib.hid hE
  have HT := Lib.hid ht
  have D0 := Lib.hid ((Below.refl w.heap.size w).alloc (Nat.le_refl _) (.cells #[.int .i64 ask.key, .string ask.dom, .slice ask.A ask.msg.length ask.c] 36))
  obtain ⟨w0, hw0⟩ : ∃ W, W = w.alloc (.cells #[.int .i64 ask.key, .string ask.dom, .slice ask.A ask.msg.length ask.c] 36) := ⟨_, rfl⟩
  have HA := Lib.hid (alive10_any w0 (hE.below (by rw [hw0]; exact D0.out)) (ht.keep (Keeps.of_below (by rw [hw0]; exact D0.out))))
  have E0 : Hid (w0.heap[w.heap.size]? = some (.cells #[.int .i64 ask.key, .string ask.dom, .slice ask.A ask.msg.length ask.c] 36 (0, 0))) := Lib.hid (by rw [hw0]; exact heap_alloc_new w _)
  rw [← hw0] at D0
  have HW := Lib.hid hw0
  have ho1 : ask.dom.size ≤ 100 := by unfold overS at ho; simp at ho; omega
  have ho2 : ask.msg.length ≤ 200 := by unfold overS at ho; simp at ho; omega
  have hb1 : decide (20 < (n : Int)) = false := decide_eq_false (by omega)
  have hb2 : decide (100 < (ask.dom.size : Int)) = false := decide_eq_false (by omega)
  have hb3 : decide (200 < (ask.msg.length : Int)) = false := decide_eq_false (by omega)
  have hmk := made_32
  have HN := Lib.hid (fun W (hb : Below w.heap.size w W) => New_G (w0 := w) hb)
  clear hE ht ho hw0 hl hask
  go_enter Tryd.func4, Tryd.ntmps4
  go_wp2_with fail
  rw [← HW.out]
  refine HA.out.mono ?_
  rintro e w1 ⟨rfl, h1⟩
  have D1 := Lib.hid h1
  have B1 := Lib.hid (D0.out.trans (h1.mono D0.out.size))
  have E1 := Lib.hid ((D1.out.block w.heap.size (Array.getElem?_eq_some_iff.1 E0.out).1).trans E0.out)
  have c1 : w1.cell? ⟨w.heap.size, 1, none⟩ = some (.string ask.dom) := cell_of_row _ _ 1 _ _ _ E1.out
  have c2 : w1.cell? ⟨w.heap.size, 2, none⟩ = some (.slice ask.A ask.msg.length ask.c) := cell_of_row _ _ 2 _ _ _ E1.out
  clear h1 HA HW D0 E0
  go_wp2_with (go_at_call 16; refine (HN.out w1 B1.out).mono ?_; rintro e w2 ⟨rfl, hs2, hb2⟩; replace hs2 := Lib.hid hs2; replace hb2 := Lib.hid hb2)
  obtain ⟨g, hg⟩ : ∃ g, g = w1.heap.size + 2 := ⟨_, rfl⟩
  rw [← hg] at hs2 ⊢
  clear hg
  have A2 : Hid (AskR w2 w.heap.size ask) := Lib.hid (KB.of_below hb2.out _ _ _ _ E1.out)
  have B2 := hs2.out.bel
  have I3 : Hid (IdsR (w2.alloc (.cells #[.string ⟨#[]⟩, .string ⟨#[]⟩, .string ⟨#[]⟩] 39)) w2.heap.size 0) := Lib.hid ⟨_, heap_alloc_new w2 _, rfl, fun j hj => absurd hj (by omega)⟩
  have D3 := Lib.hid ((Below.refl w2.heap.size w2).alloc (Nat.le_refl _) (.cells #[.string ⟨#[]⟩, .string ⟨#[]⟩, .string ⟨#[]⟩] 39))
  have R4 : Hid (Raws ((w2.alloc (.cells #[.string ⟨#[]⟩, .string ⟨#[]⟩, .string ⟨#[]⟩] 39)).alloc (.cells #[.slice none 0 0, .slice none 0 0, .slice none 0 0] 40)) (w2.heap.size + 1) 0) := Lib.hid ⟨_, (by
    have := heap_alloc_new (w2.alloc (.cells #[.string ⟨#[]⟩, .string ⟨#[]⟩, .string ⟨#[]⟩] 39)) (.cells #[.slice none 0 0, .slice none 0 0, .slice none 0 0] 40)
    rwa [show (w2.alloc (.cells #[.string ⟨#[]⟩, .string ⟨#[]⟩, .string ⟨#[]⟩] 39)).heap.size = w2.heap.size + 1 by simp] at this), rfl, fun j hj => absurd hj (by omega)⟩
  have D4 := Lib.hid (D3.out.alloc D3.out.size (.cells #[.slice none 0 0, .slice none 0 0, .slice none 0 0] 40))
  have D34 := Lib.hid ((Below.refl _ (w2.alloc (.cells #[.string ⟨#[]⟩, .string ⟨#[]⟩, .string ⟨#[]⟩] 39))).alloc (Nat.le_refl _) (.cells #[.slice none 0 0, .slice none 0 0, .slice none 0 0] 40))
  have Low : Hid (w.heap.size ≤ w2.heap.size) := Lib.hid B2.size
  clear B2
  obtain ⟨ib, hib⟩ : ∃ ib, ib = w2.heap.size := ⟨_, rfl⟩
  obtain ⟨rb, hrb⟩ : ∃ rb, rb = w2.heap.size + 1 := ⟨_, rfl⟩
  rw [← hrb] at R4 ⊢
  rw [← hib] at I3 Low ⊢
  have LowR : Hid (w.heap.size ≤ rb) := Lib.hid (by have := Low.out; omega)
  clear hib hrb
  go_loopw [42] (fun i wr => ∃ k : Nat, k ≤ 3 ∧ i = .int .i64 (k : Int) ∧ RG w wr g (ksI k) [] ∧ IdsR wr ib k ∧ Raws wr rb k ∧ AskR wr w.heap.size ask) (fun i _ => 3 - (intOf i).toNat)
  case atStart => exact ⟨0, by omega, rfl, hs2.out.below D4.out, I3.out.kb (KB.of_below D34.out), R4.out, A2.out.kb (KB.of_below D4.out)⟩
  case round =>
    obtain ⟨k, hk, rfl, hG, hI, hR, hA⟩ := hrel
    have HG := Lib.hid hG
    have HI := Lib.hid hI
    have HR := Lib.hid hR
    have HAk := Lib.hid hA
    clear hG hI hR hA
    by_cases hlt : k < 3
    · have k0 : (0 : Int) ≤ (k : Int) := by omega
      have k1 : (k : Int) < 3 := by omega
      obtain ⟨cs, hrow, hcs, hall⟩ := HR.out
      have HRow := Lib.hid hrow
      have HAll := Lib.hid hall
      have HCs := Lib.hid hcs
      have Dz := Lib.hid ((Below.refl wr.heap.size wr).alloc (Nat.le_refl _) (.cells (bcells zeroK).toArray 5))
      have hrow1 := KB.of_below Dz.out _ _ _ _ hrow
      have cR : (wr.alloc (.cells (bcells zeroK).toArray 5)).cell? ⟨rb, k, none⟩ = some (cs[k]'(by omega)) := by rw [cell_of_row _ _ k _ _ _ hrow1]; exact Array.getElem?_eq_getElem (by omega)
      have fR : (wr.alloc (.cells (bcells zeroK).toArray 5)).frozen? ⟨rb, k, none⟩ = false := frozen_of_row _ _ _ _ _ hrow1
      generalize cs[k]'(by omega) = ck at *
      have HRow1 := Lib.hid hrow1
      clear hrow hcs hall hrow1
      go_upto_region 12 with (fail)
      clear cR fR
      obtain ⟨Q, hQ⟩ : ∃ Q, Q = wr.heap.size := ⟨_, rfl⟩
      rw [← hQ]
      have hrq : rb ≠ Q := by have := (Array.getElem?_eq_some_iff.1 HRow.out).1; omega
      obtain ⟨W1, hW1⟩ : ∃ W, W = (wr.alloc (.cells (bcells zeroK).toArray 5)).setCell ⟨rb, k, none⟩ (.slice (some ⟨Q, 0, none⟩) 32 32) := ⟨_, rfl⟩
      rw [← hW1]
      have rowQ : Hid (W1.heap[Q]? = some (.cells (bcells zeroK).toArray 5 (0, 0))) := Lib.hid (by rw [hW1, Below.heap_setCell _ _ _ _ (fun e => hrq e.symm), hQ]; exact heap_alloc_new wr _)
      have rowR : Hid (W1.heap[rb]? = some (.cells (cs.setIfInBounds k (.slice (some ⟨Q, 0, none⟩) 32 32)) 40 (0, 0))) := Lib.hid (by rw [hW1]; exact heap_setCell_same _ _ _ _ _ _ HRow1.out)
      have F1 : Hid (Fr (fun i => i = rb) wr W1) := Lib.hid (by rw [hW1]; exact (Fr.of_below (S := fun i => i = rb) Dz.out).setCell (p := ⟨rb, k, none⟩) (fun _ => rfl) _)
      have cR : W1.cell? ⟨rb, k, none⟩ = some (.slice (some ⟨Q, 0, none⟩) 32 32) := by rw [cell_of_row _ _ k _ _ _ rowR.out]; simp [HCs.out, hlt]
      have cQ : W1.cell? ⟨Q, 0, none⟩ = some (.int .u8 0) := cell_of_row _ _ 0 _ _ _ rowQ.out
      have fQ : W1.frozen? ⟨Q, 0, none⟩ = false := frozen_of_row _ _ _ _ _ rowQ.out
      have HQ := Lib.hid hQ
      have HRQ := Lib.hid hrq
      clear hW1 hQ hrq
      go_upto_region 13 with (fail)
      obtain ⟨W2, hW2⟩ : ∃ W, W = W1.setCell ⟨Q, 0, none⟩ (.int .u8 ((k : Int) + 1)) := ⟨_, rfl⟩
      rw [← hW2]
      have rowQ2 : Hid (W2.heap[Q]? = some (.cells (bcells (keyI k)).toArray 5 (0, 0))) := Lib.hid (by rw [hW2, heap_setCell_same _ _ 0 _ _ _ rowQ.out, zero_set k hlt])
      have rowR2 : Hid (W2.heap[rb]? = some (.cells (cs.setIfInBounds k (.slice (some ⟨Q, 0, none⟩) 32 32)) 40 (0, 0))) := Lib.hid (by rw [hW2, Below.heap_setCell _ _ _ _ HRQ.out]; exact rowR.out)
      have F2 : Hid (Fr (fun i => i = rb) wr W2) := Lib.hid (by rw [hW2]; exact F1.out.setCell (p := ⟨Q, 0, none⟩) (fun h => absurd h (by show ¬ Q < _; rw [HQ.out]; omega)) _)
      have HG2 := Lib.hid (HG.out.fr HRow.out (by decide) LowR.out F2.out)
      have HI2 := Lib.hid (HI.out.fr HRow.out (by decide) F2.out)
      have HA2 := Lib.hid (HAk.out.fr HRow.out (by decide) F2.out)
      have HR2 := Lib.hid (Raws.step hlt HRow.out HCs.out HAll.out F2.out rowR2.out rowQ2.out)
      have HADD := Lib.hid (Add_I hlt HG2.out rowQ2.out HT.out)
      have cR2 : W2.cell? ⟨rb, k, none⟩ = some (.slice (some ⟨Q, 0, none⟩) 32 32) := by rw [cell_of_row _ _ k _ _ _ rowR2.out]; simp [HCs.out, hlt]
      clear hW2 cR cQ fQ
      obtain ⟨idk, hidk⟩ : ∃ idk, idk = idI k := ⟨_, rfl⟩
      rw [← hidk] at HADD
      have HIdk := Lib.hid hidk
      clear hidk
      go_wp2_with fail
      refine HADD.out.mono ?_
      rintro e w5 ⟨rfl, hg5, hk5⟩
      have HG5 := Lib.hid hg5
      have HI5 := Lib.hid (HI2.out.kb hk5)
      have HR5 := Lib.hid (HR2.out.kb hk5)
      have HA5 := Lib.hid (HA2.out.kb hk5)
      obtain ⟨ds, hd1, hd2, hd3⟩ := HI2.out.kb hk5
      have HD1 := Lib.hid hd1
      have HD2 := Lib.hid hd2
      have HD3 := Lib.hid hd3
      have cI : w5.cell? ⟨ib, k, none⟩ = some (ds.getD k undef) := by rw [cell_of_row _ _ k _ _ _ hd1, Array.getD_eq_getD_getElem?, Array.getElem?_eq_getElem (by omega)]; rfl
      have fI : w5.frozen? ⟨ib, k, none⟩ = false := frozen_of_row _ _ _ _ _ hd1
      generalize ds.getD k undef = dk at *
      clear hg5 hk5 hd1 hd2 hd3
      go_wp2
      go_roundw
      case rel =>
        have Fi : Fr (fun i => i = ib) w5 (w5.setCell ⟨ib, k, none⟩ (.string idk)) := (Fr.refl (fun i => i = ib) w5).setCell (p := ⟨ib, k, none⟩) (fun _ => rfl) _
        refine ⟨k + 1, by omega, by go_num, HG5.out.fr HD1.out (by decide) Low.out Fi, ?_, HR5.out.fr HD1.out (by decide) (by decide) Fi, HA5.out.fr HD1.out (by decide) Fi⟩
        rw [HIdk.out]
        exact IdsR.step hlt HD1.out HD2.out HD3.out
      case measure => simp [intOf]; omega
    · obtain rfl : k = 3 := by omega
      have wka := Lib.hid (wrapK ask.key)
      have c0 : wr.cell? ⟨w.heap.size, 0, none⟩ = some (.int .i64 ask.key) := cell_of_row _ _ 0 _ _ _ HAk.out
      go_wp2
      obtain ⟨kk, hkk⟩ : ∃ kk, kk = kOf ask.key := ⟨_, rfl⟩
      rw [wka.out, ← hkk, show ((3 : Nat) : Int) = 3 from rfl]
      have hk3 : kk < 3 := by rw [hkk]; exact kOf_lt _
      have HKK := Lib.hid hkk
      have hlen := HL.out.1
      have HLen := Lib.hid hlen
      clear hkk hlen
      obtain ⟨wo, rfl⟩ : ∃ wo : World, wo = wr := ⟨_, rfl⟩
      go_loopw [12, 76] (fun s12 s76 wx => ∃ (i : Nat) (was : Bool) (es : List (ByteArray × ByteArray)), i ≤ n ∧ s76 = .int .i64 (i : Int) ∧ s12 = .bool was ∧ RG w wx g (ksI 3) es ∧ KB wo wx ∧ InBook ask was es) (fun _ s76 _ => n - (intOf s76).toNat)
      case atStart => exact ⟨0, false, [], by omega, rfl, rfl, HG.out, fun _ _ _ _ h => h, fun _ => rfl⟩
      case round =>
        obtain ⟨i, was, es, hin, rfl, rfl, hGx, hKx, hBk⟩ := hrel
        have HGx := Lib.hid hGx
        have HKx := Lib.hid hKx
        have HBk := Lib.hid hBk
        clear hGx hKx hBk
        by_cases hi : i < n
        · obtain ⟨b, o, rfl, hcells⟩ := HL.out.2.2 (by omega)
          obtain ⟨q0, q1, q2⟩ := hcells i hi
          have hok := HL.out.2.1 (l.getD i default) (by rw [List.getD_eq_getElem?_getD, List.getElem?_eq_getElem (by rw [HLen.out]; exact hi)]; exact List.getElem_mem _)
          have kx := Keeps.of_below HGx.out.bel
          replace q0 := kx _ _ q0
          replace q1 := kx _ _ q1
          replace q2 := kx _ _ q2
          have HOk := Lib.hid (hok.keep kx)
          generalize l.getD i default = x at *
          unfold Sgn.v at q2
          have i0 : (0 : Int) ≤ (i : Int) := by omega
          have i1 : (i : Int) < (n : Int) := by omega
          obtain ⟨kx', hkx⟩ : ∃ kx', kx' = kOf x.key := ⟨_, rfl⟩
          have wk := wrapK x.key
          rw [← hkx] at wk
          replace wk := Lib.hid wk
          have hk3x : kx' < 3 := by rw [hkx]; exact kOf_lt _
          have HKX := Lib.hid hkx
          clear hcells hok kx hkx
          cases hox : overS x with
          | true =>
            have hc : ∃ b1 b2 : Bool, decide (100 < (x.dom.size : Int)) = b1 ∧ decide (200 < (x.msg.length : Int)) = b2 ∧ (b1 = true ∨ b1 = false ∧ b2 = true) := by
              refine ⟨_, _, rfl, rfl, ?_⟩
              unfold overS at hox
              simp only [Bool.or_eq_true, decide_eq_true_eq, decide_eq_false_iff_not] at hox ⊢
              omega
            obtain ⟨b1, b2, hb1', hb2', hb⟩ := hc
            have BX := Lib.hid HGx.out.bel
            clear hox
            rcases hb with rfl | ⟨rfl, rfl⟩
            all_goals
              go_wp2
              go_ret
              exact ⟨rfl, BX.out.alloc BX.out.size _⟩
          | false =>
            have hx1 : decide (100 < (x.dom.size : Int)) = false := decide_eq_false (by unfold overS at hox; simp at hox; omega)
            have hx2 : decide (200 < (x.msg.length : Int)) = false := decide_eq_false (by unfold overS at hox; simp at hox; omega)
            have hx3 : x.msg.length ≤ 200 := by unfold overS at hox; simp at hox; omega
            have hx4 : x.dom.size ≤ 100 := by unfold overS at hox; simp at hox; omega
            clear hox
            go_upto_region 26 with (fail)
            rw [wk.out]
            have Dx := Lib.hid ((Below.refl wr.heap.size wr).alloc (Nat.le_refl _) (.cells #[.int .i64 x.key, .string x.dom, .slice x.A x.msg.length x.c] 36))
            have HXR : Hid ((wr.alloc (.cells #[.int .i64 x.key, .string x.dom, .slice x.A x.msg.length x.c] 36)).heap[wr.heap.size]? = some (.cells #[.int .i64 x.key, .string x.dom, .slice x.A x.msg.length x.c] 36 (0, 0))) := Lib.hid (heap_alloc_new wr _)
            obtain ⟨wb, hwb⟩ : ∃ W, W = wr.alloc (.cells #[.int .i64 x.key, .string x.dom, .slice x.A x.msg.length x.c] 36) := ⟨_, rfl⟩
            rw [← hwb] at Dx HXR ⊢
            have HGb := Lib.hid (HGx.out.below Dx.out)
            have HKb := Lib.hid (HKx.out.trans (KB.of_below Dx.out))
            have HOb := Lib.hid (HOk.out.keep (Keeps.of_below Dx.out))
            obtain ⟨ds, hd1, hd2, hd3⟩ := HI.out.kb HKb.out
            obtain ⟨xb, hxb⟩ : ∃ xb, xb = wr.heap.size := ⟨_, rfl⟩
            rw [← hxb] at HXR ⊢
            have cI : wb.cell? ⟨ib, kx', none⟩ = some (.string (idI kx')) := by rw [cell_of_row _ _ kx' _ _ _ hd1]; exact hd3 kx' hk3x
            have cX1 : wb.cell? ⟨xb, 1, none⟩ = some (.string x.dom) := cell_of_row _ _ 1 _ _ _ HXR.out
            have cX2 : wb.cell? ⟨xb, 2, none⟩ = some (.slice x.A x.msg.length x.c) := cell_of_row _ _ 2 _ _ _ HXR.out
            have kx0 : (0 : Int) ≤ (kx' : Int) := by omega
            have kx1 : (kx' : Int) < 3 := by omega
            have HFK := Lib.hid (findK_ksI hk3x)
            obtain ⟨idx, hidx⟩ : ∃ idx, idx = idI kx' := ⟨_, rfl⟩
            rw [← hidx] at cI HFK
            have HIdx := Lib.hid hidx
            clear hwb hd1 hd2 hd3 q0 q1 q2 hxb hidx
            cases hwb : wordBad x.dom.data.toList with
            | true =>
              have HSB := Lib.hid (Sign_bad (w := wb.drew) (HGb.out.drewN 1) idx (keyI kx') HFK.out x.dom x.A x.msg.length x.c HE.out (by unfold maxLen; omega) hwb)
              clear hwb
              go_region_held3 (fun w' => w'.cell? ⟨ib, kx', none⟩ = some (.string idx) ∧ w'.cell? ⟨xb, 1, none⟩ = some (.string x.dom) ∧ w'.cell? ⟨xb, 2, none⟩ = some (.slice x.A x.msg.length x.c)) (first | assumption | go_keep)
                (first | (go_at_call 18; refine HSB.out.mono ?_; rintro e w5 ⟨rfl, hb5⟩; have y0 := Keeps.of_below hb5 _ _ cI; have y1 := Keeps.of_below hb5 _ _ cX1; have y2 := Keeps.of_below hb5 _ _ cX2; replace hb5 := Lib.hid hb5))
              go_wp2
              go_roundw
              case measure => simp [intOf]; omega
              case rel => exact ⟨i + 1, was, es, by omega, by go_num, rfl, (HGb.out.drewN 1).below hb5.out, HKb.out.trans ((KB.drew wb).trans (KB.of_below hb5.out)), HBk.out⟩
            | false =>
              have HSG := Lib.hid (Sign_good (w := wb.drew) (HGb.out.drewN 1) idx (keyI kx') HFK.out x.dom x.A x.msg.length x.c x.msg (HOb.out.1.keep (Keeps.drew wb)) HOb.out.2.1 HOb.out.2.2.1 (goodS hwb hx3) HT.out)
              have HWB := Lib.hid hwb
              clear hwb
              change Hid (Calls _ _ _ _ fun e w' => ∃ q, e = .returned (.tuple #[.slice (some ⟨q, 0, none⟩) 32 32, .nilIface]) ∧ RB w' (some ⟨q, 0, none⟩) 32 (hmacF (keyI kx') (frS x)) ∧ RG w w' g (ksI 3) (putE idx ⟨(frS x).toArray⟩ es) ∧ KB wb.drew w') at HSG
              obtain ⟨fx, hfx⟩ : ∃ fx, fx = frS x := ⟨_, rfl⟩
              rw [← hfx] at HSG
              have HST : Hid (∀ b : Bool, (b = true ↔ isAsk ask x) → InBook ask (was || b) (putE idx ⟨fx.toArray⟩ es)) := Lib.hid fun b hb => by
                have := HBk.out.step ho2 hx3 HWB.out hb
                rw [HIdx.out, HKX.out, hfx]
                exact this
              clear hfx
              go_region_held3 (fun w' => w'.cell? ⟨ib, kx', none⟩ = some (.string idx) ∧ w'.cell? ⟨xb, 1, none⟩ = some (.string x.dom) ∧ w'.cell? ⟨xb, 2, none⟩ = some (.slice x.A x.msg.length x.c)) (first | assumption | go_keep)
                (first | (go_at_call 18; refine HSG.out.mono ?_; rintro e w5 ⟨q5, rfl, hr5, hg5, hk5⟩; have y0 := hk5.keeps _ _ cI; have y1 := hk5.keeps _ _ cX1; have y2 := hk5.keeps _ _ cX2; replace hg5 := Lib.hid hg5; replace hk5 := Lib.hid hk5; clear hr5))
              have H5g := Lib.hid (hg5.out)
              have H5k : Hid (KB wo w5) := Lib.hid (HKb.out.trans ((KB.drew wb).trans hk5.out))
              obtain ⟨wz, hwz⟩ : ∃ wz, wz = w5 := ⟨_, rfl⟩
              have HAk5 := HAk.out.kb H5k.out
              have a1 : w5.cell? ⟨w.heap.size, 1, none⟩ = some (.string ask.dom) := cell_of_row _ _ 1 _ _ _ HAk5
              have a2 : w5.cell? ⟨w.heap.size, 2, none⟩ = some (.slice ask.A ask.msg.length ask.c) := cell_of_row _ _ 2 _ _ _ HAk5
              have cx := run_bytes_string (P := Tryd.prog) Tryd.underlying22 Tryd.underlying5 Tryd.underlying9 (c := x.c) (HOb.out.1.keep ((Keeps.drew wb).trans hk5.out.keeps))
              have ca := run_bytes_string (P := Tryd.prog) Tryd.underlying22 Tryd.underlying5 Tryd.underlying9 (c := ask.c) (HK.out.1.keep (Keeps.of_below hg5.out.bel))
              have sx := str_list x.msg
              have sa := str_list ask.msg
              clear HAk5 hwz
              have hcase : ∃ b1 b2 b3 : Bool, ((kx' : Int) == (kk : Int)) = b1 ∧ (x.dom.toList == ask.dom.toList) = b2 ∧ (x.msg == ask.msg) = b3 ∧ ((b1 && b2 && b3) = true ↔ isAsk ask x) := by
                refine ⟨_, _, _, rfl, rfl, rfl, ?_⟩
                unfold isAsk
                rw [← HKX.out, ← HKK.out]
                simp only [Bool.and_eq_true, beq_iff_eq]
                constructor
                · rintro ⟨⟨e1, e2⟩, e3⟩; exact ⟨by omega, bytes_inj e2, e3⟩
                · rintro ⟨e1, e2, e3⟩; exact ⟨⟨by omega, by rw [e2]⟩, e3⟩
              obtain ⟨b1, b2, b3, e1, e2, e3, he⟩ := hcase
              have HE5 := Lib.hid (HST.out _ he)
              clear he
              have fin : ∀ (i' : Nat) (was' : Bool), i' = i + 1 → was' = (was || (b1 && b2 && b3)) → ∃ (j : Nat) (wa : Bool) (es' : List (ByteArray × ByteArray)), j ≤ n ∧ Value.int .i64 ((i : Int) + 1) = .int .i64 (j : Int) ∧ Value.bool was' = .bool wa ∧ RG w w5 g (ksI 3) es' ∧ KB wo w5 ∧ InBook ask wa es' := fun i' was' h1 h2 =>
                ⟨i + 1, was', _, by omega, by go_num, rfl, H5g.out, H5k.out, by rw [h2]; exact HE5.out⟩
              have FIN := Lib.hid fin
              clear fin
              cases was with
              | true =>
                go_wp2
                go_roundw
                case measure => simp [intOf]; omega
                case rel => exact FIN.out _ true rfl rfl
              | false =>
                cases b1 with
                | false =>
                  go_wp2
                  go_roundw
                  case measure => simp [intOf]; omega
                  case rel => exact FIN.out _ false rfl rfl
                | true =>
                  cases b2 with
                  | false =>
                    go_wp2
                    go_roundw
                    case measure => simp [intOf]; omega
                    case rel => exact FIN.out _ false rfl rfl
                  | true =>
                    cases b3 with
                    | false =>
                      go_wp2
                      go_roundw
                      case measure => simp [intOf]; omega
                      case rel => exact FIN.out _ false rfl rfl
                    | true =>
                      go_wp2
                      go_roundw
                      case measure => simp [intOf]; omega
                      case rel => exact FIN.out _ true rfl rfl
        · obtain rfl : i = n := by omega
          have HAk6 := Lib.hid (HAk.out.kb HKx.out)
          have HK6 := Lib.hid (HK.out.keep (Keeps.of_below HGx.out.bel))
          obtain ⟨ds, hd1, hd2, hd3⟩ := HI.out.kb HKx.out
          have HD1 := Lib.hid hd1
          have hDk := Lib.hid (hd3 kk hk3)
          have a1 : wr.cell? ⟨w.heap.size, 1, none⟩ = some (.string ask.dom) := cell_of_row _ _ 1 _ _ _ HAk6.out
          have a2 : wr.cell? ⟨w.heap.size, 2, none⟩ = some (.slice ask.A ask.msg.length ask.c) := cell_of_row _ _ 2 _ _ _ HAk6.out
          have kk0 : (0 : Int) ≤ (kk : Int) := by omega
          have kk1 : (kk : Int) < 3 := by omega
          have HFK := Lib.hid (findK_ksI hk3)
          have Da := Lib.hid ((Below.refl wr.heap.size wr).alloc (Nat.le_refl _) (.cells #[.slice ask.A ask.msg.length ask.c] 22))
          have HRB : Hid (RBL (wr.alloc (.cells #[.slice ask.A ask.msg.length ask.c] 22)) (some ⟨wr.heap.size, 0, none⟩) 1 [ask.msg]) := Lib.hid (RBL.lits (vs := [.slice ask.A ask.msg.length ask.c]) (heap_alloc_new wr _) rfl (fun k hk => by
            obtain rfl : k = 0 := by omega
            exact ⟨_, rfl, SB.of_rb (HK6.out.1.keep (Keeps.of_below Da.out)) HK6.out.2.1 HK6.out.2.2.1⟩))
          clear hd1 hd2 hd3
          obtain ⟨idk, hidk⟩ : ∃ idk, idk = idI kk := ⟨_, rfl⟩
          rw [← hidk] at HFK hDk
          have HIdk := Lib.hid hidk
          clear hidk
          cases hwb : wordBad ask.dom.data.toList with
          | true =>
            have HVB := Lib.hid (fun (W : World) (hg : RG w W g (ksI 3) es) => Verify_bad hg idk (keyI kk) HFK.out ask.dom ask.A ask.msg.length ask.c (.slice none 0 0) HE.out (by unfold maxLen; omega) hwb)
            have HWB := Lib.hid hwb
            clear hwb
            go_wp2_with (go_at_call 19; refine (RefFrame_text ask.dom _ 1 1 _ (by omega) HWB.out).mono ?_; rintro e w6 ⟨rfl, rfl⟩)
            obtain ⟨w6, hw6⟩ : ∃ W, W = wr.alloc (.cells #[.slice ask.A ask.msg.length ask.c] 22) := ⟨_, rfl⟩
            rw [← hw6] at Da ⊢
            have HG6 := Lib.hid (HGx.out.below Da.out)
            have cI : w6.cell? ⟨ib, kk, none⟩ = some (.string idk) := Keeps.of_below Da.out _ _ (by rw [cell_of_row _ _ kk _ _ _ HD1.out]; exact hDk.out)
            have b1 := Keeps.of_below Da.out _ _ a1
            have b2 := Keeps.of_below Da.out _ _ a2
            clear hw6 a1 a2
            go_region_held3 (fun w' => w'.cell? ⟨ib, kk, none⟩ = some (.string idk) ∧ w'.cell? ⟨w.heap.size, 1, none⟩ = some (.string ask.dom) ∧ w'.cell? ⟨w.heap.size, 2, none⟩ = some (.slice ask.A ask.msg.length ask.c)) (first | assumption | go_keep)
              (first
                | (go_at_call 20; refine (HVB.out w6.drew (HG6.out.drewN 1)).mono ?_; rintro e w7 ⟨rfl, hb7⟩; have y0 := Keeps.of_below hb7 _ _ cI; have y1 := Keeps.of_below hb7 _ _ b1; have y2 := Keeps.of_below hb7 _ _ b2; have B7 := Lib.hid (((HG6.out.drewN 1).below hb7).bel); clear hb7)
                | (go_at_call 14; refine (Num_err (HE.out.below B7.out) 8 (by omega) (by omega)).mono ?_; rintro e w8 ⟨rfl, hb8⟩; have z0 := Keeps.of_below hb8 _ _ y0; have z1 := Keeps.of_below hb8 _ _ y1; have z2 := Keeps.of_below hb8 _ _ y2; have B8 := Lib.hid (B7.out.trans (hb8.mono B7.out.size)); clear hb8))
            all_goals
              go_wp2
              go_ret
              exact ⟨rfl, B8.out⟩
          | false =>
            have HGd := Lib.hid (goodS hwb ho2)
            have HTG := Lib.hid (fun (W : World) A' n' c' (q : Nat) (hk : RB W (some ⟨q, 0, none⟩) 32 (keyI kk)) (hr : RBL W A' n' [ask.msg]) => RefTagged_good (some ⟨q, 0, none⟩) 32 32 (keyI kk) ask.dom A' n' c' [ask.msg] W hk (by omega) hr (goodS hwb ho2))
            have HWB := Lib.hid hwb
            clear hwb
            go_wp2_with (go_at_call 19; refine (RefFrame_good ask.dom _ 1 1 [ask.msg] _ HRB.out HGd.out).mono ?_; rintro e w6 ⟨v6, rfl, -, hb6⟩; have D6 := Lib.hid (Da.out.trans (hb6.mono Da.out.size)); clear hb6)
            obtain ⟨ds, hR1, hR2, hR3⟩ := HR.out.kb (HKx.out.trans (KB.of_below D6.out))
            obtain ⟨Q, hQ1, hQ2⟩ := hR3 kk hk3
            have HG6 := Lib.hid (HGx.out.below D6.out)
            have cR : w6.cell? ⟨rb, kk, none⟩ = some (.slice (some ⟨Q, 0, none⟩) 32 32) := by rw [cell_of_row _ _ kk _ _ _ hR1]; exact hQ1
            have RQ := Lib.hid (RB.row hQ2 (keyI_len kk))
            have cI : w6.cell? ⟨ib, kk, none⟩ = some (.string idk) := Keeps.of_below D6.out _ _ (by rw [cell_of_row _ _ kk _ _ _ HD1.out]; exact hDk.out)
            have b1 := Keeps.of_below D6.out _ _ a1
            have b2 := Keeps.of_below D6.out _ _ a2
            have HK7 := Lib.hid (HK6.out.keep (Keeps.of_below D6.out))
            have HAk7 := Lib.hid (HAk6.out.kb (KB.of_below D6.out))
            have Hm32 : Hid ((hmacF (keyI kk) (frS ask)).length = 32) := Lib.hid (shaB_length _ _ _)
            have HV : Hid (∀ (W : World) (p : Nat), RG w W g (ksI 3) es → SgnOk W ask → RB W (some ⟨p, 0, none⟩) 32 (hmacF (keyI kk) (frS ask)) → Calls Tryd.prog 20 #[.pointer (some ⟨g, 0, none⟩), .string idk, .string ask.dom, .slice ask.A ask.msg.length ask.c, .slice (some ⟨p, 0, none⟩) 32 32] W fun e w' => e = .returned (if was = true then .nilIface else .iface 213 (.pointer (some (ea 12)))) ∧ Below W.heap.size W w') := Lib.hid fun W p hg hk hr => by
              have h := Verify_good hg idk (keyI kk) HFK.out ask.dom ask.A ask.msg.length ask.c ask.msg hk.1 hk.2.1 hk.2.2.1 HGd.out HT.out (some ⟨p, 0, none⟩) 32 32 _ hr HE.out
              have e : was = inE idk ⟨(frS ask).toArray⟩ es := by rw [HBk.out HWB.out, HIdk.out, HKK.out]
              rw [e]
              have e2 : (if hmacF (keyI kk) (frameB ask.dom.data.toList [ask.msg]) = hmacF (keyI kk) (frS ask) ∧ inE idk ⟨(frameB ask.dom.data.toList [ask.msg]).toArray⟩ es = true then 0 else 12) = (if inE idk ⟨(frS ask).toArray⟩ es = true then 0 else 12) := by
                have : frameB ask.dom.data.toList [ask.msg] = frS ask := rfl
                rw [this]
                simp
              rw [e2] at h
              have e3 : (if inE idk ⟨(frS ask).toArray⟩ es = true then Value.nilIface else .iface 213 (.pointer (some (ea 12)))) = errOf ea (if inE idk ⟨(frS ask).toArray⟩ es = true then 0 else 12) := by split <;> rfl
              rw [e3]
              exact h
            change Hid (∀ (W : World) A' n' c' (q : Nat), RB W (some ⟨q, 0, none⟩) 32 (keyI kk) → RBL W A' n' [ask.msg] → Calls _ _ _ W fun e w' => e = .returned (.agg (bcells (hmacF (keyI kk) (frS ask))).toArray) ∧ Below W.heap.size W w') at HTG
            generalize hmacF (keyI kk) (frS ask) = mac at *
            obtain ⟨csl, hcsl⟩ : ∃ csl, csl = bcells mac := ⟨_, rfl⟩
            rw [← hcsl] at HTG
            have HCs := Lib.hid hcsl
            have Hcl : csl.length = 32 := by rw [hcsl, bcells_length, Hm32.out]
            have hin : (Tryd.prog.info? 48).map (·.size) = some csl.length := by rw [Hcl]; exact info_32
            have hu := Tryd.underlying48
            have hone : ∀ v ∈ csl, v.oneCell' = true := by rw [hcsl]; exact bcells_one _
            have hz32 : zlit.size = 32 := by decide
            have HZ := Lib.hid hz32
            have HTC : Hid (∀ (W : World) (q : Nat), Below w6.heap.size w6 W → RBL W (some ⟨q, 0, none⟩) 1 [ask.msg] → Calls Tryd.prog 21 #[.slice (some ⟨Q, 0, none⟩) 32 32, .string ask.dom, .slice (some ⟨q, 0, none⟩) 1 1] W fun e w' => e = .returned (.agg csl.toArray) ∧ Below W.heap.size W w' ∧ Below w6.heap.size w6 w') := Lib.hid fun W q hW hr =>
              (HTG.out W (some ⟨q, 0, none⟩) 1 1 Q (RQ.out.keep (Keeps.of_below hW)) hr).mono fun e w' ⟨h1, h2⟩ => ⟨h1, h2, hW.trans (h2.mono hW.size)⟩
            have HLit : ∀ W : World, Below w6.heap.size w6 W → RBL (W.alloc (.cells #[.slice ask.A ask.msg.length ask.c] 22)) (some ⟨W.heap.size, 0, none⟩) 1 [ask.msg] := fun W hW => RBL.lits (vs := [.slice ask.A ask.msg.length ask.c]) (heap_alloc_new W _) rfl (fun k hk => by
              obtain rfl : k = 0 := by omega
              exact ⟨_, rfl, SB.of_rb (HK7.out.1.keep (Keeps.of_below (hW.trans (((Below.refl W.heap.size W).alloc (Nat.le_refl _) (.cells #[.slice ask.A ask.msg.length ask.c] 22)).mono hW.size)))) HK7.out.2.1 HK7.out.2.2.1⟩)
            have B0 := Below.refl w6.heap.size w6
            have BL := B0.alloc (Nat.le_refl _) (.cells #[.slice ask.A ask.msg.length ask.c] 22)
            have BZ := B0.alloc (Nat.le_refl _) (.cells zlit 48)
            have BLZ := BL.alloc BL.size (.cells zlit 48)
            have BZL := BZ.alloc BZ.size (.cells #[.slice ask.A ask.msg.length ask.c] 22)
            have KLZ := Keeps.of_below ((Below.refl _ (w6.alloc (.cells #[.slice ask.A ask.msg.length ask.c] 22))).alloc (Nat.le_refl _) (.cells zlit 48))
            have PB1 := Lib.hid (show Below w6.heap.size w6 (w6.alloc (.cells #[.slice ask.A ask.msg.length ask.c] 22)).drew from below_drewN BL 1)
            have PB2 := Lib.hid (show Below w6.heap.size w6 ((w6.alloc (.cells #[.slice ask.A ask.msg.length ask.c] 22)).alloc (.cells zlit 48)).drew from below_drewN BLZ 1)
            have PB3 := Lib.hid (show Below w6.heap.size w6 ((w6.alloc (.cells zlit 48)).alloc (.cells #[.slice ask.A ask.msg.length ask.c] 22)).drew from below_drewN BZL 1)
            have PR1 := Lib.hid ((HLit w6 B0).keep (Keeps.drew _))
            have PR2 := Lib.hid (((HLit w6 B0).keep KLZ).keep (Keeps.drew _))
            have PR3 := Lib.hid ((HLit _ BZ).keep (Keeps.drew _))
            rw [show (w6.alloc (.cells zlit 48)).heap.size = w6.heap.size + 1 by simp] at PR3
            have ZH2 : Hid (((w6.alloc (.cells #[.slice ask.A ask.msg.length ask.c] 22)).alloc (.cells zlit 48)).drew.heap[w6.heap.size + 1]? = some (.cells zlit 48 (0, 0))) := Lib.hid (by
              have := heap_alloc_new (w6.alloc (.cells #[.slice ask.A ask.msg.length ask.c] 22)) (.cells zlit 48)
              rwa [show (w6.alloc (.cells #[.slice ask.A ask.msg.length ask.c] 22)).heap.size = w6.heap.size + 1 by simp] at this)
            have ZH3 : Hid (((w6.alloc (.cells zlit 48)).alloc (.cells #[.slice ask.A ask.msg.length ask.c] 22)).drew.heap[w6.heap.size]? = some (.cells zlit 48 (0, 0))) := Lib.hid ((Below.heap_alloc _ _ _ (by simp)).trans (heap_alloc_new w6 _))
            have HT1 : Hid (∀ W : World, (W.alloc (.cells zlit 48)).there W.heap.size 0 32) := Lib.hid fun W => there_row (heap_alloc_new W _) HZ.out
            have HS : Hid (∀ (wx : World) (p : Nat), Below w6.heap.size w6 wx → w6.heap.size ≤ p → (wx.setCells p 0 csl).cell? ⟨rb, kk, none⟩ = some (.slice (some ⟨Q, 0, none⟩) 32 32) ∧ (wx.setCells p 0 csl).cell? ⟨w.heap.size, 1, none⟩ = some (.string ask.dom) ∧ (wx.setCells p 0 csl).cell? ⟨w.heap.size, 2, none⟩ = some (.slice ask.A ask.msg.length ask.c)) := Lib.hid fun wx p hx hp => by
              have k := Keeps.of_below (below_setCells hp csl 0 wx hx)
              exact ⟨k _ _ cR, k _ _ b1, k _ _ b2⟩
            have HS1 : Hid (∀ wx : World, Below w6.heap.size w6 wx → ((wx.alloc (.cells zlit 48)).setCells wx.heap.size 0 csl).cell? ⟨rb, kk, none⟩ = some (.slice (some ⟨Q, 0, none⟩) 32 32) ∧ ((wx.alloc (.cells zlit 48)).setCells wx.heap.size 0 csl).cell? ⟨w.heap.size, 1, none⟩ = some (.string ask.dom) ∧ ((wx.alloc (.cells zlit 48)).setCells wx.heap.size 0 csl).cell? ⟨w.heap.size, 2, none⟩ = some (.slice ask.A ask.msg.length ask.c)) := Lib.hid fun wx hx => HS.out _ _ (hx.alloc hx.size _) hx.size
            have HF1 : Hid (∀ wx : World, Below w6.heap.size w6 wx → Hid (Below w6.heap.size w6 ((wx.alloc (.cells zlit 48)).setCells wx.heap.size 0 csl) ∧ RB ((wx.alloc (.cells zlit 48)).setCells wx.heap.size 0 csl) (some ⟨wx.heap.size, 0, none⟩) 32 mac)) := Lib.hid fun wx hx => Lib.hid (store_new HCs.out (hx.alloc hx.size _) hx.size (HT1.out wx) Hm32.out)
            unfold zlit at PB2 PB3 PR2 PR3 ZH2 ZH3 HT1 HS1 HF1
            clear hcsl hR1 hR2 hR3 hQ1 hQ2 a1 a2 hz32 HLit B0 BL BZ BLZ BZL KLZ
            go_region_held3 (fun w' => w'.cell? ⟨rb, kk, none⟩ = some (.slice (some ⟨Q, 0, none⟩) 32 32) ∧ w'.cell? ⟨w.heap.size, 1, none⟩ = some (.string ask.dom) ∧ w'.cell? ⟨w.heap.size, 2, none⟩ = some (.slice ask.A ask.msg.length ask.c)) (first | assumption | go_keep | ((try dsimp only); exact ⟨by assumption, by assumption, by assumption⟩))
              (first
                | (go_at_call 21; refine (HTC.out _ _ (by first | (with_reducible exact PB1.out) | (with_reducible exact PB2.out) | (with_reducible exact PB3.out)) (by first | (with_reducible exact PR1.out) | (with_reducible exact PR2.out) | (with_reducible exact PR3.out))).mono ?_; rintro e w7 ⟨rfl, hb7, hb67⟩; have y0 := Keeps.of_below hb67 _ _ cR; have y1 := Keeps.of_below hb67 _ _ b1; have y2 := Keeps.of_below hb67 _ _ b2; have D7 := Lib.hid hb67; have th1 := HT1.out w7; obtain ⟨s0, s1, s2⟩ := HS1.out w7 hb67; have HF := HF1.out w7 hb67; (try (have th2 : w7.there (w6.heap.size + 1) 0 32 := there_row ((hb7.block (w6.heap.size + 1) (by simp)).trans (by with_reducible exact ZH2.out)) rfl; obtain ⟨s3, s4, s5⟩ := HS.out w7 (w6.heap.size + 1) hb67 (by omega); replace HF := Lib.hid (store_new HCs.out hb67 (Nat.le_succ _) th2 Hm32.out))); (try (have th3 : w7.there w6.heap.size 0 32 := there_row ((hb7.block w6.heap.size (by simp; omega)).trans (by with_reducible exact ZH3.out)) rfl; obtain ⟨s3, s4, s5⟩ := HS.out w7 w6.heap.size hb67 (Nat.le_refl _); replace HF := Lib.hid (store_new HCs.out hb67 (Nat.le_refl _) th3 Hm32.out))); clear hb7 hb67))
            all_goals
              clear b1 b2 cR
              cases was
            all_goals
              have kF := Keeps.of_below HF.out.1
              have d0 := kF _ _ cI
              have d1 := kF _ _ (AskCell1 HAk7.out)
              have d2 := kF _ _ (AskCell2 HAk7.out)
              have HGF := Lib.hid (HG6.out.below HF.out.1)
              have HSk := Lib.hid (HK7.out.keep kF)
              have HVF := Lib.hid (HV.out (World.drew _) _ (HGF.out.drewN 1) (HSk.out.keep (Keeps.drew _)) (HF.out.2.keep (Keeps.drew _)))
              clear kF
              go_wp2_with fail
              go_region_held3 (fun w' => w'.cell? ⟨ib, kk, none⟩ = some (.string idk) ∧ w'.cell? ⟨w.heap.size, 1, none⟩ = some (.string ask.dom) ∧ w'.cell? ⟨w.heap.size, 2, none⟩ = some (.slice ask.A ask.msg.length ask.c)) (first | assumption | go_keep)
                (first
                  | (go_at_call 20; refine HVF.out.mono ?_; (first | rw [if_pos rfl] | rw [if_pos trivial] | rw [if_neg (by decide)]); rintro e w9 ⟨rfl, hb9⟩; have y3 := Keeps.of_below hb9 _ _ d0; have y4 := Keeps.of_below hb9 _ _ d1; have y5 := Keeps.of_below hb9 _ _ d2; have B9 := Lib.hid (((HGF.out.drewN 1).below hb9).bel); clear hb9))
              go_wp2_with (go_at_call 14; refine (Num_err (HE.out.below B9.out) 12 (by omega) (by omega)).mono ?_; rintro e w8 ⟨rfl, hb8⟩; replace B9 := Lib.hid (B9.out.trans (hb8.mono B9.out.size)); clear hb8)
              go_ret
              exact ⟨rfl, B9.out⟩
end Go.Proofs.YtlfeofakggkebaaDoor
