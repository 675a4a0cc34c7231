/- Rows of ints that are words of 32 bits; appends onto them; the reference's arithmetic. -/
import Derived.Test.YtfmagnpmjlppiaaGreatDoorShaSum
import Derived.Test.YtfmagnpmjlppiaaGreatDoorRows
import Derived.Lib.LaidTab
import Derived.LaidMore
import Derived.Lib.SlBytesConst
namespace Go.Proofs.YtfmagnpmjlppiaaGreatDoor
open Go.RowKit

theorem ofInt_i64 (a : Nat) (ha : a < 9223372036854775808) : (BitVec.ofInt 64 (a : Int)).toNat = a := by
 rw [BitVec.ofInt_natCast, BitVec.toNat_ofNat]; exact Nat.mod_eq_of_lt (by omega)
theorem wrap_i64_nat (a : Nat) (ha : a < 9223372036854775808) : IntKind.i64.wrap (a : Int) = (a : Int) := IntWalk.i64_in _ (by omega)
theorem i64_or_nat (a b : Nat) (ha : a < 9223372036854775808) (hb : b < 9223372036854775808) : bits .or .i64 (a : Int) (b : Int) = ((a ||| b : Nat) : Int) := by
 have hx : a ||| b < 2 ^ 63 := Nat.or_lt_two_pow (by omega) (by omega)
 show IntKind.i64.wrap ((BitVec.ofInt 64 (a : Int) ||| BitVec.ofInt 64 (b : Int)).toNat : Int) = _
 rw [BitVec.toNat_or, ofInt_i64 a ha, ofInt_i64 b hb, wrap_i64_nat _ (by omega)]
end Go.Proofs.YtfmagnpmjlppiaaGreatDoor

/- The reference's tables. -/
namespace Go.Proofs.YtfmagnpmjlppiaaGreatDoor
open Go.RowKit

/-- The standard's constants and first words. -/
def ktab : List UInt32 := [1116352408, 1899447441, 3049323471, 3921009573, 961987163, 1508970993, 2453635748, 2870763221, 3624381080, 310598401, 607225278, 1426881987, 1925078388, 2162078206, 2614888103, 3248222580, 3835390401, 4022224774, 264347078, 604807628, 770255983, 1249150122, 1555081692, 1996064986, 2554220882, 2821834349, 2952996808, 3210313671, 3336571891, 3584528711, 113926993, 338241895, 666307205, 773529912, 1294757372, 1396182291, 1695183700, 1986661051, 2177026350, 2456956037, 2730485921, 2820302411, 3259730800, 3345764771, 3516065817, 3600352804, 4094571909, 275423344, 430227734, 506948616, 659060556, 883997877, 958139571, 1322822218, 1537002063, 1747873779, 1955562222, 2024104815, 2227730452, 2361852424, 2428436474, 2756734187, 3204031479, 3329325298]
def htab : W8 := ⟨1779033703, 3144134277, 1013904242, 2773480762, 1359893119, 2600822924, 528734635, 1541459225⟩
def kfun (k : Nat) : UInt32 := ktab.getD k 0

end Go.Proofs.YtfmagnpmjlppiaaGreatDoor

/- The tables as the row lays them; layer 1's alive and long. -/
namespace Go.Proofs.YtfmagnpmjlppiaaGreatDoor
open Go.RowKit

set_option maxRecDepth 100000 in
theorem laid_tab {W : World} : ∀ {L : List (String × DataW Unit)} {ps : List MemPlace}, DataW.LaidVars Tryz.prog W L ps →
  ∀ {name : String} {k : IntKind} {zs : List Int} {g : Nat} {t e : TypeId} {n : Nat}, (name, Lib.tabData k zs) ∈ L → Tryz.prog.globalNamed name = some g → (Tryz.prog.globals[g]?).map (·.type) = some t →
  Tryz.prog.underlying t = some (.array n e) → Tryz.prog.underlying e = some (.int k) → Tryz.prog.cellsOf e = 1 → Tryz.prog.cellsOf t = n → Lib.TabIs Tryz.prog W name k zs
 | [], _, _, _, _, _, _, _, _, _, hm, _, _, _, _, _, _ => by cases hm
 | (n0, d0) :: r, ps, h, name, k, zs, g, t, e, n, hm, hg, hty, ht, he, hce, hct => by
  obtain ⟨g0, t0, cs0, f0, p0, q0, hg0, ht0, hv0, hd0, hq, rfl⟩ := h
  rcases List.mem_cons.1 hm with e' | hm
  ·injection e' with e1 e2
   subst e1; subst e2
   obtain rfl := Option.some.inj (hg.symm.trans hg0)
   obtain rfl := Option.some.inj (hty.symm.trans ht0)
   have := Lib.cells_of_tab ht he hce hct hd0
   unfold Lib.TabIs
   rw [hv0]
   congr 1
   exact Array.toList_inj.1 (by rw [this])
  ·exact laid_tab hq hm hg hty ht he hce hct

section
variable {L : List (String × DataW Unit)} {W : World}
set_option maxRecDepth 100000 in
theorem tab_of_laid (h : laidMetH Tryz.prog L W) (hp : (L.all fun x => x.2.handleName?.isNone) = true) {name : String} {k : IntKind} {zs : List Int} {g : Nat} {t e : TypeId} {n : Nat} (hm : (name, Lib.tabData k zs) ∈ L)
  (hg : Tryz.prog.globalNamed name = some g) (hty : (Tryz.prog.globals[g]?).map (·.type) = some t)
  (ht : Tryz.prog.underlying t = some (.array n e)) (he : Tryz.prog.underlying e = some (.int k)) (hce : Tryz.prog.cellsOf e = 1) (hct : Tryz.prog.cellsOf t = n) : Lib.TabIs Tryz.prog W name k zs := by
 rw [MakeChecks.laidMetH_plain _ _ _ hp] at h
 obtain ⟨ps, hv, _⟩ := h
 exact laid_tab hv hm hg hty ht he hce hct

theorem kdata : (Rows.laid_bulla_sha_constants : DataW Unit) = Lib.tabData .u32 (ktab.map fun x => (x.toNat : Int)) := by rfl
theorem fdata : (Rows.laid_bulla_sha_first : DataW Unit) = Lib.tabData .u32 (htab.list.map fun x => (x.toNat : Int)) := by rfl
theorem getD_map_nat (l : List UInt32) (k : Nat) : (l.map fun x => (x.toNat : Int)).getD k 0 = ((l.getD k 0).toNat : Int) := by
 simp only [List.getD_eq_getElem?_getD, List.getElem?_map]
 cases l[k]? <;> rfl
set_option maxRecDepth 100000 in
theorem kcells_of_laid (h : laidMetH Tryz.prog L W) (hp : (L.all fun x => x.2.handleName?.isNone) = true) (hm : ("bulla/sha.constants", Rows.laid_bulla_sha_constants) ∈ L) : KCells W kfun := by
 rw [kdata] at hm
 have hg : Tryz.prog.globalNamed "bulla/sha.constants" = some 30 := by kernel_rfl
 have ht := tab_of_laid h hp hm hg (t := 314) (by kernel_rfl) Tryz.underlying314 Tryz.underlying296 (by kernel_rfl) (by kernel_rfl)
 intro k hk
 rw [ht.cell hg k (by rw [List.length_map]; exact hk), getD_map_nat]
 rfl
set_option maxRecDepth 100000 in
theorem first_of_laid (h : laidMetH Tryz.prog L W) (hp : (L.all fun x => x.2.handleName?.isNone) = true) (hm : ("bulla/sha.first", Rows.laid_bulla_sha_first) ∈ L) : FirstCells W htab := by
 rw [fdata] at hm
 have hg : Tryz.prog.globalNamed "bulla/sha.first" = some 28 := by kernel_rfl
 have ht := tab_of_laid h hp hm hg (t := 298) (by kernel_rfl) Tryz.underlying298 Tryz.underlying296 (by kernel_rfl) (by kernel_rfl)
 intro k hk
 rw [ht.cell hg k (by rw [List.length_map]; exact hk), getD_map_nat]
end

/-- Both tables stand. -/
structure ShaTabs (w : World) : Prop where
 k : KCells w kfun
 f : FirstCells w htab
theorem ShaTabs.keep {w w' : World} (h : ShaTabs w) (k : Keeps w w') : ShaTabs w' := ⟨h.k.keep k, h.f.keep k⟩
theorem ShaTabs.lt {w : World} (h : ShaTabs w) : 30 < w.heap.size := World.block_lt_of_cell? w _ (h.k 0 (by decide))
theorem ShaTabs.of_laid {L : List (String × DataW Unit)} {W : World} (h : laidMetH Tryz.prog L W) (hp : (L.all fun x => x.2.handleName?.isNone) = true) (hm : ("bulla/sha.constants", Rows.laid_bulla_sha_constants) ∈ L) (hf : ("bulla/sha.first", Rows.laid_bulla_sha_first) ∈ L) : ShaTabs W :=
 ⟨kcells_of_laid h hp hm, first_of_laid h hp hf⟩

theorem RBL.lits {w : World} {g : Nat} {vs : List Value} {ls : List (List UInt8)} {n : Nat} {T : TypeId} {fr : Nat × Nat} (h : w.heap[g]? = some (.cells vs.toArray T fr)) (hn : ls.length = n) (hs : ∀ k, k < n → ∃ v, vs[k]? = some v ∧ SB w v (ls.getD k [])) : RBL w (some ⟨g, 0, none⟩) n ls := by
 refine ⟨hn, fun _ => ⟨g, 0, rfl, fun k hk => ?_⟩⟩
 obtain ⟨v, h1, h2⟩ := hs k hk
 exact ⟨v, by rw [cell_of_row _ _ _ _ _ _ h, Nat.zero_add, List.getElem?_toArray]; exact h1, h2⟩

theorem below_setRow {B : Nat} {a w : World} (h : Below B a w) {g : Nat} (hg : B ≤ g) (c : Array Value) : Below B a (w.setRow g c) :=
 ⟨h.os, h.tape, h.output, by simpa [World.setRow] using h.size, fun i hi => (setRow_other _ _ _ _ (by omega)).trans (h.block i hi)⟩
end Go.Proofs.YtfmagnpmjlppiaaGreatDoor
