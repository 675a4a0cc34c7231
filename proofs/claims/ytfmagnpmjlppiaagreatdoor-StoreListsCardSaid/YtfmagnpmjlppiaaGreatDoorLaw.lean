/- What every law's proof shares: arguments read as lists; the row's last step where nothing that was there has turned. -/
import Derived.Test.YtfmagnpmjlppiaaGreatDoorBase
import Derived.Test.YtfmagnpmjlppiaaGreatDoorRows
import Derived.ProofKit
import Derived.OpenShut
import Derived.Deep.Slices
import Derived.LaidMore
import Derived.LaidLaws
namespace Go.Proofs.YtfmagnpmjlppiaaGreatDoor
open Go.RowKit Go.ChangeShapes Go.WideShapes Go.ChangeAt Go.Deep

theorem own : ownKnob Tryz.prog.godebug = none := by kernel_rfl
theorem laidOut : laidOutB Tryz.prog = true := by kernel_rfl

section
variable {H : Type} {enc : TypeId × Value → H} {P : Program}

theorem post_of_below {f : Func} {s : ChangeSpec} {apart fresh handsOn again : Bool} {W W' : World} {args : Array Value} {v : Value} {ds gs : List (DataW H)} {before pa pv : List MemPlace}
  (hW : DataW.Whole enc P f.params.toList s.vars apart W args.toList ds gs before)
  (hres : ∀ (b : Nat) (sp : Nat → Bool) (hd : Bool), DataW.TrodAll enc P W' b sp hd f.resultTypes.toList (v.resultList f.resultTypes.size) (s.fn H (ds ++ gs)).results [])
  (hargs : ∀ sp : Nat → Bool, (∀ p ∈ before, sp p.block = true) → DataW.TrodAll enc P W' 0 sp true f.params.toList args.toList (s.fn H (ds ++ gs)).args pa)
  (hvars : ∀ sp : Nat → Bool, (∀ p ∈ before, sp p.block = true) → DataW.TrodVars enc P W' sp s.vars (s.fn H (ds ++ gs)).vars pv)
  (hps : before = pa ++ pv) (hb : Below W.heap.size W W')
  (hok : ∀ (j : Nat) (t : TypeId) (r : Value), f.resultTypes[j]? = some t → (v.resultList f.resultTypes.size)[j]? = some r → Value.okWide P W' .any 0 t r) :
  s.post enc P f apart fresh handsOn again W args v W' := by
 have hlt : ∀ p ∈ before, p.block < W.heap.size := fun p hp => hW.lt p hp
 have hold : ∀ p ∈ before, (fun b => decide (b < W.heap.size)) p.block = true := fun p hp => by simpa using hlt p hp
 refine ⟨ds, gs, before, [], pa, pv, hW, hres _ _ _, hargs _ hold, hvars _ hold, World.keptBut_mono (fun p hp => ⟨hp, ?_⟩) (hb.frame (· ∈ before)), fun _ => ?_⟩
 ·rw [hps, List.mem_append] at hp
  exact Or.inr hp
 ·obtain ⟨_, _, _, _, _, hz, hn⟩ := hW
  refine ⟨hok, _, _, ([] ++ pa) ++ pv, ⟨[] ++ pa, pv, trodAll_append (hargs _ (fun _ _ => rfl)) (hres _ _ _), hvars _ (fun _ _ => rfl), rfl, ?_, ?_⟩, ?_⟩
  ·intro b off hp
   have hin : MemPlace.cell b off ∈ before := by rw [hps]; simpa using hp
   rw [hb.frozen (hlt _ hin)]
   exact hz b off hin
  ·intro ha
   have := hn ha
   rw [hps] at this
   simpa using this
  ·intro p hp _
   rw [hps]
   simpa using hp

/-- All arguments read as they did. -/
theorem trodAll_stays (hl : laidOutB P = true) {W W' : World} {sp : Nat → Bool} : ∀ {ts : List TypeId} {vs : List Value} {ds : List (DataW H)} {ps : List MemPlace},
  (∀ t ∈ ts, P.readableRec t = true ∧ t < P.types.size) → DataW.TrodAll enc P W 0 (fun _ => true) true ts vs ds ps → (∀ p ∈ ps, W.sameAt W' p) → (∀ p ∈ ps, sp p.block = true) → DataW.TrodAll enc P W' 0 sp true ts vs ds ps
 | [], vs, ds, ps, _, h, _, _ => by
  cases vs <;> cases ds <;> simp [DataW.TrodAll] at h ⊢
  exact h
 | t :: ts, vs, ds, ps, hr, h, hs, hsp => by
  obtain ⟨v, vs', d, ds', p, q, rfl, rfl, rfl, h1, h2⟩ := trodAll_cons h
  obtain ⟨r1, r2⟩ := hr t (by simp)
  exact trodAll_cons_mk (WideElems.Trod_stays hl r1 r2 h1 (fun x hx => hs x (by simp [hx])) (fun x hx => hsp x (by simp [hx])))
   (trodAll_stays hl (fun t' ht' => hr t' (by simp [ht'])) h2 (fun x hx => hs x (by simp [hx])) (fun x hx => hsp x (by simp [hx])))

/-- The last step of a law: it returned true, and of what was there nothing has turned. -/
theorem law_post (hl : laidOutB P = true) {f : Func} {s : ChangeSpec} {W W' : World} {args : Array Value} {ds gs : List (DataW H)} {before : List MemPlace} {tb : TypeId}
  (hr : ∀ t ∈ f.params.toList, P.readableRec t = true ∧ t < P.types.size) (hvars : s.vars = []) (hres : f.resultTypes = #[tb]) (htb : P.underlying tb = some .bool)
  (hfn : ∀ ds : List (DataW H), ds.length = f.params.size → s.fn H ds = { results := [.lit (.bool true)], args := ds })
  (hW : DataW.Whole enc P f.params.toList s.vars false W args.toList ds gs before) (hb : Below W.heap.size W W') :
  s.post enc P f false true false false W args (.bool true) W' := by
 have hW' := hW
 obtain ⟨p, q, hA, hV, rfl, hfz, hnd⟩ := hW
 rw [hvars] at hV
 have hgs : gs = [] ∧ q = [] := by cases gs <;> simp [DataW.TrodVars] at hV; exact ⟨rfl, hV⟩
 obtain ⟨rfl, rfl⟩ := hgs
 have hlen : ∀ {ts : List TypeId} {vs : List Value} {ds : List (DataW H)} {ps : List MemPlace}, DataW.TrodAll enc P W 0 (fun _ => true) true ts vs ds ps → ds.length = ts.length := by
  intro ts
  induction ts with
  | nil => intro vs ds ps h; cases vs <;> cases ds <;> simp [DataW.TrodAll] at h ⊢
  | cons t ts ih =>
   intro vs ds ps h
   obtain ⟨v, vs', d, ds', p, q, rfl, rfl, rfl, h1, h2⟩ := trodAll_cons h
   simp [ih h2]
 have hd : ds.length = f.params.size := by rw [hlen hA, Array.length_toList]
 have hlt : ∀ x ∈ p ++ [], x.block < W.heap.size := fun x hx => hW'.lt x hx
 have hfn' := hfn ds hd
 refine post_of_below (pa := p) (pv := []) hW' (fun b sp hdd => ?_) (fun sp hsp => ?_) (fun sp _ => ?_) rfl hb (ok_one (by rw [hres]) rfl (okWide_bool_mk htb _))
 ·rw [List.append_nil, hfn', hres]
  exact trodAll_mk1 (shut_bool htb _)
 ·rw [List.append_nil, hfn']
  exact trodAll_stays hl hr hA (fun x hx => hb.same (hlt x (by simp [hx]))) (fun x hx => hsp x (by simp [hx]))
 ·rw [List.append_nil, hfn', hvars]
  rfl
end

section
variable {W : World}
theorem add_add' {v : Value} (a : Addr) (i : Nat) (h : W.cell? (a.add i) = some v) : a.spot = none ∨ i ≠ 0 := by
 by_cases hi : i = 0
 ·subst hi
  left
  have : a.add 0 = a := by simp [Addr.add]
  rw [this] at h
  unfold World.cell? at h
  split at h
  ·split at h
   ·cases h
   ·rename_i hs; simpa using hs
  ·cases h
 ·exact .inr hi

theorem addr_form {a : Addr} {v : Value} (h : W.cell? (a.add 0) = some v) : ∃ b o, a = ⟨b, o, none⟩ := by
 rcases add_add' a 0 h with h' | h'
 ·exact ⟨a.block, a.off, by cases a; simp_all⟩
 ·exact absurd rfl h'

end
end Go.Proofs.YtfmagnpmjlppiaaGreatDoor

/- Arguments that are lists of structs of one-cell fields: read field by field. -/
namespace Go.Proofs.YtfmagnpmjlppiaaGreatDoor
open Go.RowKit Go.ChangeShapes Go.WideShapes Go.ChangeAt Go.Deep

section
variable {H : Type} {enc : TypeId × Value → H} {P : Program} {w : World} {base : Nat} {spare : Nat → Bool} {held : Bool}

/-- The fields' types and places. -/
def fieldsOf (P : Program) (e : TypeId) : Option (List (TypeId × Nat)) := match P.underlying e with
 | some (.struct fs) => some (fs.toList.map fun f => (f.type, f.offset))
 | _ => none

end
end Go.Proofs.YtfmagnpmjlppiaaGreatDoor

/- Arguments that are bytes, lists of bytes: read as lists. -/
namespace Go.Proofs.YtfmagnpmjlppiaaGreatDoor
open Go.RowKit Go.ChangeShapes Go.WideShapes Go.ChangeAt Go.Deep

theorem cells_u8 : Tryz.prog.cellsOf 5 = 1 := by kernel_rfl
theorem cells_bytes : Tryz.prog.cellsOf 24 = 1 := by kernel_rfl
/-! ### arguments read -/
section
variable {H : Type} {enc : TypeId × Value → H} {W : World} {held : Bool}

theorem open_sb {fuel : Nat} {v : Value} {x : DataW H × List MemPlace} (h : DataW.trod enc Tryz.prog W 0 (fun _ => true) held fuel 24 [v] = some x) : ∃ l, SB W v l := by
 rcases open_slice1 Tryz.underlying24 cells_u8 h with ⟨e, _⟩ | ⟨a, len, cap, m, n, V, D, Pl, e, _, hl, hm, hmm, _, hx⟩
 ·injection e with e _; subst e
  exact ⟨[], SB.nil W⟩
 ·injection e with e _; subst e
  have hx' : ∀ i, i < len → ∃ z : UInt8, W.cell? (a.add i) = some (.int .u8 z.toNat) := by
   intro i hi
   obtain ⟨h1, h2⟩ := hx i (by rw [hmm]; simp; omega)
   obtain ⟨z, e1, _, hw⟩ := DataW.trod_int Tryz.underlying5 h2
   injection e1 with e1 _
   rw [e1] at h1
   simp [Lit.wf, IntKind.min, IntKind.max, IntKind.signed, IntKind.bits] at hw
   exact ⟨UInt8.ofNat z.toNat, by rw [h1]; simp; omega⟩
  obtain ⟨f, hf⟩ := choose_lt hx'
  refine ⟨(List.range len).map f, SB.of_rb (n := len) ⟨by simp, fun hn => ?_⟩ hl hm⟩
  obtain ⟨b, o, rfl⟩ := addr_form (hf 0 hn)
  refine ⟨b, o, rfl, fun k hk => ?_⟩
  have := hf k hk
  rw [addr_add] at this
  simpa [hk] using this

end
end Go.Proofs.YtfmagnpmjlppiaaGreatDoor
