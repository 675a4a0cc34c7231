/- Layer 18 (wal): Records, in slices of the call's own. -/
import Derived.Test.YtfmagnpmjlppiaaGreatDoorWalT
import Derived.Deep.LoopGhost
namespace Go.Proofs.YtfmagnpmjlppiaaGreatDoor
open Go.RowKit
section
variable {w : World} {P : Nat → Prop} {gl g : Nat} {L : LM}
set_option maxHeartbeats 1000000 in
set_option maxRecDepth 100000 in
theorem Records_O (h : LogAt w P gl g L) (hL : L.Ok) : Calls Tryz.prog 33 #[.pointer (some ⟨gl, 0, none⟩)] w fun e w' => ∃ (A : Option Addr) (c : Nat) (xs : List (List UInt8 × Value)), e = .returned (.slice A L.recs.length c) ∧ OwnS w' w.heap.size 24 1 (.slice A L.recs.length c) L.recs.length (xs.map fun x => x.2) ∧ xs.map (fun x => x.1) = L.recs ∧ (∀ x ∈ xs, OB w' w.heap.size x.2 x.1) ∧ Below w.heap.size w w' := by
 obtain ⟨tv, rv, ws, hV⟩ := h
 have hn := hV.num
 obtain ⟨AR, cR, e4, h1, h2⟩ := hV.recs.form
 have c4 : w.cell? ⟨gl, 4, none⟩ = some (.slice AR ws.length cR) := by rw [← e4]; exact hV.cell 4
 have hmax : ws.length ≤ 1000000 := by have := endOf_ge L.recs; have := hL.recs; omega
 have HR : Hid (∀ k (hk : k < ws.length), ∃ b o, AR = some ⟨b, o, none⟩ ∧ w.cell? ⟨b, o + k, none⟩ = some (ws[k]'hk).2) := Hj fun k hk => by
  obtain ⟨g', o, cap, e, _, _, hc⟩ := hV.recs.cells (by simp; omega)
  rw [e4] at e
  injection e with e1 _ _
  exact ⟨g', o, e1, hc k _ (by simp [hk])⟩
 have HX := Hj hV.each
 have HQ := Hj hV.eq
 have HL : Hid (∀ x ∈ ws, x.1.length ≤ 1048576) := Hj fun x hx => by
  have h3 := hL.recs
  rw [← hV.eq] at h3
  have : ∀ (l : List (List UInt8 × Value)), x ∈ l → x.1.length ≤ endOf (l.map fun x => x.1) := by
   intro l
   induction l with
   | nil => intro h; cases h
   | cons a r ih =>
    intro h
    rcases List.mem_cons.1 h with rfl | h
    ·simp [endOf]; omega
    ·have := ih h; simp [endOf] at *; omega
  have := this ws hx
  omega
 rw [← hn]
 clear hV hL e4 hn
 go_enter Tryz.func33, Tryz.ntmps33
 go_wp2
 go_loopw [3, 11] (fun s3 s11 wr => ∃ (k : Nat) (xs : List (List UInt8 × Value)), k ≤ ws.length ∧ s11 = .int .i64 (k : Int) ∧ OwnS wr w.heap.size 24 1 s3 k (xs.map fun x => x.2) ∧ xs.map (fun x => x.1) = (ws.take k).map (fun x => x.1) ∧ (∀ x ∈ xs, OB wr w.heap.size x.2 x.1) ∧ Below w.heap.size w wr) (fun _ i _ => ws.length - (intOf i).toNat)
 case atStart => exact ⟨0, [], Nat.zero_le _, rfl, OwnS.nil _ _ _ _, rfl, fun x hx => (by cases hx), Below.refl _ _⟩
 case round =>
  obtain ⟨k, xs, hk, rfl, hown, hxs, hob, hbel⟩ := hrel
  have HO := Hj hown
  have HXS := Hj hxs
  have HOB := Hj hob
  have HB := Hj hbel
  obtain ⟨A3, c3, rfl, hk3, hc3⟩ := hown.form
  clear hown hxs hob hbel
  by_cases hlt : k < ws.length
  ·obtain ⟨b, o, rfl, hc⟩ := HR.out k hlt
   have hm : ws[k]'hlt ∈ ws := List.getElem_mem _
   have hHT := List.take_succ_eq_append_getElem (l := ws) (i := k) hlt
   have HT := Hj hHT
   have hx := HX.out _ hm
   have hl := HL.out _ hm
   clear hHT
   generalize ws[k]'hlt = x at *
   obtain ⟨t, v⟩ := x
   obtain ⟨AX, cX, ev, _, _, hrx⟩ := hx.form
   dsimp only at ev hx hl hrx hc
   subst ev
   have cx := Kz HB.out _ _ hc
   have HC := Hj (Clone_any AX t.length cX t wr (hrx.keep (Kz HB.out)) (by omega))
   have k0 : (0 : Int) ≤ (k : Int) := by omega
   have k1 : (k : Int) < (ws.length : Int) := by omega
   clear hx hrx hc hm hl
   go_wp2_with (first
    | (go_at_call 78; go_loud ((with_reducible refine HC.out.mono ?_); rintro e w1 ⟨A1, c1, rfl, ho1, hb1⟩; have O1 := Hj ho1; have B1 := Hj hb1; clear ho1 hb1))
    | (refine wpList_append_r rfl (.tmp 15) (.tmp 18) (by rfl) ((HO.out.below B1.out).alloc _) (by rfl) (Src.one w1 _ A1 t.length c1 1 (fun _ _ h => h)) (by rfl) (by omega) (by have := HB.out.size; have := B1.out.size; simp; omega) ?_; intro v7 w7 hown7 hgr7 hat7; obtain ⟨A7, c7, rfl, -, -⟩ := OwnS.form hown7; have O7 := Hj hown7; have G7 := Hj hgr7; have T7 := Hj hat7; clear hown7 hgr7 hat7)
    | fail)
   go_roundw
   case rel =>
    have D1 := (Below.refl w1.heap.size w1).alloc Kj (.cells #[.slice A1 t.length c1] 24)
    have hF := Fr.of_grown G7.out
    have keep : ∀ (x : Value) (l : List UInt8), OB wr w.heap.size x l → OB w7 w.heap.size x l := fun x l hx => by
     refine OwnS.kept ((hx.below B1.out).below D1) hF fun q hq e => ?_
     obtain ⟨cur, hcur⟩ := own_type hx hq
     obtain ⟨cur', hcur'⟩ := own_type HO.out e.symm
     exact absurd (types_ne hcur hcur') (by decide)
    refine ⟨k + 1, xs ++ [(t, .slice A1 t.length c1)], by omega, by go_num, ?_, ?_, fun x hx => ?_, ?_⟩
    ·rw [List.map_append]; exact O7.out
    ·rw [List.map_append, HXS.out, HT.out, List.map_append]; rfl
    ·rcases List.mem_append.1 hx with hx | hx
     ·exact keep _ _ (HOB.out x hx)
     ·rw [List.mem_singleton.1 hx]
      refine OwnS.kept ((OB.mono O1.out HB.out.size).below D1) hF fun q hq e => ?_
      have h1 := (OB.lt O1.out q hq).1
      have h2 := (OwnS.lt HO.out q e.symm).2
      omega
    ·exact ((HB.out.trans (B1.out.mono HB.out.size)).trans (D1.mono (Kv HB.out.size B1.out.size))).grown G7.out (Kv HB.out.size (Kv B1.out.size D1.size)) fun q hq => (OwnS.lt HO.out q hq).1
   case measure => simp [intOf]; omega
  ·obtain rfl : k = ws.length := by omega
   go_wp2
   go_ret
   have he : xs.map (fun x => x.1) = L.recs := by rw [HXS.out, List.take_length, HQ.out]
   exact ⟨_, _, xs, rfl, HO.out, he, HOB.out, HB.out⟩
end
end Go.Proofs.YtfmagnpmjlppiaaGreatDoor
