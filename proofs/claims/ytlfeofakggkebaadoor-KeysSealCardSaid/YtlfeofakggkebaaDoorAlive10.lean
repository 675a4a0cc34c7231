/- Layer 10's law: alive. -/
import Derived.Test.YtlfeofakggkebaaDoorRingC
import Derived.Test.YtlfeofakggkebaaDoorNum
import Derived.Lib.SlBytesConst
namespace Go.Proofs.YtlfeofakggkebaaDoor
open Go.RowKit Go.Instr

theorem inE_put_same (x y : ByteArray) (l : List (ByteArray × ByteArray)) : inE x y (putE x y l) = true := by
  unfold inE putE
  by_cases h : (lookE x y l 0).isSome = true
  · rw [if_pos h]; exact h
  · rw [if_neg h]
    have : ∀ (l : List (ByteArray × ByteArray)) i, (lookE x y (l ++ [(x, y)]) i).isSome = true := by
      intro l
      induction l with
      | nil =>
        intro i
        have e : lookE x y ([] ++ [(x, y)]) i = some (i, .bool true) := if_pos ⟨rfl, rfl⟩
        rw [e]; rfl
      | cons z l ih =>
        intro i
        by_cases c : x.toList = z.1.toList ∧ y.toList = z.2.toList
        · have e : lookE x y (z :: l ++ [(x, y)]) i = some (i, .bool true) := if_pos c
          rw [e]; rfl
        · have e : lookE x y (z :: l ++ [(x, y)]) i = lookE x y (l ++ [(x, y)]) (i + 1) := if_neg c
          rw [e]; exact ih _
    exact this l 0
theorem inE_put_other (x y x' y' : ByteArray) (l : List (ByteArray × ByteArray)) (hne : ¬ (x' = x ∧ y' = y)) : inE x' y' (putE x y l) = inE x' y' l := by
  unfold inE putE
  by_cases h : (lookE x y l 0).isSome = true
  · rw [if_pos h]
  · rw [if_neg h]
    have : ∀ (l : List (ByteArray × ByteArray)) i, (lookE x' y' (l ++ [(x, y)]) i).isSome = (lookE x' y' l i).isSome := by
      intro l
      induction l with
      | nil =>
        intro i
        have e : lookE x' y' ([] ++ [(x, y)]) i = lookE x' y' [] (i + 1) := if_neg fun c => hne ⟨bytes_inj c.1, bytes_inj c.2⟩
        rw [e]; rfl
      | cons z l ih =>
        intro i
        by_cases c : x'.toList = z.1.toList ∧ y'.toList = z.2.toList
        · have e : lookE x' y' (z :: l ++ [(x, y)]) i = some (i, .bool true) := if_pos c
          have e2 : lookE x' y' (z :: l) i = some (i, .bool true) := if_pos c
          rw [e, e2]
        · have e : lookE x' y' (z :: l ++ [(x, y)]) i = lookE x' y' (l ++ [(x, y)]) (i + 1) := if_neg c
          have e2 : lookE x' y' (z :: l) i = lookE x' y' l (i + 1) := if_neg c
          rw [e, e2]; exact ih _
    exact this l 0
theorem inE_nil (x y : ByteArray) : inE x y [] = false := rfl

theorem rb_lit1 {w : World} {g : Nat} {l : List UInt8} {T : TypeId} {fr : Nat × Nat} (h : w.heap[g]? = some (.cells (bcells l).toArray T fr)) : RB w (some ⟨g, 0, none⟩) l.length l := RB.row h rfl
def zeroK : List UInt8 := List.replicate 32 0
theorem made32 : madeCells (Value.int .u8 0).cells 32 = (bcells zeroK).toArray := by kernel_rfl
theorem made_32 (W : World) : (Instr.makeSlice 22 (.int .i64 32) (.int .i64 32)).run Tryd.prog W = .ok (.slice (some ⟨W.heap.size, 0, none⟩) 32 32) (W.alloc (.cells (bcells zeroK).toArray 5)) := by
  obtain ⟨i0, hi, hz0, hz1, hz2⟩ := info_parts info_u8
  have h := run_make (P := Tryd.prog) W 22 5 i0 _ Tryd.underlying22 hi hz0 .i64 .i64 32 32 (by omega) (by omega) (by rw [hz2]; omega) (by omega)
  rw [hz1, Nat.mul_one, show (32 : Int).toNat = 32 from rfl, made32] at h
  exact h
theorem RB.alloc {w : World} {l : List UInt8} {n : Nat} {T : TypeId} (hn : l.length = n) : RB (w.alloc (.cells (bcells l).toArray T)) (some ⟨w.heap.size, 0, none⟩) n l := RB.row (heap_alloc_new w _) hn

/-- The chapter's frames. -/
theorem good_a : frameBad [97] [[109]] = false := by decide +kernel
theorem good_b : frameBad [98] [[109]] = false := by decide +kernel
theorem ab_ne : frameB [97] [[109]] ≠ frameB [98] [[109]] := by decide +kernel
theorem findK_one (id : ByteArray) (key : List UInt8) : findK id [(id, key)] = some key := by
  have hb : (id == id) = true := by rw [beq_toListBytes]; exact beq_self_eq_true _
  exact if_pos hb
theorem toArray_ne {l r : List UInt8} (h : l ≠ r) : (⟨l.toArray⟩ : ByteArray) ≠ ⟨r.toArray⟩ := by
  intro e
  injection e with e
  injection e with e
  exact h e
theorem errOf_twelve (ea : Nat → Addr) : errOf ea 12 = .iface 213 (.pointer (some (ea 12))) := rfl

set_option maxHeartbeats 4000000 in
set_option maxRecDepth 100000 in
theorem alive10_any (w : World) {ea : Nat → Addr} (hE : Errs w ea) (ht : ShaTabs w) : Calls Tryd.prog 10 #[] w fun e w' => e = .returned (.bool true) ∧ Below w.heap.size w w' := by
  have HE := Lib.hid hE
  have HT := Lib.hid ht
  have HM := Lib.hid made_32
  have hmk := made_32
  have HN := Lib.hid (fun W (hb : Below w.heap.size w W) => New_G (w0 := w) hb)
  have HL : Hid (zeroK.length = 32) := Lib.hid rfl
  have kc := fun (w : World) (C : Array Value) (n c : Nat) => Lib.run_convert_bytes_const (P := Tryd.prog) w 22 5 C n c Tryd.underlying22 Tryd.underlying5
  have RM : Hid (∀ W : World, RB (W.alloc (.cells #[.int .u8 109] 5 (1, 2))) (some ⟨W.heap.size, 0, none⟩) 1 [109]) := Lib.hid fun W => rb_lit1 (l := [109]) (heap_alloc_new W _)
  obtain ⟨id, hid⟩ : ∃ id : ByteArray, id = ⟨(idL zeroK).toArray⟩ := ⟨_, rfl⟩
  have HADD : Hid (∀ W g ks es, RG w W g ks es → findK id ks = none → Calls Tryd.prog 17 #[.pointer (some ⟨g, 0, none⟩), .slice (some ⟨W.heap.size, 0, none⟩) 32 32] (W.alloc (.cells (bcells zeroK).toArray 5)) fun e w' => e = .returned (.tuple #[.string id, .nilIface]) ∧ RG w w' g (ks ++ [(id, zeroK)]) es) := Lib.hid fun W g ks es h hn => by
    rw [hid] at hn ⊢
    exact (Add_G (h.below ((Below.refl _ W).alloc (Nat.le_refl _) _)) _ 32 zeroK (RB.alloc rfl) (by omega) (by unfold maxLen; omega) ht hn).mono fun e w' ⟨h1, h2, _⟩ => ⟨h1, h2⟩
  have HF : Hid (findK id [(id, zeroK)] = some zeroK) := Lib.hid (findK_one _ _)
  clear hid hE ht
  go_enter Tryd.func10, Tryd.ntmps10
  go_wp2_with (first
    | (go_at_call 16; refine (HN.out w (Below.refl _ w)).mono ?_; rintro e w1 ⟨rfl, hs1, -⟩; replace hs1 := Lib.hid hs1)
    | (go_at_call 17; refine (HADD.out _ _ _ _ hs1.out rfl).mono ?_; rw [List.nil_append]; rintro e w2 ⟨rfl, hs2⟩; replace hs2 := Lib.hid hs2))
  have HS2 := Lib.hid (hs2.out.below ((Below.refl w2.heap.size w2).alloc (Nat.le_refl _) (.cells #[.int .u8 109] 5 (1, 2))))
  have HSG := Lib.hid (Sign_good HS2.out id zeroK HF.out ⟨#[97]⟩ _ 1 1 [109] (RM.out w2) (by omega) (by unfold maxLen; omega) good_a HT.out)
  obtain ⟨fa, hfa⟩ : ∃ fa, fa = frameB (⟨#[97]⟩ : ByteArray).data.toList [[109]] := ⟨_, rfl⟩
  obtain ⟨fb, hfb⟩ : ∃ fb, fb = frameB (⟨#[98]⟩ : ByteArray).data.toList [[109]] := ⟨_, rfl⟩
  have HNE : Hid (¬ (id = id ∧ (⟨fb.toArray⟩ : ByteArray) = ⟨fa.toArray⟩)) := Lib.hid fun h => by
    rw [hfa, hfb] at h
    exact toArray_ne ab_ne.symm h.2
  have HVA : Hid (∀ W q g es, RG w W g [(id, zeroK)] es → RB W (some ⟨q, 0, none⟩) 32 (hmacF zeroK fa) → inE id ⟨fa.toArray⟩ es = true → Calls Tryd.prog 20 #[.pointer (some ⟨g, 0, none⟩), .string id, .string ⟨#[97]⟩, .slice (some ⟨W.heap.size, 0, none⟩) 1 1, .slice (some ⟨q, 0, none⟩) 32 32] (W.alloc (.cells #[.int .u8 109] 5 (1, 2))) fun e w' => e = .returned .nilIface ∧ Below W.heap.size W w') := Lib.hid fun W q g es hg hr hin => by
    have D := (Below.refl W.heap.size W).alloc (Nat.le_refl _) (.cells #[.int .u8 109] 5 (1, 2))
    have h := Verify_good (hg.below D) id zeroK HF.out ⟨#[97]⟩ _ 1 1 [109] (RM.out W) (by omega) (by unfold maxLen; omega) good_a HT.out _ 32 32 (hmacF zeroK fa) (hr.keep (Keeps.of_below D)) HE.out
    rw [← hfa, if_pos ⟨rfl, hin⟩] at h
    exact h.mono fun e w' ⟨h1, h2⟩ => ⟨h1, D.trans (h2.mono D.size)⟩
  have HVB : Hid (∀ W q g es, RG w W g [(id, zeroK)] es → RB W (some ⟨q, 0, none⟩) 32 (hmacF zeroK fa) → inE id ⟨fb.toArray⟩ es = false → Calls Tryd.prog 20 #[.pointer (some ⟨g, 0, none⟩), .string id, .string ⟨#[98]⟩, .slice (some ⟨W.heap.size, 0, none⟩) 1 1, .slice (some ⟨q, 0, none⟩) 32 32] (W.alloc (.cells #[.int .u8 109] 5 (1, 2))) fun e w' => e = .returned (.iface 213 (.pointer (some (ea 12)))) ∧ Below W.heap.size W w') := Lib.hid fun W q g es hg hr hin => by
    have D := (Below.refl W.heap.size W).alloc (Nat.le_refl _) (.cells #[.int .u8 109] 5 (1, 2))
    have h := Verify_good (hg.below D) id zeroK HF.out ⟨#[98]⟩ _ 1 1 [109] (RM.out W) (by omega) (by unfold maxLen; omega) good_b HT.out _ 32 32 (hmacF zeroK fa) (hr.keep (Keeps.of_below D)) HE.out
    rw [← hfb, if_neg (fun h => by rw [hin] at h; exact absurd h.2 (by decide))] at h
    exact h.mono fun e w' ⟨h1, h2⟩ => ⟨h1, D.trans (h2.mono D.size)⟩
  rw [← hfa] at HSG
  have IA := Lib.hid (inE_put_same id ⟨fa.toArray⟩ [])
  have IB : Hid (inE id ⟨fb.toArray⟩ (putE id ⟨fa.toArray⟩ []) = false) := Lib.hid (by rw [inE_put_other _ _ _ _ _ HNE.out]; rfl)
  clear hfa hfb
  generalize hmacF zeroK fa = dg at *
  refine HSG.out.mono ?_
  rintro e w3 ⟨q, rfl, hr3, hs3, -⟩
  have R3 := Lib.hid hr3
  have S3 := Lib.hid hs3
  clear hr3 hs3 HSG
  go_wp2_with (first
    | (go_at_call 20; (with_reducible refine (HVA.out w3 q _ _ S3.out R3.out IA.out).mono ?_); rintro e w4 ⟨rfl, hb4⟩; have S4 := Lib.hid (S3.out.below hb4); have R4 := Lib.hid (R3.out.keep (Keeps.of_below hb4)); clear hb4)
    | (go_at_call 20; (with_reducible refine (HVB.out w4 q _ _ S4.out R4.out IB.out).mono ?_); rintro e w5 ⟨rfl, hb5⟩; have S5 := Lib.hid (S4.out.below hb5); clear hb5)
    | (go_at_call 14; (with_reducible refine (Num_err (HE.out.below S5.out.bel) 12 (by omega) (by omega)).mono ?_); rintro e w6 ⟨rfl, hb6⟩; have B6 := Lib.hid (S5.out.bel.trans (hb6.mono S5.out.bel.size)); clear hb6))
  go_ret
  exact ⟨rfl, B6.out⟩
end Go.Proofs.YtlfeofakggkebaaDoor
