/- Layer 16, tables of int to bool: the tables. -/
import Derived.Test.YtgiaifglkecdjaaDelIB
import Derived.OneCell
namespace Go.Proofs.Ytgiaifglkecdjaa.IB
open Go.RowKit

/-- Block g is a table of shape s with the entries l. -/
def TabAt (w : World) (g : Nat) (s : Code) (l : List (Int × Bool)) : Prop := ∃ p, w.heap[g]? = some (.cells #[.pointer p] 63 (0, 0)) ∧ T w s p l

theorem TabAt.below {w w' : World} {g : Nat} {s : Code} {l : List (Int × Bool)} (a : TabAt w g s l) (hb : Below w.heap.size w w') : TabAt w' g s l := by
  obtain ⟨p, h1, h2⟩ := a
  exact ⟨p, (hb.block g (Array.getElem?_eq_some_iff.1 h1).1).trans h1, T.keep h2 (BK.of_below hb)⟩

/-- Blocks that are no nodes may turn. -/
theorem KN.of_fr {S : Nat → Prop} {w w' : World} (hf : Fr S w w') (hs : ∀ (b : Nat) (cs : Array Value), w.heap[b]? = some (.cells cs 72 (0, 0)) → ¬ S b) : KN w w' := fun b cs hb =>
  (hf.block b (Array.getElem?_eq_some_iff.1 hb).1 (hs b cs hb)).trans hb

theorem TabAt.fr {S : Nat → Prop} {w w' : World} {g : Nat} {s : Code} {l : List (Int × Bool)} (a : TabAt w g s l) (hf : Fr S w w') (hg : ¬ S g) (hs : ∀ (b : Nat) (cs : Array Value), w.heap[b]? = some (.cells cs 72 (0, 0)) → ¬ S b) : TabAt w' g s l := by
  obtain ⟨p, h1, h2⟩ := a
  exact ⟨p, (hf.block g (Array.getElem?_eq_some_iff.1 h1).1 hg).trans h1, T.keepN h2 (KN.of_fr hf hs)⟩

theorem TabAt.lt {w : World} {g : Nat} {s : Code} {l : List (Int × Bool)} (a : TabAt w g s l) : g < w.heap.size := let ⟨_, h1, _⟩ := a; (Array.getElem?_eq_some_iff.1 h1).1
theorem TabAt.len {w : World} {g : Nat} {s : Code} {l : List (Int × Bool)} (a : TabAt w g s l) : l.length = sz s := let ⟨_, _, h2⟩ := a; h2.len
/-- A table is no node. -/
theorem TabAt.apart {w : World} {g : Nat} {s : Code} {l : List (Int × Bool)} (a : TabAt w g s l) : ∀ (b : Nat) (cs : Array Value), w.heap[b]? = some (.cells cs 72 (0, 0)) → ¬ b = g := by
  obtain ⟨p, h1, _⟩ := a
  rintro b cs hb rfl
  rw [h1] at hb
  injection hb with hb
  injection hb with _ hb _
  exact absurd hb (by decide)

theorem TabAt.stored {w : World} {g : Nat} {s : Code} {p q : Option Addr} {l : List (Int × Bool)} (h1 : w.heap[g]? = some (.cells #[.pointer p] 63 (0, 0))) (h2 : T w s q l) : TabAt (w.setCell ⟨g, 0, none⟩ (.pointer q)) g s l := by
  refine ⟨q, one_setCell h1, T.keepN h2 fun b cs hb => ?_⟩
  rw [Below.heap_setCell w ⟨g, 0, none⟩ _ b ?_]
  · exact hb
  · rintro rfl
    rw [h1] at hb
    injection hb with hb
    injection hb with _ hb _
    exact absurd hb (by decide)

theorem New_T (w : World) : Calls Try.prog 23 #[] w fun e w' => e = .returned (.pointer (some ⟨w.heap.size, 0, none⟩)) ∧ TabAt w' w.heap.size .skip [] ∧ Below w.heap.size w w' := by
  go_enter Try.func23, Try.ntmps23
  go_wp2
  go_ret
  exact ⟨rfl, ⟨none, heap_alloc_new w _, Tr.nil _⟩, (Below.refl _ w).alloc (Nat.le_refl _) _⟩

theorem Len_T (g : Nat) (s : Code) (l : List (Int × Bool)) (w : World) (a : TabAt w g s l) : Calls Try.prog 26 #[.pointer (some ⟨g, 0, none⟩)] w fun e w' => e = .returned (.int .i64 (l.length : Int)) ∧ w = w' := by
  obtain ⟨p, h1, h2⟩ := a
  have c0 := cell_of_one h1
  have H2 := Lib.hid h2
  clear h1 h2
  go_enter Try.func26, Try.ntmps26
  go_wp2_with (go_at_call 34; refine (many_T s p l _ H2.out).mono ?_; rintro e w' ⟨rfl, rfl⟩)
  go_ret
  exact ⟨rfl, rfl⟩

theorem Height_T (g : Nat) (s : Code) (l : List (Int × Bool)) (w : World) (a : TabAt w g s l) : Calls Try.prog 25 #[.pointer (some ⟨g, 0, none⟩)] w fun e w' => e = .returned (.int .i64 (ht s : Int)) ∧ w = w' := by
  obtain ⟨p, h1, h2⟩ := a
  have c0 := cell_of_one h1
  have H2 := Lib.hid h2
  clear h1 h2
  go_enter Try.func25, Try.ntmps25
  go_wp2_with (go_at_call 33; refine (high_T s p l _ H2.out).mono ?_; rintro e w' ⟨rfl, rfl⟩)
  go_ret
  exact ⟨rfl, rfl⟩

theorem Put_T (g : Nat) (k : Int) (v : Bool) (s : Code) (l : List (Int × Bool)) (w : World) (a : TabAt w g s l) (hri : Rises klt l) (hlen : l.length ≤ 1000000000) :
    Calls Try.prog 24 #[.pointer (some ⟨g, 0, none⟩), (.int .i64 k), (.bool v)] w fun e w' => e = .returned (.bool (!(look klt k l).isSome)) ∧ TabAt w' g (putS klt k s l) (ins klt k v l) ∧ Fr (fun i => i = g) w w' := by
  have HA := Lib.hid a
  obtain ⟨p, h1, h2⟩ := a
  have c0 := cell_of_one h1
  have H1 := Lib.hid h1
  have H2 := Lib.hid h2
  have HR := Lib.hid hri
  have HL : Hid ((ins klt k v l).length = if (look klt k l).isSome then l.length else l.length + 1) := ins_length
  clear h1 h2 hri
  go_enter Try.func24, Try.ntmps24
  go_wp2_with (first
    | (go_at_call 26; (with_reducible refine (Len_T g s l _ HA.out).mono ?_); rintro e w' ⟨rfl, rfl⟩)
    | (go_at_call 32; refine (put_T k v _ s p l _ (Nat.le_refl _) H2.out HR.out hlen).mono ?_; rintro e w5 ⟨q5, rfl, t5, hb5⟩; have H15 := Lib.hid ((hb5.block g (Array.getElem?_eq_some_iff.1 H1.out).1).trans H1.out); have Ht5 := Lib.hid t5; have Hb5 := Lib.hid hb5; have cc := cell_of_one H15.out; have ff := free_of_one H15.out; clear t5 hb5)
    | (go_at_call 26; refine (Len_T g (putS klt k s l) (ins klt k v l) _ (TabAt.stored H15.out Ht5.out)).mono ?_; rintro e w' ⟨rfl, rfl⟩))
  go_ret
  refine ⟨ret_bool ?_, TabAt.stored H15.out Ht5.out, (Fr.of_below (S := fun i => i = g) Hb5.out).setCell (p := ⟨g, 0, none⟩) (fun _ => rfl) _⟩
  rw [HL.out]
  cases (look klt k l).isSome with
  | true => simp
  | false => simp





end Go.Proofs.Ytgiaifglkecdjaa.IB
