/- Layer 16, tables of string to int: the tables. -/
import Derived.Test.YtgiaifglkecdjaaDelSI
import Derived.OneCell
namespace Go.Proofs.Ytgiaifglkecdjaa.SI
open Go.RowKit

/-- Block g is a table of shape s with the entries l. -/
def TabAt (w : World) (g : Nat) (s : Code) (l : List (ByteArray × Int)) : Prop := ∃ p, w.heap[g]? = some (.cells #[.pointer p] 53 (0, 0)) ∧ T w s p l

theorem TabAt.below {w w' : World} {g : Nat} {s : Code} {l : List (ByteArray × Int)} (a : TabAt w g s l) (hb : Below w.heap.size w w') : TabAt w' g s l := by
  obtain ⟨p, h1, h2⟩ := a
  exact ⟨p, (hb.block g (Array.getElem?_eq_some_iff.1 h1).1).trans h1, T.keep h2 (BK.of_below hb)⟩

/-- Blocks that are no nodes may turn. -/
theorem KN.of_fr {S : Nat → Prop} {w w' : World} (hf : Fr S w w') (hs : ∀ (b : Nat) (cs : Array Value), w.heap[b]? = some (.cells cs 57 (0, 0)) → ¬ S b) : KN w w' := fun b cs hb =>
  (hf.block b (Array.getElem?_eq_some_iff.1 hb).1 (hs b cs hb)).trans hb

theorem TabAt.fr {S : Nat → Prop} {w w' : World} {g : Nat} {s : Code} {l : List (ByteArray × Int)} (a : TabAt w g s l) (hf : Fr S w w') (hg : ¬ S g) (hs : ∀ (b : Nat) (cs : Array Value), w.heap[b]? = some (.cells cs 57 (0, 0)) → ¬ S b) : TabAt w' g s l := by
  obtain ⟨p, h1, h2⟩ := a
  exact ⟨p, (hf.block g (Array.getElem?_eq_some_iff.1 h1).1 hg).trans h1, T.keepN h2 (KN.of_fr hf hs)⟩

theorem TabAt.lt {w : World} {g : Nat} {s : Code} {l : List (ByteArray × Int)} (a : TabAt w g s l) : g < w.heap.size := let ⟨_, h1, _⟩ := a; (Array.getElem?_eq_some_iff.1 h1).1
theorem TabAt.len {w : World} {g : Nat} {s : Code} {l : List (ByteArray × Int)} (a : TabAt w g s l) : l.length = sz s := let ⟨_, _, h2⟩ := a; h2.len
/-- A table is no node. -/
theorem TabAt.apart {w : World} {g : Nat} {s : Code} {l : List (ByteArray × Int)} (a : TabAt w g s l) : ∀ (b : Nat) (cs : Array Value), w.heap[b]? = some (.cells cs 57 (0, 0)) → ¬ b = g := by
  obtain ⟨p, h1, _⟩ := a
  rintro b cs hb rfl
  rw [h1] at hb
  injection hb with hb
  injection hb with _ hb _
  exact absurd hb (by decide)

theorem TabAt.stored {w : World} {g : Nat} {s : Code} {p q : Option Addr} {l : List (ByteArray × Int)} (h1 : w.heap[g]? = some (.cells #[.pointer p] 53 (0, 0))) (h2 : T w s q l) : TabAt (w.setCell ⟨g, 0, none⟩ (.pointer q)) g s l := by
  refine ⟨q, one_setCell h1, T.keepN h2 fun b cs hb => ?_⟩
  rw [Below.heap_setCell w ⟨g, 0, none⟩ _ b ?_]
  · exact hb
  · rintro rfl
    rw [h1] at hb
    injection hb with hb
    injection hb with _ hb _
    exact absurd hb (by decide)

theorem New_T (w : World) : Calls Try.prog 6 #[] w fun e w' => e = .returned (.pointer (some ⟨w.heap.size, 0, none⟩)) ∧ TabAt w' w.heap.size .skip [] ∧ Below w.heap.size w w' := by
  go_enter Try.func6, Try.ntmps6
  go_wp2
  go_ret
  exact ⟨rfl, ⟨none, heap_alloc_new w _, Tr.nil _⟩, (Below.refl _ w).alloc (Nat.le_refl _) _⟩

theorem Len_T (g : Nat) (s : Code) (l : List (ByteArray × Int)) (w : World) (a : TabAt w g s l) : Calls Try.prog 18 #[.pointer (some ⟨g, 0, none⟩)] w fun e w' => e = .returned (.int .i64 (l.length : Int)) ∧ w = w' := by
  obtain ⟨p, h1, h2⟩ := a
  have c0 := cell_of_one h1
  have H2 := Lib.hid h2
  clear h1 h2
  go_enter Try.func18, Try.ntmps18
  go_wp2_with (go_at_call 30; refine (many_T s p l _ H2.out).mono ?_; rintro e w' ⟨rfl, rfl⟩)
  go_ret
  exact ⟨rfl, rfl⟩


theorem Put_T (g : Nat) (k : ByteArray) (v : Int) (s : Code) (l : List (ByteArray × Int)) (w : World) (a : TabAt w g s l) (hri : Rises klt l) (hlen : l.length ≤ 1000000000) :
    Calls Try.prog 7 #[.pointer (some ⟨g, 0, none⟩), (.string k), (.int .i64 v)] w fun e w' => e = .returned (.bool (!(look klt k l).isSome)) ∧ TabAt w' g (putS klt k s l) (ins klt k v l) ∧ Fr (fun i => i = g) w w' := by
  have HA := Lib.hid a
  obtain ⟨p, h1, h2⟩ := a
  have c0 := cell_of_one h1
  have H1 := Lib.hid h1
  have H2 := Lib.hid h2
  have HR := Lib.hid hri
  have HL : Hid ((ins klt k v l).length = if (look klt k l).isSome then l.length else l.length + 1) := ins_length
  clear h1 h2 hri
  go_enter Try.func7, Try.ntmps7
  go_wp2_with (first
    | (go_at_call 18; (with_reducible refine (Len_T g s l _ HA.out).mono ?_); rintro e w' ⟨rfl, rfl⟩)
    | (go_at_call 27; refine (put_T k v _ s p l _ (Nat.le_refl _) H2.out HR.out hlen).mono ?_; rintro e w5 ⟨q5, rfl, t5, hb5⟩; have H15 := Lib.hid ((hb5.block g (Array.getElem?_eq_some_iff.1 H1.out).1).trans H1.out); have Ht5 := Lib.hid t5; have Hb5 := Lib.hid hb5; have cc := cell_of_one H15.out; have ff := free_of_one H15.out; clear t5 hb5)
    | (go_at_call 18; refine (Len_T g (putS klt k s l) (ins klt k v l) _ (TabAt.stored H15.out Ht5.out)).mono ?_; rintro e w' ⟨rfl, rfl⟩))
  go_ret
  refine ⟨ret_bool ?_, TabAt.stored H15.out Ht5.out, (Fr.of_below (S := fun i => i = g) Hb5.out).setCell (p := ⟨g, 0, none⟩) (fun _ => rfl) _⟩
  rw [HL.out]
  cases (look klt k l).isSome with
  | true => simp
  | false => simp

theorem Del_T (g : Nat) (k : ByteArray) (s : Code) (l : List (ByteArray × Int)) (w : World) (a : TabAt w g s l) (hri : Rises klt l) (hlen : l.length ≤ 1000000000) :
    Calls Try.prog 9 #[.pointer (some ⟨g, 0, none⟩), (.string k)] w fun e w' => e = .returned (.bool (look klt k l).isSome) ∧ TabAt w' g (delS klt k s l) (rem klt k l) ∧ Fr (fun i => i = g) w w' := by
  have HA := Lib.hid a
  obtain ⟨p, h1, h2⟩ := a
  have c0 := cell_of_one h1
  have H1 := Lib.hid h1
  have H2 := Lib.hid h2
  have HR := Lib.hid hri
  have HL : Hid ((rem klt k l).length = if (look klt k l).isSome then l.length - 1 else l.length) := rem_length
  have HP : Hid ((look klt k l).isSome = true → 0 < l.length) := fun h0 => by
    cases l with
    | nil => simp [look] at h0
    | cons e l => simp
  clear h1 h2 hri
  go_enter Try.func9, Try.ntmps9
  go_wp2_with (first
    | (go_at_call 18; (with_reducible refine (Len_T g s l _ HA.out).mono ?_); rintro e w' ⟨rfl, rfl⟩)
    | (go_at_call 28; refine (del_T k _ s p l _ (Nat.le_refl _) H2.out HR.out hlen).mono ?_; rintro e w5 ⟨q5, rfl, t5, hb5⟩; have H15 := Lib.hid ((hb5.block g (Array.getElem?_eq_some_iff.1 H1.out).1).trans H1.out); have Ht5 := Lib.hid t5; have Hb5 := Lib.hid hb5; have cc := cell_of_one H15.out; have ff := free_of_one H15.out; clear t5 hb5)
    | (go_at_call 18; refine (Len_T g (delS klt k s l) (rem klt k l) _ (TabAt.stored H15.out Ht5.out)).mono ?_; rintro e w' ⟨rfl, rfl⟩))
  go_ret
  refine ⟨ret_bool ?_, TabAt.stored H15.out Ht5.out, (Fr.of_below (S := fun i => i = g) Hb5.out).setCell (p := ⟨g, 0, none⟩) (fun _ => rfl) _⟩
  rw [HL.out]
  have hp := HP.out
  cases hs : (look klt k l).isSome with
  | true => have := hp hs; simp; omega
  | false => simp

theorem Get_T (g : Nat) (k : ByteArray) (s : Code) (l : List (ByteArray × Int)) (w : World) (a : TabAt w g s l) (hri : Rises klt l) :
    Calls Try.prog 11 #[.pointer (some ⟨g, 0, none⟩), (.string k)] w fun e w' => e = .returned (match look klt k l with | some v => .tuple #[(.int .i64 v), .bool true] | none => .tuple #[(.int .i64 0), .bool false]) ∧ w = w' := by
  obtain ⟨p, h1, h2⟩ := a
  have c0 := cell_of_one h1
  have H2 := Lib.hid h2
  have HR := Lib.hid hri
  clear h1 h2 hri
  have HF := Lib.hid (find_T k s p l w H2.out HR.out)
  generalize look klt k l = r at *
  cases r with
  | none =>
    go_enter Try.func11, Try.ntmps11
    go_wp2_with (go_at_call 29; refine HF.out.mono ?_; rintro e w' ⟨q, rfl, rfl, rfl⟩)
    go_ret2
    exact ⟨rfl, rfl⟩
  | some v =>
    go_enter Try.func11, Try.ntmps11
    go_wp2_with (go_at_call 29; refine HF.out.mono ?_; rintro e w' ⟨q, rfl, ⟨b, rfl, d0, d1⟩, rfl⟩)
    go_ret2
    exact ⟨rfl, rfl⟩

theorem Copy_T (g : Nat) (s : Code) (l : List (ByteArray × Int)) (w : World) (a : TabAt w g s l) :
    Calls Try.prog 17 #[.pointer (some ⟨g, 0, none⟩)] w fun e w' => e = .returned (.pointer (some ⟨w.heap.size, 0, none⟩)) ∧ TabAt w' w.heap.size s l ∧ Below w.heap.size w w' := by
  obtain ⟨p, h1, h2⟩ := a
  have c0 := cell_of_one h1
  have H2 := Lib.hid h2
  clear h1 h2
  go_enter Try.func17, Try.ntmps17
  go_wp2
  go_ret
  exact ⟨rfl, ⟨p, heap_alloc_new w _, T.keep H2.out (BK.of_below ((Below.refl _ w).alloc (Nat.le_refl _) _))⟩, (Below.refl _ w).alloc (Nat.le_refl _) _⟩

set_option maxHeartbeats 1000000 in
theorem Rank_T (g : Nat) (k : ByteArray) (s : Code) (l : List (ByteArray × Int)) (w : World) (a : TabAt w g s l) (hri : Rises klt l) (hlen : l.length ≤ 1000000000) :
    Calls Try.prog 21 #[.pointer (some ⟨g, 0, none⟩), (.string k)] w fun e w' => e = .returned (.int .i64 (rank klt k l : Int)) ∧ w = w' := by
  obtain ⟨p, h1, h2⟩ := a
  have c0 := cell_of_one h1
  have H2 := Lib.hid h2
  have HR := Lib.hid hri
  clear h1 h2 hri
  go_enter Try.func21, Try.ntmps21
  go_wp2_with fail
  go_loopg [5, 6] (sz s) (fun gk s5 s6 wr => ∃ (n : Nat) (q : Option Addr) (l' : List (ByteArray × Int)) (s' : Code), s5 = .int .i64 (n : Int) ∧ s6 = .pointer q ∧ T w s' q l' ∧ Rises klt l' ∧ n + rank klt k l' = rank klt k l ∧ n + l'.length ≤ l.length ∧ sz s' ≤ gk ∧ wr = w)
  case atStart => exact ⟨0, p, l, s, rfl, rfl, H2.out, HR.out, by omega, by omega, Nat.le_refl _, rfl⟩
  case round =>
    obtain ⟨n, q, l', s', rfl, rfl, ht, hr', hrk, hle, hg, rfl⟩ := hrel
    rcases Tr.open ht with ⟨rfl, rfl, rfl⟩ | ⟨b, a, x, pl, pr, ll, lr, sl, sr, rfl, hn, rfl, rfl, al, ar⟩
    · have Hrk := Lib.hid hrk
      clear hrk ht hr' hg
      go_wp2
      go_ret
      exact ⟨ret_int (by have := Hrk.out; simp [rank] at this; rw [rank]; omega), rfl⟩
    obtain ⟨d0, d1, d2, d3, -, -⟩ := NP.cells hn
    have G1 := Lib.hid al
    have G2 := Lib.hid ar
    have Hrk := Lib.hid hrk
    have Hr' := Lib.hid hr'
    simp only [List.length_append, List.length_cons] at hle
    simp only [sz] at hg
    clear hrk ht hr' al ar hn
    cases hgt : klt a k with
    | true =>
      have HC := Lib.hid hgt
      have q2 : Op.bytesLess a.toList k.toList = true := hgt
      clear hgt
      go_wp2_with (go_at_call 30; refine (many_T sl pl ll _ G1.out).mono ?_; rintro e w' ⟨rfl, rfl⟩)
      go_roundg (gk - 1)
      case measure => omega
      case rel => exact ⟨n + (ll.length + 1), pr, lr, sr, by go_num, rfl, G2.out, Hr'.out.right.tail, by rw [← Hrk.out, rank_right klin Hr'.out HC.out]; omega, by omega, by omega, rfl⟩
    | false =>
      have HC := Lib.hid hgt
      have q2 : Op.bytesLess a.toList k.toList = false := hgt
      clear hgt
      go_wp2
      go_roundg (gk - 1)
      case measure => omega
      case rel => exact ⟨n, pl, ll, sl, rfl, rfl, G1.out, Hr'.out.left, by rw [← Hrk.out, rank_left klin Hr'.out HC.out], by omega, by omega, rfl⟩
end Go.Proofs.Ytgiaifglkecdjaa.SI
