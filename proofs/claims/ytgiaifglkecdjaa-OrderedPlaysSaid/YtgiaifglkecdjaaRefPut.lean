/- The reference's tables of texts (layer 16): Put, Del. -/
import Derived.Test.YtgiaifglkecdjaaRefEnt
namespace Go.Proofs.Ytgiaifglkecdjaa
open Go.RowKit
open SI

/-- A table's block behind a store of a row that the call owns. -/
theorem RTab.stored {w W : World} {R : Nat} {v v' : Value} {l : List (ByteArray × Int)} (h1 : w.heap[R]? = some (.cells #[v] 30 (0, 0))) (hb : Below w.heap.size w W) (h2 : OE W w.heap.size v' l) : RTab (W.setCell ⟨R, 0, none⟩ v') R l := by
  have hR := (Array.getElem?_eq_some_iff.1 h1).1
  have h1' := (hb.block R hR).trans h1
  refine ⟨v', one_setCell h1', ?_⟩
  have := OwnS.keepB h2 (w' := W.setCell ⟨R, 0, none⟩ v') fun g hg => Below.heap_setCell W ⟨R, 0, none⟩ v' g (by
    have h3 := (OwnS.lt h2 g hg).1
    intro h4
    have h5 : g = R := h4
    omega)
  exact OwnS.mono this fun _ _ => Nat.zero_le _

set_option maxHeartbeats 2000000 in
theorem RefPut_T (R : Nat) (k : ByteArray) (x : Int) (l : List (ByteArray × Int)) (w : World) (a : RTab w R l) (hri : Rises klt l) (hlen : l.length ≤ 1000000) :
    Calls Try.prog 8 #[.pointer (some ⟨R, 0, none⟩), .string k, .int .i64 x] w fun e w' => e = .returned (.bool (!(look klt k l).isSome)) ∧ RTab w' R (ins klt k x l) ∧ Fr (fun i => i = R) w w' := by
  have HA := Lib.hid a
  obtain ⟨v, h1, h2⟩ := a
  have HR := Lib.hid hri
  have HRk := Lib.hid (RefRank_T R k l w HA.out (by omega))
  have HI := Lib.hid (ins_eq klin (k := k) (v := x) hri)
  have hrl := rank_le (lt := klt) k l
  have hrs := Lib.hid (rank_lt klin (k := k) hri)
  obtain ⟨r, hr⟩ : ∃ r, r = rank klt k l := ⟨_, rfl⟩
  rw [← hr] at HRk HI hrl hrs
  have H1 := Lib.hid h1
  clear hri hr
  cases hs : look klt k l with
  | none =>
    have hcut : ∃ V1 V2, Cuts w v V1 V2 r r l := cuts_of (base := 0) h2 hrl hrl
    obtain ⟨V1, V2, hc1, hc2, hc3, hc4⟩ := hcut
    have S1 := Lib.hid hc3
    have S2 := Lib.hid hc4
    have HG : Hid (∀ W, RTab W R l → Calls Try.prog 12 #[.pointer (some ⟨R, 0, none⟩), .string k] W fun e w' => e = .returned (.tuple #[(.int .i64 0), .bool false]) ∧ Below W.heap.size W w') := Lib.hid fun W hW => by
      have := RefGet_T R k l W hW HR.out (by omega)
      rw [hs] at this
      exact this
    rw [hs] at HI
    clear hs h1 h2 hc3 hc4 hrs
    simp only [Option.isSome_none, Bool.false_eq_true, if_false, Nat.add_zero] at HI
    have HE : Hid (([] ++ l.take r) ++ [(k, x)] ++ l.drop r = ins klt k x l) := Lib.hid (by rw [HI.out]; simp)
    go_enter Try.func8, Try.ntmps8
    go_wp2_with (first
      | (go_at_call 22; refine HRk.out.mono ?_; rintro e w1 ⟨rfl, hb1⟩; replace hb1 := Lib.hid hb1)
      | (go_at_call 12; refine (HG.out w1 (HA.out.below hb1.out)).mono ?_; rintro e w2 ⟨rfl, hb2⟩; replace hb2 := Lib.hid hb2; have Hb := Lib.hid (hb1.out.trans (hb2.out.mono hb1.out.size)); have cR := Keeps.of_below ((Below.refl _ w2).alloc (Nat.le_refl _) (.cells #[] 43)) _ _ (cell_of_one (((hb1.out.trans (hb2.out.mono hb1.out.size)).block R (Array.getElem?_eq_some_iff.1 H1.out).1).trans H1.out)))
      | (at_builtin; refine wpList_append_e rfl (.tmp 20) (.tmp 26) rfl (OE.empty w2 w.heap.size Hb.out.size) rfl (S1.out _ (Keeps.of_below (Hb.out.alloc Hb.out.size _))) rfl (by rw [List.length_take]; simp; omega) (by have := Hb.out.size; simp; omega) ?_; intro v3 w3 hown3 hgr3; have Hb3 := Lib.hid (below_append_e (Hb.out.alloc Hb.out.size _) hgr3 (OE.empty w2 w.heap.size Hb.out.size) (Nat.le_refl _) (by have := Hb.out.size; simp; omega)); replace hown3 := Lib.hid hown3; clear hgr3 cR)
      | (at_builtin; refine wpList_append_e rfl (.tmp 28) (.tmp 32) rfl (hown3.out.alloc _) rfl (Src.ent w3 w3.heap.size k x 1 rfl) rfl (by rw [List.length_append, List.length_take]; simp; omega) (by have := Hb3.out.size; simp; omega) ?_; intro v4 w4 hown4 hgr4; have Hb4 := Lib.hid (below_append_e (Hb3.out.alloc Hb3.out.size _) hgr4 (hown3.out.alloc _) (Nat.le_refl _) (by have := Hb3.out.size; simp; omega)); replace hown4 := Lib.hid hown4; have cR := cell_of_one ((Hb4.out.block R (Array.getElem?_eq_some_iff.1 H1.out).1).trans H1.out); clear hgr4)
      | (at_builtin; refine wpList_append_e rfl (.tmp 38) (.tmp 44) rfl hown4.out rfl (S2.out w4 (Keeps.of_below Hb4.out)) rfl (by rw [List.length_append, List.length_append, List.length_take, List.length_drop]; simp; omega) Hb4.out.size ?_; intro v5 w5 hown5 hgr5; rw [HE.out] at hown5; have Hb5 := Lib.hid (below_append_e Hb4.out hgr5 hown4.out (Nat.le_refl _) Hb4.out.size); obtain ⟨A5, c5, rfl, -, -⟩ := hown5.form; replace hown5 := Lib.hid hown5; clear cR; have cR := cell_of_one ((Hb5.out.block R (Array.getElem?_eq_some_iff.1 H1.out).1).trans H1.out); have fR := free_of_one ((Hb5.out.block R (Array.getElem?_eq_some_iff.1 H1.out).1).trans H1.out); clear hgr5))
    go_ret
    refine ⟨rfl, ?_, (Fr.of_below (S := fun i => i = R) Hb5.out).setCell (p := ⟨R, 0, none⟩) (fun _ => rfl) _⟩
    exact RTab.stored H1.out Hb5.out hown5.out
  | some y =>
    have hcut : ∃ V1 V2, Cuts w v V1 V2 r (r + 1) l := cuts_of (base := 0) h2 hrl (hrs.out (by rw [hs]; rfl))
    obtain ⟨V1, V2, hc1, hc2, hc3, hc4⟩ := hcut
    replace hc2 : ∀ W, (Instr.slice 28 v (some (.int .i64 ((r : Int) + 1))) none none).run Try.prog W = .ok V2 W := hc2
    have S1 := Lib.hid hc3
    have S2 := Lib.hid hc4
    have HG : Hid (∀ W, RTab W R l → Calls Try.prog 12 #[.pointer (some ⟨R, 0, none⟩), .string k] W fun e w' => e = .returned (.tuple #[(.int .i64 y), .bool true]) ∧ Below W.heap.size W w') := Lib.hid fun W hW => by
      have := RefGet_T R k l W hW HR.out (by omega)
      rw [hs] at this
      exact this
    rw [hs] at HI
    clear hs h1 h2 hc3 hc4 hrs
    simp only [Option.isSome_some, if_true] at HI
    have HE : Hid (([] ++ l.take r) ++ [(k, x)] ++ l.drop (r + 1) = ins klt k x l) := Lib.hid (by rw [HI.out]; simp)
    go_enter Try.func8, Try.ntmps8
    go_wp2_with (first
      | (go_at_call 22; refine HRk.out.mono ?_; rintro e w1 ⟨rfl, hb1⟩; replace hb1 := Lib.hid hb1)
      | (go_at_call 12; refine (HG.out w1 (HA.out.below hb1.out)).mono ?_; rintro e w2 ⟨rfl, hb2⟩; replace hb2 := Lib.hid hb2; have Hb := Lib.hid (hb1.out.trans (hb2.out.mono hb1.out.size)); have cR := Keeps.of_below ((Below.refl _ w2).alloc (Nat.le_refl _) (.cells #[] 43)) _ _ (cell_of_one (((hb1.out.trans (hb2.out.mono hb1.out.size)).block R (Array.getElem?_eq_some_iff.1 H1.out).1).trans H1.out)))
      | (at_builtin; refine wpList_append_e rfl (.tmp 20) (.tmp 26) rfl (OE.empty w2 w.heap.size Hb.out.size) rfl (S1.out _ (Keeps.of_below (Hb.out.alloc Hb.out.size _))) rfl (by rw [List.length_take]; simp; omega) (by have := Hb.out.size; simp; omega) ?_; intro v3 w3 hown3 hgr3; have Hb3 := Lib.hid (below_append_e (Hb.out.alloc Hb.out.size _) hgr3 (OE.empty w2 w.heap.size Hb.out.size) (Nat.le_refl _) (by have := Hb.out.size; simp; omega)); replace hown3 := Lib.hid hown3; clear hgr3 cR)
      | (at_builtin; refine wpList_append_e rfl (.tmp 28) (.tmp 32) rfl (hown3.out.alloc _) rfl (Src.ent w3 w3.heap.size k x 1 rfl) rfl (by rw [List.length_append, List.length_take]; simp; omega) (by have := Hb3.out.size; simp; omega) ?_; intro v4 w4 hown4 hgr4; have Hb4 := Lib.hid (below_append_e (Hb3.out.alloc Hb3.out.size _) hgr4 (hown3.out.alloc _) (Nat.le_refl _) (by have := Hb3.out.size; simp; omega)); replace hown4 := Lib.hid hown4; have cR := cell_of_one ((Hb4.out.block R (Array.getElem?_eq_some_iff.1 H1.out).1).trans H1.out); clear hgr4)
      | (at_builtin; refine wpList_append_e rfl (.tmp 38) (.tmp 44) rfl hown4.out rfl (S2.out w4 (Keeps.of_below Hb4.out)) rfl (by rw [List.length_append, List.length_append, List.length_take, List.length_drop]; simp; omega) Hb4.out.size ?_; intro v5 w5 hown5 hgr5; rw [HE.out] at hown5; have Hb5 := Lib.hid (below_append_e Hb4.out hgr5 hown4.out (Nat.le_refl _) Hb4.out.size); obtain ⟨A5, c5, rfl, -, -⟩ := hown5.form; replace hown5 := Lib.hid hown5; clear cR; have cR := cell_of_one ((Hb5.out.block R (Array.getElem?_eq_some_iff.1 H1.out).1).trans H1.out); have fR := free_of_one ((Hb5.out.block R (Array.getElem?_eq_some_iff.1 H1.out).1).trans H1.out); clear hgr5))
    go_ret
    refine ⟨rfl, ?_, (Fr.of_below (S := fun i => i = R) Hb5.out).setCell (p := ⟨R, 0, none⟩) (fun _ => rfl) _⟩
    exact RTab.stored H1.out Hb5.out hown5.out
end Go.Proofs.Ytgiaifglkecdjaa
