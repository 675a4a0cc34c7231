/- The reference's tables of texts (layer 16): Del. -/
import Derived.Test.YtgiaifglkecdjaaRefPut
import Derived.Deep.RegionHeld3
import Derived.Deep.RegionLaw
import Derived.Test.YtgiaifglkecdjaaTree
namespace Go.Proofs.Ytgiaifglkecdjaa
open Go.RowKit
open SI

set_option maxHeartbeats 2000000 in
theorem RefDel_T (R : Nat) (k : ByteArray) (l : List (ByteArray × Int)) (w : World) (a : RTab w R l) (hri : Rises klt l) (hlen : l.length ≤ 1000000) :
    Calls Try.prog 10 #[.pointer (some ⟨R, 0, none⟩), .string k] w fun e w' => e = .returned (.bool (look klt k l).isSome) ∧ RTab w' R (rem klt k l) ∧ Fr (fun i => i = R) w w' := by
  have HA := Lib.hid a
  obtain ⟨v, h1, h2⟩ := a
  have HR := Lib.hid hri
  have HRk := Lib.hid (RefRank_T R k l w HA.out (by omega))
  have HI := Lib.hid (rem_eq klin (k := k) hri)
  have hrl := rank_le (lt := klt) k l
  have hrs := Lib.hid (rank_lt klin (k := k) hri)
  obtain ⟨r, hr⟩ : ∃ r, r = rank klt k l := ⟨_, rfl⟩
  rw [← hr] at HRk HI hrl hrs
  have H1 := Lib.hid h1
  clear hr
  cases hs : look klt k l with
  | none =>
    have HN := Lib.hid (rem_none klin hri hs)
    have HG : Hid (∀ W, RTab W R l → Calls Try.prog 12 #[.pointer (some ⟨R, 0, none⟩), .string k] W fun e w' => e = .returned (.tuple #[(.int .i64 0), .bool false]) ∧ Below W.heap.size W w') := Lib.hid fun W hW => by
      have := RefGet_T R k l W hW HR.out (by omega)
      rw [hs] at this
      exact this
    clear hs h1 h2 hrs hri
    go_enter Try.func10, Try.ntmps10
    go_wp2_with (first
      | (go_at_call 22; refine HRk.out.mono ?_; rintro e w1 ⟨rfl, hb1⟩; replace hb1 := Lib.hid hb1)
      | (go_at_call 12; refine (HG.out w1 (HA.out.below hb1.out)).mono ?_; rintro e w2 ⟨rfl, hb2⟩; replace hb2 := Lib.hid hb2; have Hb := Lib.hid (hb1.out.trans (hb2.out.mono hb1.out.size))))
    go_ret
    exact ⟨rfl, by rw [HN.out]; exact HA.out.below Hb.out, Fr.of_below Hb.out⟩
  | some y =>
    have hrl2 : r + 1 ≤ l.length := hrs.out (by rw [hs]; rfl)
    obtain ⟨V1, V2, hc1, hc2, hc3, hc4⟩ := cuts_of (base := 0) h2 hrl hrl2
    replace hc2 : ∀ W, (Instr.slice 28 v (some (.int .i64 ((r : Int) + 1))) none none).run Try.prog W = .ok V2 W := hc2
    have S1 := Lib.hid hc3
    have S2 := Lib.hid hc4
    have HG : Hid (∀ W, RTab W R l → Calls Try.prog 12 #[.pointer (some ⟨R, 0, none⟩), .string k] W fun e w' => e = .returned (.tuple #[(.int .i64 y), .bool true]) ∧ Below W.heap.size W w') := Lib.hid fun W hW => by
      have := RefGet_T R k l W hW HR.out (by omega)
      rw [hs] at this
      exact this
    rw [hs] at HI
    clear hs h1 h2 hc3 hc4 hrs hri
    simp only [Option.isSome_some, if_true] at HI
    have HE : Hid (([] ++ l.take r) ++ l.drop (r + 1) = rem klt k l) := Lib.hid (by rw [HI.out]; simp)
    have e1 : IntKind.i64.wrap ((r : Int) + 1) = (r : Int) + 1 := IntWalk.i64_in _ (by omega)
    go_enter Try.func10, Try.ntmps10
    go_wp2_with (first
      | (go_at_call 22; refine HRk.out.mono ?_; rintro e w1 ⟨rfl, hb1⟩; replace hb1 := Lib.hid hb1)
      | (go_at_call 12; refine (HG.out w1 (HA.out.below hb1.out)).mono ?_; rintro e w2 ⟨rfl, hb2⟩; have Hb := hb1.out.trans (hb2.mono hb1.out.size); clear hb2))
    have cR := (held_of H1.out Hb).1
    have fR := (held_of H1.out Hb).2.1
    have cRa := (held_of H1.out (Hb.alloc Hb.size (.cells #[] 43))).1
    go_region_law (first
        | (refine step_append_e rfl (.tmp 20) (.tmp 26) (by rfl) (OE.drew (OE.empty w2 w.heap.size Hb.size)) (by rfl) (S1.out (w2.alloc (.cells #[] 43)).drew (Keeps.of_below (below_dr (Hb.alloc Hb.size _)))) (by rfl) (by rw [List.length_take]; simp; omega) (by have := Hb.size; simp; omega) ?_; intro v3 w3 hown3 hgr3; have Hb3 := below_append_e (below_dr (Hb.alloc Hb.size _)) hgr3 (OE.drew (OE.empty w2 w.heap.size Hb.size)) (Nat.le_refl _) (by have := Hb.size; simp; omega); replace hown3 := Lib.hid hown3; have cR3 := (held_of H1.out Hb3).1; clear hgr3)
        | (refine step_append_e rfl (.tmp 27) (.tmp 34) (by rfl) hown3.out (by rfl) (S2.out w3 (Keeps.of_below Hb3)) (by rfl) (by rw [List.length_append, List.length_take, List.length_drop]; simp; omega) Hb3.size ?_; intro v5 w5 hown5 hgr5; rw [HE.out] at hown5; have Hb5 := below_append_e Hb3 hgr5 hown3.out (Nat.le_refl _) Hb3.size; obtain ⟨A5, c5, rfl, -, -⟩ := hown5.form; replace hown5 := Lib.hid hown5; have cR5 := (held_of H1.out Hb5).1; have fR5 := (held_of H1.out Hb5).2.1; clear hgr5))
    all_goals
      go_wp2
      go_ret
      exact ⟨rfl, RTab.stored H1.out Hb5 hown5.out, (Fr.of_below (S := fun i => i = R) Hb5).setCell (p := ⟨R, 0, none⟩) (fun _ => rfl) _⟩
end Go.Proofs.Ytgiaifglkecdjaa
