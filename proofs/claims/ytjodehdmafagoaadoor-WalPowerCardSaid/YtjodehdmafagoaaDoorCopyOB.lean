/- copy into the midst of a slice of the call's own: bytes over bytes. -/
import Derived.Test.YtjodehdmafagoaaDoorBytes
namespace Go.Proofs.YtjodehdmafagoaaDoor
open Go.RowKit

theorem copy_info : (Tryd.prog.info? 5).map (·.size) = some 1 := by kernel_rfl

set_option maxRecDepth 100000 in
theorem run_copy_ob {w : World} {B n c pos nb : Nat} {A : Option Addr} {l bs : List UInt8} (hown : OB w B (.slice A n c) l) (hn : l.length = n) (hfit : pos + nb ≤ n) {dp : Option Addr} {dCap : Nat}
    (hdp : 0 < nb → ∀ g o, A = some ⟨g, o, none⟩ → dp = some ⟨g, o + pos, none⟩) {A2 : Option Addr} {c2 : Nat} (hsrc : RB w A2 nb bs) (ty : TypeId) :
    ∃ w', (Builtin.copy_ #[31, 31] ty #[.slice dp (n - pos) dCap, .slice A2 nb c2]).run Tryd.prog w = .ok (goInt nb) w' ∧ OB w' B (.slice A n c) (l.take pos ++ bs ++ l.drop (pos + nb)) ∧ Fr (fun k => (Value.slice A n c).ownBlock = some k) w w' := by
  have hbl := hsrc.1
  rcases Nat.eq_zero_or_pos nb with h0 | h0
  · subst h0
    obtain rfl : bs = [] := List.eq_nil_of_length_eq_zero hbl
    refine ⟨w, run_copy_none w _ _ ty 5 dp A2 _ dCap 0 c2 Tryd.underlying31 copy_info (by simp), ?_, Fr.refl _ _⟩
    have : l.take pos ++ [] ++ l.drop (pos + 0) = l := by simp
    rw [this]
    exact hown
  · obtain ⟨h1, h2⟩ := hown
    rcases h2 with ⟨h2, h3⟩ | ⟨g, o, cap, cur, h2, h3, h4, h5, h6, h7, h8⟩
    · omega
    · injection h2 with e1 e2 e3
      subst e1; subst e3
      rw [hdp h0 g o rfl]
      obtain ⟨b2, o2, rfl, hc2⟩ := hsrc.2 h0
      have hsz : o + n ≤ cur.size := by omega
      have hr := run_copy_row (P := Tryd.prog) w 31 31 ty 5 g (o + pos) (n - pos) dCap ⟨b2, o2, none⟩ nb c2 cur 5 (bcells bs) Tryd.underlying31 copy_info h4
        (by rw [bcells_length, hbl]; exact (Nat.min_eq_left (by omega)).symm) (RB.news hbl hc2) (by rw [bcells_length, hbl]; omega) (bcells_one _)
      rw [bcells_length, hbl] at hr
      refine ⟨_, hr, ⟨?_, .inr ⟨g, o, c, _, by congr 1; simp [hbl]; omega, h3, setRow_heap w g cur _ _ _ h4, ?_, h6, ?_, ?_⟩⟩, ?_⟩
      · rw [bcells_length, Nat.mul_one]
      · simp [hbl]; omega
      · simp only [List.size_toArray, List.length_append, List.length_take, List.length_drop, Array.length_toList, bcells_length, hbl]; omega
      · have e : (l.take pos ++ bs ++ l.drop (pos + nb)).length = n := by simp [hbl]; omega
        rw [e, List.toList_toArray, Nat.mul_one]
        rw [Nat.mul_one, hn] at h8
        have q1 : (cur.toList.drop o).take n = bcells l := h8
        have q2 : (cur.toList.take (o + pos)).drop o = bcells (l.take pos) := by
          rw [List.drop_take, show o + pos - o = pos by omega]
          have : (cur.toList.drop o).take pos = ((cur.toList.drop o).take n).take pos := by rw [List.take_take, Nat.min_eq_left (by omega)]
          rw [this, q1]
          simp [bcells, List.map_take]
        have q3 : (cur.toList.drop (o + pos + nb)).take (n - (pos + nb)) = bcells (l.drop (pos + nb)) := by
          have : bcells (l.drop (pos + nb)) = (bcells l).drop (pos + nb) := by simp [bcells, List.map_drop]
          rw [this, ← q1, List.drop_take, List.drop_drop, show o + (pos + nb) = o + pos + nb by omega]
        rw [List.append_assoc, List.drop_append_of_le_length (by rw [List.length_take, Array.length_toList]; omega), q2, bcells_append, bcells_append, ← q3, ← List.append_assoc]
        rw [List.take_append, List.take_of_length_le (by simp [bcells_length, hbl]; omega)]
        congr 1
        simp only [List.length_append, bcells_length, List.length_take, hbl]
        congr 1
        omega
      · exact ⟨rfl, rfl, rfl, by simp [World.setRow], fun k hk hne => setRow_other w g k _ (fun e => hne (by simp [Value.ownBlock, e]))⟩

theorem step_copy_ob {ops : Array Oper} {o : Oper} {a : Act} {w : World} {K : Act → World → Prop} {Q : Exit → Act → World → Prop} {E : Prop} (hgd : o.guard = none) (d s : Operand)
    (ho : o.op = .call { callee := .builtin .copy, args := #[d, s], argTypes := #[31, 31] })
    {B n c pos nb : Nat} {A : Option Addr} {l bs : List UInt8} (hown : OB w B (.slice A n c) l) (hn : l.length = n) (hfit : pos + nb ≤ n) {dp : Option Addr} {dCap : Nat}
    (hd : a.eval d = .slice dp (n - pos) dCap) (hdp : 0 < nb → ∀ g o, A = some ⟨g, o, none⟩ → dp = some ⟨g, o + pos, none⟩) {A2 : Option Addr} {c2 : Nat} (hs : a.eval s = .slice A2 nb c2) (hsrc : RB w A2 nb bs)
    (h : ∀ w', OB w' B (.slice A n c) (l.take pos ++ bs ++ l.drop (pos + nb)) → Fr (fun k => (Value.slice A n c).ownBlock = some k) w w' → K (a.put o.dst (goInt nb)) w') :
    if Region.wanted o (yielded ops a.tmps) = true then Oper.wp Tryd.prog o a w K Q else E := by
  have hw : Region.wanted o (yielded ops a.tmps) = true := by simp [Region.wanted, hgd]
  rw [if_pos hw]
  obtain ⟨w', hr, h1, h2⟩ := run_copy_ob hown hn hfit hdp hsrc (c2 := c2) (dCap := dCap) o.type
  unfold Oper.wp
  simp [execOp, ho, resolve, invoke, builtin, hd, hs, hr, Result.andThen]
  exact h w' h1 h2
end Go.Proofs.YtjodehdmafagoaaDoor
