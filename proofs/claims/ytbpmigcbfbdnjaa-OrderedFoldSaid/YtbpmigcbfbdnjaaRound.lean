/- A drawn region in a round of a range over a function, at the wide fence: as the same region outside of one. -/
import Derived.RangeFuncCalls
import Derived.RangeFuncWrites
import Derived.OrdersHeld
import Derived.OwnWalkIn
import Derived.Test.YtbpmigcbfbdnjaaBase
namespace Go.Proofs.Ytbpmigcbfbdnjaa
open Go.RowKit

theorem wpIn_round_of_wp {P : Program} {o : Oper} {a : Act} {w : World} {K : Act → World → Prop} {Q : Exit → Act → World → Prop} (l n : Nat) (hnd : ∀ c, o.op ≠ .defer c) (h : o.wp P a w K Q) : o.wpIn (Fence.wide.inRound l) n P a w K Q := by
  unfold Oper.wpIn
  refine ⟨fun _ _ => trivial, ?_⟩
  rw [Oper.semAt_plain (Fence.wide.inRound l) a.eval o hnd]
  unfold Oper.wp at h
  generalize (execOp a.eval o).run P w = r at h
  cases r with
  | ok x w' =>
    cases x with
    | value v => exact h
    | skip => exact h
    | defer d => exact h
    | enter f args => exact ⟨fun hd => (by cases hd), CallsIn.inRound l (callsIn_wide.2 h)⟩
    | row row args =>
      refine ⟨fun hd => (by cases hd), fun c cs _ => ?_⟩
      obtain ⟨v, w'', r, s⟩ := h c cs
      exact ⟨v, w'', r, stepsIn_wide.2 s⟩
    | _ => exact h.elim
  | halt x w' =>
    cases x with
    | panic v => exact h
    | _ => exact h.elim

def noDefer (o : Oper) : Bool := match o.op with | .defer _ => false | _ => true

theorem wpAnyIn_round {P : Program} {md : Region.Mode} {ops : Array Oper} {Q : Exit → Act → World → Prop} (l n : Nat) (hnd : (ops.all noDefer) = true) (hQ : ¬ LetsOut Q) :
    ∀ (fuel : Nat) (listed : Array Bool) (a : Act) (w : World), wpAny P md ops Q fuel listed a w → wpAnyIn (Fence.wide.inRound l) n P md ops Q fuel listed a w := by
  intro fuel
  induction fuel with
  | zero => exact fun _ _ _ h => h
  | succ fuel ih =>
    intro listed a w h
    refine ⟨h.1, fun i hi => ?_⟩
    have h2 := h.2 i hi
    unfold wpOp at h2
    unfold wpOpIn
    cases ho : ops[i]? with
    | none =>
      simp only [ho] at h2 ⊢
      exact ih _ _ _ h2
    | some o =>
      simp only [ho] at h2 ⊢
      have hd : ∀ c, o.op ≠ .defer c := fun c hc => by
        have := Array.all_eq_true_iff_forall_mem.1 hnd o (Array.mem_of_getElem? ho)
        simp [noDefer, hc] at this
      split
      · rename_i hw
        rw [if_pos hw] at h2
        rcases h2 with h2 | ⟨_, h2⟩
        · exact wpIn_round_of_wp l n hd (Oper.wp_mono (fun a' w' h3 => ih _ a' w' h3) h2)
        · exact absurd h2 hQ
      · rename_i hw
        rw [if_neg hw] at h2
        exact ⟨fun _ _ => trivial, ih _ _ _ h2⟩

theorem wpIn_region_round {P : Program} {id : Nat} {ops : Array Oper} {Q : Exit → Act → World → Prop} {a : Act} {w : World} {S : World → Prop} (l n : Nat) (hm : P.follows .mixedOrders = true) (hnd : (ops.all noDefer) = true) (hQ : ¬ LetsOut Q) (hS : S w.drew)
    (h : S w.drew → wpAnyH P .any ops Q S ops.size (Array.replicate ops.size false) a w.drew) : (Code.region id ops true).wpIn (Fence.wide.inRound l) n P Q a w :=
  wpIn_region_any hm (wpAnyIn_round l n hnd hQ _ _ _ _ (wpAny_of_held _ _ _ _ (h hS)))
end Go.Proofs.Ytbpmigcbfbdnjaa
