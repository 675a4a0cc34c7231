/- Framed texts are a code in which none is a beginning of another: plain lists, no program. -/
import Derived.Test.YtlfeofakggkebaaDoorFrame
namespace Go.Proofs.YtlfeofakggkebaaDoor

theorem be32_inj {a b : Nat} (ha : a < 4294967296) (hb : b < 4294967296) (h : be32 a = be32 b) : a = b := by
  simp only [be32, List.cons.injEq, and_true] at h
  obtain ⟨h1, h2, h3, h4⟩ := h
  have e1 := congrArg UInt8.toNat h1
  have e2 := congrArg UInt8.toNat h2
  have e3 := congrArg UInt8.toNat h3
  have e4 := congrArg UInt8.toNat h4
  simp only [UInt8.toNat_ofNat'] at e1 e2 e3 e4
  omega

theorem app_inj_len {α : Type} {a b c d : List α} (hl : a.length = c.length) (h : a ++ b = c ++ d) : a = c ∧ b = d := List.append_inj h hl

theorem frames_prefix : ∀ (ps qs : List (List UInt8)) (t : List UInt8), ps.length = qs.length → (∀ p ∈ ps, p.length < 4294967296) → (∀ p ∈ qs, p.length < 4294967296) →
    ps.flatMap frameP ++ t = qs.flatMap frameP → ps = qs
  | [], [], _, _, _, _, _ => rfl
  | [], _ :: _, _, h, _, _, _ => by simp at h
  | _ :: _, [], _, h, _, _, _ => by simp at h
  | p :: ps, q :: qs, t, hl, hp, hq, h => by
    simp only [List.flatMap_cons, frameP, List.append_assoc] at h
    obtain ⟨h1, h2⟩ := app_inj_len (by simp [be32]) h
    have e := be32_inj (hp p (by simp)) (hq q (by simp)) h1
    obtain ⟨h3, h4⟩ := app_inj_len e h2
    rw [h3, frames_prefix ps qs t (by simpa using hl) (fun x hx => hp x (by simp [hx])) (fun x hx => hq x (by simp [hx])) h4]

theorem ofNat_inj8 {a b : Nat} (ha : a < 256) (hb : b < 256) (h : UInt8.ofNat a = UInt8.ofNat b) : a = b := by
  have := congrArg UInt8.toNat h
  simp only [UInt8.toNat_ofNat'] at this
  omega

theorem frameB_prefix (a b : List UInt8) (ps qs : List (List UInt8)) (t : List UInt8) (ha : a.length < 256) (hb : b.length < 256) (hp : ps.length < 256) (hq : qs.length < 256)
    (hps : ∀ p ∈ ps, p.length < 4294967296) (hqs : ∀ p ∈ qs, p.length < 4294967296) (h : frameB a ps ++ t = frameB b qs) : a = b ∧ ps = qs := by
  simp only [frameB, List.cons_append, List.append_assoc, List.cons.injEq, List.nil_append] at h
  obtain ⟨h0, h⟩ := h
  have e := ofNat_inj8 ha hb h0
  obtain ⟨h1, h2⟩ := app_inj_len e h
  simp only [List.cons.injEq] at h2
  obtain ⟨h3, h4⟩ := h2
  exact ⟨h1, frames_prefix ps qs t (ofNat_inj8 hp hq h3) hps hqs h4⟩

theorem wordBad_len {a : List UInt8} (h : wordBad a = false) : a.length ≤ 32 := by
  simp only [wordBad, Bool.or_eq_false_iff, decide_eq_false_iff_not] at h
  omega
theorem partsBad_len {ps : List (List UInt8)} (h : partsBad ps = false) : ps.length ≤ 16 ∧ ∀ p ∈ ps, p.length ≤ 65536 := by
  simp only [partsBad, Bool.or_eq_false_iff, decide_eq_false_iff_not] at h
  refine ⟨by omega, fun p hp => ?_⟩
  have := List.any_eq_false.1 h.2 p hp
  simpa [tooLong] using this

/-- THE LAW. -/
theorem frame_apart (a b : List UInt8) (ps qs : List (List UInt8)) (ha : wordBad a = false) (hb : wordBad b = false) (hp : partsBad ps = false) (hq : partsBad qs = false) :
    ((frameB a ps).length ≤ (frameB b qs).length ∧ (frameB b qs).take (frameB a ps).length = frameB a ps) ↔ (a = b ∧ ps = qs) := by
  constructor
  · rintro ⟨_, h⟩
    have l1 := wordBad_len ha
    have l2 := wordBad_len hb
    obtain ⟨m1, n1⟩ := partsBad_len hp
    obtain ⟨m2, n2⟩ := partsBad_len hq
    refine frameB_prefix a b ps qs ((frameB b qs).drop (frameB a ps).length) (by omega) (by omega) (by omega) (by omega) (fun p hp => by have := n1 p hp; omega) (fun p hp => by have := n2 p hp; omega) ?_
    conv => rhs; rw [← List.take_append_drop (frameB a ps).length (frameB b qs)]
    rw [h]
  · rintro ⟨rfl, rfl⟩
    exact ⟨Nat.le_refl _, List.take_length⟩
end Go.Proofs.YtlfeofakggkebaaDoor
