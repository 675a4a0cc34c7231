/- Layer 18 (wal): the disk's Arm, beside a log; Crash, Down, Waits. -/
import Derived.Test.YtfmagnpmjlppiaaGreatDoorWalG
import Derived.Test.YtfmagnpmjlppiaaGreatDoorDiskS
import Derived.Test.YtfmagnpmjlppiaaGreatDoorWalQ
import Derived.Test.YtfmagnpmjlppiaaGreatDoorWalK
namespace Go.Proofs.YtfmagnpmjlppiaaGreatDoor
open Go.RowKit

section
variable {w w' w0 : World} {S : Nat → Prop} {gl g : Nat} {m m' : DM} {L : LM} {ea : Nat → Addr}

end
end Go.Proofs.YtfmagnpmjlppiaaGreatDoor

/- Layer 18 (wal): Open. -/
namespace Go.Proofs.YtfmagnpmjlppiaaGreatDoor
open Go.RowKit

/-- A disk alone; S: blocks that are its own, or forgotten. -/
structure DD (w0 w : World) (S : Nat → Prop) (g : Nat) (m : DM) : Prop where
 d : ∃ O, DiskAt w O g m ∧ ∀ k, O k → S k
 up : ∀ k, S k → w0.heap.size ≤ k
 hi : ∀ k, S k → k < w.heap.size
 bel : Below w0.heap.size w0 w
section
variable {w w1 w' w0 : World} {S P : Nat → Prop} {gl g : Nat} {m m' : DM} {L L' : LM} {ea : Nat → Addr}
theorem DW.dd (h : DW w0 w S g m gl L) : DD w0 w S g m := ⟨h.disk, h.up, h.hi, h.bel⟩
theorem DS.dd (h : DS w0 w g m) : DD w0 w (fun k => w0.heap.size ≤ k ∧ k < w.heap.size) g m := by
 obtain ⟨O, ⟨bv, wv, ws, hd⟩, ho, hb⟩ := h
 exact ⟨⟨fun k => O k ∧ k < w.heap.size, ⟨bv, wv, ws, hd.mono fun k hk h => ⟨h, hk⟩⟩, fun k hk => ⟨ho k hk.1, hk.2⟩⟩, fun k hk => hk.1, fun k hk => hk.2, hb⟩
/-- A new log of it. -/
theorem DD.log (h : DD w0 w S g m) : DW w0 (w.alloc (.cells #[.pointer (some ⟨g, 0, none⟩), .int .i64 0, .int .i64 0, .slice none 0 0, .slice none 0 0, .int .i64 0, .bool false] 132)) (ext S w (w.alloc (.cells #[.pointer (some ⟨g, 0, none⟩), .int .i64 0, .int .i64 0, .slice none 0 0, .slice none 0 0, .int .i64 0, .bool false] 132))) g m w.heap.size ⟨0, 0, [], [], false⟩ := by
 obtain ⟨⟨O, ⟨bv, wv, ws, hd⟩, ho⟩, hu, hh, hb⟩ := h
 have D := (Below.refl w.heap.size w).alloc Kj (.cells #[.pointer (some ⟨g, 0, none⟩), .int .i64 0, .int .i64 0, .slice none 0 0, .slice none 0 0, .int .i64 0, .bool false] 132)
 refine ⟨⟨O, fun k => k = w.heap.size, ⟨bv, wv, ws, hd.below D⟩, ⟨.slice none 0 0, .slice none 0 0, [], heap_alloc_new w _, OB.nil _ _, OwnS.nil _ _ _ _, rfl, fun x hx => (by cases hx), rfl, fun k hk => (by cases hk), fun k hk => (by cases hk), fun x hx => (by cases hx)⟩, fun k hk => .inl (ho k hk), fun k hk => .inr ⟨Nat.le_of_eq hk.symm, by rw [hk]; simp⟩, fun k hk e => ?_⟩, ext_up0 hu hb.size, ext_hi hh D.size, hb.trans (D.mono hb.size)⟩
 have := hh k (ho k hk)
 omega

set_option maxHeartbeats 2000000 in
set_option maxRecDepth 100000 in
theorem Open_any (h : DD w0 w S g m) (hE : EW w0 ea) (hok : m.Ok) (hw : m.waits.length ≤ 1000) (hg : m.gone = false) :
  Calls Tryz.prog 29 #[.pointer (some ⟨g, 0, none⟩)] w fun e w' => ∃ L, Reads (fun i => m.b (3 + i)) L ∧ L.dead = false ∧ Fr S w w' ∧
   ((opE m (endOf L.recs) = 0 ∧ ∃ gl, e = .returned (.tuple #[.pointer (some ⟨gl, 0, none⟩), .nilIface]) ∧ DW w0 w' (ext S w w') g (opM m (endOf L.recs)) gl L) ∨
    (opE m (endOf L.recs) ≠ 0 ∧ e = .returned (.tuple #[.pointer none, dErr ea (opE m (endOf L.recs))]) ∧ DD w0 w' (ext S w w') g (opM m (endOf L.recs)))) := by
 have HD0 := h.log
 obtain ⟨wa, hwa⟩ : ∃ W, W = w.alloc (.cells #[.pointer (some ⟨g, 0, none⟩), .int .i64 0, .int .i64 0, .slice none 0 0, .slice none 0 0, .int .i64 0, .bool false] 132) := ⟨_, rfl⟩
 have HB0 := Hj ((Below.refl w.heap.size w).alloc Kj (.cells #[.pointer (some ⟨g, 0, none⟩), .int .i64 0, .int .i64 0, .slice none 0 0, .slice none 0 0, .int .i64 0, .bool false] 132))
 rw [← hwa] at HD0 HB0
 have HL := Hj (load_any HD0 hE hok hg)
 have HE := Hj hE
 have HOK := Hj hok
 have HW := Hj hw
 have HFa : Hid (Fr S w wa) := Hj (Fr.of_below HB0.out)
 clear h hE hok hw hg HD0
 go_enter Tryz.func29, Tryz.ntmps29
 go_wp2_with (first
  | (go_at_call 70; go_loud (rw [← hwa]; (with_reducible refine HL.out.mono ?_); rintro e w1 ⟨rfl, L, hR, hLd, hd1, hf1⟩; have D1 := Hj hd1; have F1 := Hj hf1; have HR := Hj hR; have HLD := Hj hLd; clear hd1 hf1 hR hLd))
  | fail)
 have HL2 : Hid (endOf L.recs ≤ (m.b 5).length ∧ (m.b 5).length ≤ 1048576) := Hj (by
  obtain ⟨r, e, _⟩ := HR.out.recs
  have h5 := HOK.out.len 5 (by decide)
  have := congrArg List.length e
  rw [List.length_append, recsB_length] at this
  change (m.b 5).length = _ at this
  omega)
 have c5 : w1.cell? ⟨w.heap.size, 5, none⟩ = some (.int .i64 (endOf L.recs : Int)) := D1.out.at.2.2.2.1
 obtain ⟨E, hE⟩ : ∃ E, E = endOf L.recs := ⟨_, rfl⟩
 obtain ⟨N, hN⟩ : ∃ N, N = (m.b 5).length := ⟨_, rfl⟩
 rw [← hE, ← hN] at HL2
 rw [← hE] at c5
 have HEE := Hj hE
 have HNN := Hj hN
 have HSz : Hid (∀ k, Calls Tryz.prog 71 #[.pointer (some ⟨g, 0, none⟩), .int .i64 2] (w1.drewN k) fun e w' => e = .returned (.int .i64 (N : Int)) ∧ w1.drewN k = w') := Hj fun k => by rw [hN]; exact Size_W 2 (by decide) (D1.out.below (below_drewN (Below.refl _ _) k))
 have HF1 : Hid (Fr S w w1) := Hj (HFa.out.ext F1.out)
 have HD1 : Hid (DW w0 w1 (ext S w w1) g m w.heap.size L) := Hj (DW.then (S := S) HFa.out ⟨D1.out, F1.out⟩).1
 clear hE hN D1 F1
 by_cases he : N = E
 ·have q1 : ((E : Int) == (N : Int)) = true := by rw [beq_iff_eq]; omega
  have HX : Hid (opE m (endOf L.recs) = 0 ∧ opM m (endOf L.recs) = m) := Hj (by unfold opE opM; rw [← HEE.out, ← HNN.out, if_pos he, if_pos he]; exact ⟨rfl, rfl⟩)
  clear he
  go_quiet ((go_at_call 71; with_reducible exact quiet_left (HSz.out _)))
  go_wp2
  go_ret2
  refine ⟨L, HR.out, HLD.out, HF1.out.drewN nq, .inl ⟨HX.out.1, _, rfl, ?_⟩⟩
  rw [HX.out.2]
  exact (HD1.out.below (below_drewN (Below.refl _ _) nq))
 ·have q1 : ((E : Int) == (N : Int)) = false := by rw [beq_eq_false_iff_ne]; omega
  have HC : Hid (m.cutE 2 (E : Int) = if m.dead then 25 else 0) := Hj (by
   unfold DM.cutE
   rw [if_neg (by rw [show (3 + (2 : Int).toNat) = 5 from rfl, ← HNN.out]; have := HL2.out; omega)])
  have HX : Hid (opE m (endOf L.recs) = (if m.cutE 2 (E : Int) = 0 then (if (m.cut 2 (E : Int)).dead = true then 25 else 0) else m.cutE 2 (E : Int)) ∧ opM m (endOf L.recs) = (if m.cutE 2 (E : Int) = 0 then (m.cut 2 (E : Int)).sync else m.cut 2 (E : Int))) := Hj (by unfold opE opM; rw [← HEE.out, ← HNN.out, if_neg he, if_neg he]; exact ⟨rfl, rfl⟩)
  clear he
  have HE0 : Hid ((0 : Int) ≤ (E : Int) ∧ (E : Int) ≤ 1048576) := Hj (by have := HL2.out; omega)
  have HOC := Hj (HOK.out.cut 2 (E : Int))
  go_quiet ((go_at_call 71; with_reducible exact quiet_left (HSz.out _)))
  obtain ⟨w2, hw2⟩ : ∃ W, W = w1.drewN nq := ⟨_, rfl⟩
  have HD2 : Hid (DW w0 w2 (ext S w w2) g m w.heap.size L) := Hj (by rw [hw2]; exact HD1.out.below (below_drewN (Below.refl _ _) nq))
  have HF2 : Hid (Fr S w w2) := Hj (by rw [hw2]; exact HF1.out.drewN nq)
  have HC1 := Hj (Cut_W 2 (E : Int) HD2.out HE.out HOK.out HW.out)
  have c5' : w2.cell? ⟨w.heap.size, 5, none⟩ = some (.int .i64 (E : Int)) := by rw [hw2]; exact c5
  rw [← hw2]
  clear c5 HF1 HD1 HSz hw2
  cases hd : m.dead with
  | true =>
   have H25 : Hid (m.cutE 2 (E : Int) = 25) := Hj (by rw [HC.out, hd]; rfl)
   rw [H25.out, if_neg (by decide), if_neg (by decide)] at HX
   rw [H25.out, dErr_pos ea (by decide)] at HC1
   clear hd
   go_wp2_with (first
    | (go_at_call 72; go_loud ((with_reducible refine HC1.out.mono ?_); rintro e w3 ⟨rfl, hd3, hf3⟩; have D3 := Hj hd3; have F3 := Hj hf3; clear hd3 hf3))
    | fail)
   go_ret2
   have Z := DW.then HF2.out ⟨D3.out, F3.out⟩
   refine ⟨L, HR.out, HLD.out, Z.2, .inr ⟨by rw [HX.out.1]; decide, ?_, ?_⟩⟩
   ·rw [HX.out.1, dErr_pos ea (by decide)]; rfl
   ·rw [HX.out.2]
    exact Z.1.dd
  | false =>
   have H0 : Hid (m.cutE 2 (E : Int) = 0) := Hj (by rw [HC.out, hd]; rfl)
   rw [H0.out, if_pos rfl, if_pos rfl] at HX
   rw [H0.out] at HC1
   have HS : Hid (∀ W S', DW w0 W S' g (m.cut 2 (E : Int)) w.heap.size L → Calls Tryz.prog 73 #[.pointer (some ⟨g, 0, none⟩)] W fun e w' => e = .returned (dErr ea (syE (m.cut 2 (E : Int)))) ∧ DW w0 w' (ext S' W w') g (m.cut 2 (E : Int)).sync w.heap.size L ∧ Fr S' W w') := Hj fun W S' hd => Sync_W hd HE.out HOC.out
   have HZ := Hj (dErr_zero ea)
   rw [HZ.out] at HC1
   clear hd
   generalize m.cut 2 (E : Int) = m1 at *
   cases hd1 : m1.dead with
   | true =>
    have HSy : Hid (syE m1 = 25) := Hj (by unfold syE; rw [hd1]; rfl)
    rw [HSy.out, dErr_pos ea (by decide)] at HS
    rw [hd1, if_pos rfl] at HX
    clear hd1
    go_wp2_with (first
     | (go_at_call 72; go_loud ((with_reducible refine HC1.out.mono ?_); rintro e w3 ⟨rfl, hd3, hf3⟩; have D3 := Hj hd3; have F3 := Hj hf3; clear hd3 hf3))
     | (go_at_call 73; go_loud ((with_reducible refine (HS.out w3 _ D3.out).mono ?_); rintro e w4 ⟨rfl, hd4, hf4⟩; have D4 := Hj hd4; have F4 := Hj hf4; clear hd4 hf4))
     | fail)
    go_ret2
    have Z := DW.then HF2.out (DW.then F3.out ⟨D4.out, F4.out⟩)
    refine ⟨L, HR.out, HLD.out, Z.2, .inr ⟨by rw [HX.out.1]; decide, ?_, ?_⟩⟩
    ·rw [HX.out.1, dErr_pos ea (by decide)]; rfl
    ·rw [HX.out.2]
     exact Z.1.dd
   | false =>
    have HSy : Hid (syE m1 = 0) := Hj (by unfold syE; rw [hd1]; rfl)
    rw [HSy.out, HZ.out] at HS
    rw [hd1, if_neg (by decide)] at HX
    clear hd1
    go_wp2_with (first
     | (go_at_call 72; go_loud ((with_reducible refine HC1.out.mono ?_); rintro e w3 ⟨rfl, hd3, hf3⟩; have D3 := Hj hd3; have F3 := Hj hf3; clear hd3 hf3))
     | (go_at_call 73; go_loud ((with_reducible refine (HS.out w3 _ D3.out).mono ?_); rintro e w4 ⟨rfl, hd4, hf4⟩; have D4 := Hj hd4; have F4 := Hj hf4; clear hd4 hf4))
     | fail)
    go_ret2
    have Z := DW.then HF2.out (DW.then F3.out ⟨D4.out, F4.out⟩)
    refine ⟨L, HR.out, HLD.out, Z.2, .inl ⟨HX.out.1, _, rfl, ?_⟩⟩
    rw [HX.out.2]
    exact Z.1
end
end Go.Proofs.YtfmagnpmjlppiaaGreatDoor

/- Layer 18 (wal): Snapshot, Records, Gen. -/
namespace Go.Proofs.YtfmagnpmjlppiaaGreatDoor
open Go.RowKit

theorem wpList_append_r {ops : Array Oper} {rest : List Oper} {o : Oper} {a : Act} {w : World} {Q : Exit → Act → World → Prop} (hgd : o.guard = none) (s x : Operand)
  (ho : o.op = .call { callee := .builtin .append, args := #[s, x], argTypes := #[88, 88] })
  {base : Nat} {v : Value} {n : Nat} {ws : List Value} (hown : OwnS w base 24 1 v n ws) (hs : a.eval s = v)
  {xv y : Value} (hsrc : Src Tryz.prog 1 88 xv 1 [y] w) (hx : a.eval x = xv) (hbytes : n ≤ 1000000) (hbase : base ≤ w.heap.size)
  (h : ∀ v' w', OwnS w' base 24 1 v' (n + 1) (ws ++ [y]) → w.grownBy w' v.ownBlock → (v'.ownBlock = v.ownBlock ∨ v'.ownBlock = some w.heap.size) → wpList Tryz.prog ops Q rest (a.put o.dst v') w') : wpList Tryz.prog ops Q (o :: rest) a w := by
 obtain ⟨i0, hi, hz0, hz1, hz2⟩ := info_parts4 info_byt
 exact wpList_append_ownS hgd s x 88 88 ho i0 _ 24 Tryz.underlying88 hi hz0 hz1 hz2 rfl (by omega) hs hown xv 1 _ hx hsrc (by unfold maxLen; omega) (by omega) hbase fun v' w' h1 h2 h3 => h v' w' h1 h2 h3

section
variable {w w1 w' w0 : World} {S P : Nat → Prop} {gl g : Nat} {m : DM} {L L' : LM} {ea : Nat → Addr} {tv rv : Value} {ws : List (List UInt8 × Value)}

theorem Snapshot_L (h : LogAt w P gl g L) (hL : L.Ok) : Calls Tryz.prog 32 #[.pointer (some ⟨gl, 0, none⟩)] w fun e w' => ∃ A c, e = .returned (.slice A L.text.length c) ∧ OB w' w.heap.size (.slice A L.text.length c) L.text ∧ Below w.heap.size w w' := by
 obtain ⟨tv, rv, ws, hV⟩ := h
 obtain ⟨A, c, rfl, h1, h2, hr⟩ := hV.text.form
 have c3 : w.cell? ⟨gl, 3, none⟩ = some (.slice A L.text.length c) := hV.cell 3
 have HT := Hj (Clone_any A L.text.length c L.text w hr (by have := hL.text; omega))
 clear hV hr hL
 go_enter Tryz.func32, Tryz.ntmps32
 go_wp2_with (go_at_call 78; go_loud ((with_reducible refine HT.out.mono ?_); rintro e w1 ⟨A1, c1, rfl, ho1, hb1⟩; have O1 := Hj ho1; have B1 := Hj hb1; clear ho1 hb1))
 go_ret
 exact ⟨_, _, rfl, O1.out, B1.out⟩

theorem DW.lg (h : DW w0 w S g m gl L) : ∃ P, LogAt w P gl g L ∧ ∀ k, P k → S k := let ⟨P, tv, rv, ws, hV, hP⟩ := h.row; ⟨P, ⟨tv, rv, ws, hV⟩, hP⟩
theorem LogAt.below (h : LogAt w P gl g L) (hb : Below w.heap.size w w') : LogAt w' P gl g L := let ⟨tv, rv, ws, hV⟩ := h; ⟨tv, rv, ws, hV.below hb⟩
theorem LogAt.fr (h : LogAt w P gl g L) (hf : Fr S w w') (hn : ∀ k, P k → ¬ S k) : LogAt w' P gl g L := let ⟨tv, rv, ws, hV⟩ := h; ⟨tv, rv, ws, hV.fr hf hn⟩
theorem Snapshot_any (h : DW w0 w S g m gl L) (hL : L.Ok) : Calls Tryz.prog 32 #[.pointer (some ⟨gl, 0, none⟩)] w fun e w' => ∃ A c, e = .returned (.slice A L.text.length c) ∧ OB w' w.heap.size (.slice A L.text.length c) L.text ∧ Below w.heap.size w w' := let ⟨_, h, _⟩ := h.lg; Snapshot_L h hL
end
end Go.Proofs.YtfmagnpmjlppiaaGreatDoor
