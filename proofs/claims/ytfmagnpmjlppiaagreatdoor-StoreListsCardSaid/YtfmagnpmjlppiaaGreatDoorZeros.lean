/- append of as many zeros as a number says ('append(b, make([]byte, n)...)'), onto bytes in a block of the call's own. -/
import Derived.Test.YtfmagnpmjlppiaaGreatDoorBase
import Derived.Stop.BytesEq
import Derived.Laws.StructEq
namespace Go.Proofs.YtfmagnpmjlppiaaGreatDoor
open Go.RowKit

section
variable {P : Program} {w : World}

theorem zeros_cells (m : Nat) : (Builtin.zeroCells (Value.int .u8 0).cells m).toList = bcells (List.replicate m 0) := by
 apply List.ext_getElem
 ·simp [Builtin.zeroCells, bcells, Value.cells]
 ·intro i h1 h2
  simp [Builtin.zeroCells, bcells, Value.cells, Nat.mod_one]

theorem run_append_room_zeros (t tx ty e : TypeId) (i : TypeInfo) (ht : P.underlying t = some (.slice e)) (hx : P.underlying tx = some (.int .i64)) (hi : P.info? e = some i) (hz : i.zero = some (.int .u8 0)) (hs1 : i.size = 1) (hb1 : i.bytes = 1)
  (g o sLen sCap m : Nat) (cur : Array Value) (hg : w.heap[g]? = some (.cells cur e (0, 0))) (hm : m ≤ 281474976710656) (h0 : 0 < m)
  (hroom : sLen + m ≤ sCap) (hfit : o + sLen + m ≤ cur.size) :
  (Builtin.append_ #[t, tx] ty #[.slice (some ⟨g, o, none⟩) sLen sCap, .int .i64 (m : Int)]).run P w =
   .ok (.slice (some ⟨g, o, none⟩) (sLen + m) sCap) (w.setRow g (cur.toList.take (o + sLen) ++ bcells (List.replicate m 0) ++ cur.toList.drop (o + sLen + m)).toArray) := by
 have hst := run_storeCells_at (P := P) g (o + sLen) e (bcells (List.replicate m 0)) 0 cur w hg (by rw [bcells_length, List.length_replicate]; simpa using hfit) (bcells_one _)
 simp only [Nat.add_zero] at hst
 have hw : IntKind.i64.wrap (m : Int) = (m : Int) := IntWalk.i64_in _ (by omega)
 have hn : ¬ ((m : Int) < 0) := by omega
 have h48 : ¬ (281474976710656 < (m : Int)) := by omega
 have h0' : ¬ m = 0 := by omega
 have hzc := zeros_cells m
 rw [bcells_length, List.length_replicate, ← hzc] at hst
 rw [← hzc]
 simp [Builtin.append_, run_underlying ht, run_underlying hx, sizeOf, typeInfo, zeroValue, hi, hz, hs1, hb1, asInt, asIntOf, hw, hn, h48, h0', hroom, Addr.add_lit, hst]

theorem run_append_grow_zeros (t tx ty e : TypeId) (i : TypeInfo) (ht : P.underlying t = some (.slice e)) (hx : P.underlying tx = some (.int .i64)) (hi : P.info? e = some i) (hz : i.zero = some (.int .u8 0)) (hs1 : i.size = 1) (hb1 : i.bytes = 1) (base : Option Addr) (sLen sCap m : Nat) (olds : List Value)
  (hold : (Builtin.firstCells 1 sLen (.slice base sLen sCap)).run P w.drew = .ok olds.toArray w.drew) (hm : m ≤ 281474976710656) (h0 : 0 < m)
  (hg : sCap < sLen + m) (h63 : ((sLen + m : Nat) : Int) ≤ 9223372036854775807) (hfit : Builtin.nextslicecap (sLen + m) sCap * 1 ≤ 281474976710656) :
  (Builtin.append_ #[t, tx] ty #[.slice base sLen sCap, .int .i64 (m : Int)]).run P w =
   .ok (.slice (some ⟨w.heap.size, 0, none⟩) (sLen + m) (grownCap w (sLen + m) sCap e))
    (w.drew.alloc (.cells ((olds ++ bcells (List.replicate m 0)).toArray ++ Builtin.zeroCells (Value.int .u8 0).cells (grownCap w (sLen + m) sCap e - (sLen + m))) e)) := by
 have hn : ¬ (sLen + m ≤ sCap) := by omega
 have hw : IntKind.i64.wrap (m : Int) = (m : Int) := IntWalk.i64_in _ (by omega)
 have hn0 : ¬ ((m : Int) < 0) := by omega
 have h48 : ¬ (281474976710656 < (m : Int)) := by omega
 have h0' : ¬ m = 0 := by omega
 have hmx : max (m : Int) 0 = (m : Int) := by omega
 have h63' : ¬ (9223372036854775807 < ((sLen : Int) + (m : Int))) := by omega
 have h48' : ¬ (281474976710656 < Builtin.nextslicecap (sLen + m) sCap) := by omega
 have hzc := zeros_cells m
 rw [← hzc]
 simp [Builtin.append_, run_underlying ht, run_underlying hx, sizeOf, typeInfo, zeroValue, hi, hz, hs1, hb1, asInt, asIntOf, hw, hn0, h48, h0', hmx, hn, h63', h48', Question.forced, hold, newRow, grownCap]
 try (congr 2; apply Array.ext'; simp [List.append_assoc])

theorem run_append_zeros (t tx ty e : TypeId) (i : TypeInfo) (ht : P.underlying t = some (.slice e)) (hx : P.underlying tx = some (.int .i64)) (hi : P.info? e = some i) (hz : i.zero = some (.int .u8 0)) (hs1 : i.size = 1) (hb1 : i.bytes = 1) {base n m : Nat} {v : Value} {l : List UInt8}
  (hown : OwnS w base e 1 v n (bcells l)) (h0 : 0 < m) (hbytes : (n + m) ≤ 140737488355328) (hbase : base ≤ w.heap.size) :
  ∃ v' w', (Builtin.append_ #[t, tx] ty #[v, .int .i64 (m : Int)]).run P w = .ok v' w' ∧ OwnS w' base e 1 v' (n + m) (bcells (l ++ List.replicate m 0)) ∧ w.grownBy w' v.ownBlock ∧ (v'.ownBlock = v.ownBlock ∨ v'.ownBlock = some w.heap.size) := by
 have hlen : (bcells l ++ bcells (List.replicate m 0)).length = (n + m) * 1 := by rw [List.length_append, hown.1, bcells_length, List.length_replicate]; omega
 rw [bcells_append]
 have h63 : n + m ≤ maxLen := by unfold maxLen; omega
 have grown : ∀ (old : Nat), ∀ (row : Option Nat),
   OwnS (w.drew.alloc (.cells ((bcells l ++ bcells (List.replicate m 0)).toArray ++ Builtin.zeroCells (Value.int .u8 0).cells (grownCap w (n + m) old e - (n + m))) e)) base e 1
    (.slice (some ⟨w.heap.size, 0, none⟩) (n + m) (grownCap w (n + m) old e)) (n + m) (bcells l ++ bcells (List.replicate m 0)) ∧
   w.grownBy (w.drew.alloc (.cells ((bcells l ++ bcells (List.replicate m 0)).toArray ++ Builtin.zeroCells (Value.int .u8 0).cells (grownCap w (n + m) old e - (n + m))) e)) row := by
  intro old row
  have hge := grownCap_ge w (n + m) old e
  have hcm : grownCap w (n + m) old e ≤ maxLen := grownCap_le_maxLen w (n + m) old e h63
  refine ⟨⟨hlen, .inr ⟨w.heap.size, 0, _, _, rfl, hbase, heap_alloc_new w.drew _, hge, hcm, ?_, ?_⟩⟩, ⟨rfl, rfl, rfl, by simp, fun k hk _ => heap_alloc_old w.drew _ hk⟩⟩
  ·have : ((bcells l ++ bcells (List.replicate m 0)).toArray ++ Builtin.zeroCells (Value.int .u8 0).cells (grownCap w (n + m) old e - (n + m))).size = grownCap w (n + m) old e * 1 := by
    rw [Array.size_append, size_zeroCells, List.size_toArray, hlen]
    show (n + m) * 1 + (_ - _) * 1 = _
    omega
   omega
  ·simp only [Array.toList_append, List.drop_zero]
   rw [← hlen]
   exact List.take_left
 have h63' : ((n + m : Nat) : Int) ≤ 9223372036854775807 := by unfold maxLen at h63; omega
 rcases hown.2 with ⟨rfl, rfl⟩ | ⟨g, o, cap, cur, rfl, hbg, hg, hnc, hcm, hcs, htake⟩
 ·have hx0 : bcells l = [] := List.eq_nil_of_length_eq_zero (by simpa using hown.1)
  rw [hx0] at grown ⊢
  have hr := run_append_grow_zeros (P := P) (w := w) t tx ty e i ht hx hi hz hs1 hb1 none 0 0 m [] (by simp [Builtin.firstCells]) (by omega) h0 (by omega) h63' (growslice_fits (by omega) (by omega))
  have hgr := grown 0 (Value.ownBlock (.slice none 0 0))
  exact ⟨_, _, hr, hgr.1, hgr.2, .inr rfl⟩
 ·by_cases hroom : n + m ≤ cap
  ·have hr := run_append_room_zeros (P := P) (w := w) t tx ty e i ht hx hi hz hs1 hb1 g o n cap m cur hg (by omega) h0 hroom (by omega)
   refine ⟨_, _, hr, ⟨hlen, .inr ⟨g, o, cap, _, rfl, hbg, setRow_heap w g cur _ e _ hg, hroom, hcm, ?_, ?_⟩⟩, ⟨rfl, rfl, rfl, by simp, fun k _ hk => setRow_other w g k _ (fun e => hk (by simp [Value.ownBlock, e]))⟩, .inl rfl⟩
   ·simp only [List.size_toArray, List.length_append, List.length_take, List.length_drop, Array.length_toList, bcells_length, List.length_replicate]
    omega
   ·rw [Nat.mul_one] at htake
    have hln : (bcells l).length = n := by have := hown.1; omega
    have h1 : (cur.toList.take (o + n)).drop o = (cur.toList.drop o).take n := by
     rw [List.drop_take]; congr 1; omega
    rw [List.toList_toArray, List.append_assoc, List.drop_append_of_le_length (by rw [List.length_take, Array.length_toList]; omega), h1, htake, ← List.append_assoc, Nat.mul_one]
    refine List.take_left' ?_
    rw [hlen, Nat.mul_one]
  ·have holds : ∀ j u, (bcells l)[j]? = some u → w.cell? ⟨g, o + j, none⟩ = some u := by
    intro j u hu
    obtain ⟨g', o', cap', hv, _, _, hc⟩ := hown.cells (by have := (List.getElem?_eq_some_iff.1 hu).1; omega)
    injection hv with hv _ _
    injection hv with hv
    injection hv with hv1 hv2
    subst hv1; subst hv2
    exact hc j u hu
   have hfo := run_firstCells_some (P := P) w.drew 1 n ⟨g, o, none⟩ n cap (bcells l) hown.1 (by intro j u hu; rw [addr_add]; simpa using holds j u hu)
   have hr := run_append_grow_zeros (P := P) (w := w) t tx ty e i ht hx hi hz hs1 hb1 (some ⟨g, o, none⟩) n cap m (bcells l) hfo (by omega) h0 (by omega) h63' (growslice_fits (by omega) (by omega))
   have hgr := grown cap (Value.ownBlock (.slice (some ⟨g, o, none⟩) n cap))
   exact ⟨_, _, hr, hgr.1, hgr.2, .inr rfl⟩
end

/-- append of m zeros, as an operation of the walk. -/
theorem wpList_append_zeros {ops : Array Oper} {rest : List Oper} {o : Oper} {a : Act} {w : World} {Q : Exit → Act → World → Prop} (hgd : o.guard = none) (s x : Operand)
  (ho : o.op = .call { callee := .builtin .append, args := #[s, x], argTypes := #[24, 3] })
  {base m : Nat} {v : Value} {l : List UInt8} (hown : OB w base v l) (hs : a.eval s = v) (hx : a.eval x = .int .i64 (m : Int)) (h0 : 0 < m)
  (hbytes : l.length + m ≤ 140737488355328) (hbase : base ≤ w.heap.size)
  (h : ∀ v' w', OB w' base v' (l ++ List.replicate m 0) → w.grownBy w' v.ownBlock → (v'.ownBlock = v.ownBlock ∨ v'.ownBlock = some w.heap.size) → wpList Tryz.prog ops Q rest (a.put o.dst v') w') : wpList Tryz.prog ops Q (o :: rest) a w := by
 obtain ⟨i0, hi, hz0, hz1, hz2⟩ := info_parts info_u8
 refine wpList_plain hgd fun K hK => ?_
 obtain ⟨v', w', hr, h2, h3, h4⟩ := run_append_zeros (P := Tryz.prog) (w := w) 24 3 o.type 5 i0 Tryz.underlying24 Tryz.underlying3 hi hz0 hz1 hz2 hown h0 hbytes hbase
 unfold Oper.wp execOp
 simp only [ho, resolve, invoke, builtin, Sem.run_bind, Sem.run_pure, Result.andThen_ok, List.map_toArray, List.map_cons, List.map_nil, hs, hx, hr]
 refine hK _ _ (h v' w' ?_ h3 h4)
 unfold OB
 rw [List.length_append, List.length_replicate]
 exact h2
end Go.Proofs.YtfmagnpmjlppiaaGreatDoor

/- copy into the midst of a slice of the call's own: bytes over bytes. -/
namespace Go.Proofs.YtfmagnpmjlppiaaGreatDoor
open Go.RowKit

theorem copy_info : (Tryz.prog.info? 5).map (·.size) = some 1 := by kernel_rfl

set_option maxRecDepth 100000 in
theorem run_copy_ob {w : World} {B n c pos nb : Nat} {A : Option Addr} {l bs : List UInt8} (hown : OB w B (.slice A n c) l) (hn : l.length = n) (hfit : pos + nb ≤ n) {dp : Option Addr} {dCap : Nat}
  (hdp : 0 < nb → ∀ g o, A = some ⟨g, o, none⟩ → dp = some ⟨g, o + pos, none⟩) {A2 : Option Addr} {c2 : Nat} (hsrc : RB w A2 nb bs) (ty : TypeId) :
  ∃ w', (Builtin.copy_ #[24, 24] ty #[.slice dp (n - pos) dCap, .slice A2 nb c2]).run Tryz.prog w = .ok (goInt nb) w' ∧ OB w' B (.slice A n c) (l.take pos ++ bs ++ l.drop (pos + nb)) ∧ Fr (fun k => (Value.slice A n c).ownBlock = some k) w w' := by
 have hbl := hsrc.1
 rcases Nat.eq_zero_or_pos nb with h0 | h0
 ·subst h0
  obtain rfl : bs = [] := List.eq_nil_of_length_eq_zero hbl
  refine ⟨w, run_copy_none w _ _ ty 5 dp A2 _ dCap 0 c2 Tryz.underlying24 copy_info (by simp), ?_, Fr.refl _ _⟩
  have : l.take pos ++ [] ++ l.drop (pos + 0) = l := by simp
  rw [this]
  exact hown
 ·obtain ⟨h1, h2⟩ := hown
  rcases h2 with ⟨h2, h3⟩ | ⟨g, o, cap, cur, h2, h3, h4, h5, h6, h7, h8⟩
  ·omega
  ·injection h2 with e1 e2 e3
   subst e1; subst e3
   rw [hdp h0 g o rfl]
   obtain ⟨b2, o2, rfl, hc2⟩ := hsrc.2 h0
   have hsz : o + n ≤ cur.size := by omega
   have hr := run_copy_row (P := Tryz.prog) w 24 24 ty 5 g (o + pos) (n - pos) dCap ⟨b2, o2, none⟩ nb c2 cur 5 (bcells bs) Tryz.underlying24 copy_info h4
    (by rw [bcells_length, hbl]; exact (Nat.min_eq_left (by omega)).symm) (RB.news hbl hc2) (by rw [bcells_length, hbl]; omega) (bcells_one _)
   rw [bcells_length, hbl] at hr
   refine ⟨_, hr, ⟨?_, .inr ⟨g, o, c, _, by congr 1; simp [hbl]; omega, h3, setRow_heap w g cur _ _ _ h4, ?_, h6, ?_, ?_⟩⟩, ?_⟩
   ·rw [bcells_length, Nat.mul_one]
   ·simp [hbl]; omega
   ·simp only [List.size_toArray, List.length_append, List.length_take, List.length_drop, Array.length_toList, bcells_length, hbl]; omega
   ·have e : (l.take pos ++ bs ++ l.drop (pos + nb)).length = n := by simp [hbl]; omega
    rw [e, List.toList_toArray, Nat.mul_one]
    rw [Nat.mul_one, hn] at h8
    have q1 : (cur.toList.drop o).take n = bcells l := h8
    have q2 : (cur.toList.take (o + pos)).drop o = bcells (l.take pos) := by
     rw [List.drop_take, show o + pos - o = pos by omega]
     have : (cur.toList.drop o).take pos = ((cur.toList.drop o).take n).take pos := by rw [List.take_take, Nat.min_eq_left (by omega)]
     rw [this, q1]
     simp [bcells, List.map_take]
    have q3 : (cur.toList.drop (o + pos + nb)).take (n - (pos + nb)) = bcells (l.drop (pos + nb)) := by
     have : bcells (l.drop (pos + nb)) = (bcells l).drop (pos + nb) := by simp [bcells, List.map_drop]
     rw [this, ← q1, List.drop_take, List.drop_drop, show o + (pos + nb) = o + pos + nb by omega]
    rw [List.append_assoc, List.drop_append_of_le_length (by rw [List.length_take, Array.length_toList]; omega), q2, bcells_append, bcells_append, ← q3, ← List.append_assoc]
    rw [List.take_append, List.take_of_length_le (by simp [bcells_length, hbl]; omega)]
    congr 1
    simp only [List.length_append, bcells_length, List.length_take, hbl]
    congr 1
    omega
   ·exact ⟨rfl, rfl, rfl, by simp [World.setRow], fun k hk hne => setRow_other w g k _ (fun e => hne (by simp [Value.ownBlock, e]))⟩

theorem step_copy_ob {ops : Array Oper} {o : Oper} {a : Act} {w : World} {K : Act → World → Prop} {Q : Exit → Act → World → Prop} {E : Prop} (hgd : o.guard = none) (d s : Operand)
  (ho : o.op = .call { callee := .builtin .copy, args := #[d, s], argTypes := #[24, 24] })
  {B n c pos nb : Nat} {A : Option Addr} {l bs : List UInt8} (hown : OB w B (.slice A n c) l) (hn : l.length = n) (hfit : pos + nb ≤ n) {dp : Option Addr} {dCap : Nat}
  (hd : a.eval d = .slice dp (n - pos) dCap) (hdp : 0 < nb → ∀ g o, A = some ⟨g, o, none⟩ → dp = some ⟨g, o + pos, none⟩) {A2 : Option Addr} {c2 : Nat} (hs : a.eval s = .slice A2 nb c2) (hsrc : RB w A2 nb bs)
  (h : ∀ w', OB w' B (.slice A n c) (l.take pos ++ bs ++ l.drop (pos + nb)) → Fr (fun k => (Value.slice A n c).ownBlock = some k) w w' → K (a.put o.dst (goInt nb)) w') :
  if Region.wanted o (yielded ops a.tmps) = true then Oper.wp Tryz.prog o a w K Q else E := by
 have hw : Region.wanted o (yielded ops a.tmps) = true := by simp [Region.wanted, hgd]
 rw [if_pos hw]
 obtain ⟨w', hr, h1, h2⟩ := run_copy_ob hown hn hfit hdp hsrc (c2 := c2) (dCap := dCap) o.type
 unfold Oper.wp
 simp [execOp, ho, resolve, invoke, builtin, hd, hs, hr, Result.andThen]
 exact h w' h1 h2
end Go.Proofs.YtfmagnpmjlppiaaGreatDoor

/- A byte stored into a slice of the call's own; arrays of 32 bytes compared. -/
namespace Go.Proofs.YtfmagnpmjlppiaaGreatDoor
open Go.RowKit

theorem OB.setB {w : World} {B g o n cap k : Nat} {l : List UInt8} (x : UInt8) (h : OB w B (.slice (some ⟨g, o, none⟩) n cap) l) (hn : l.length = n) (_hk : k < n) :
  w.frozen? ⟨g, o + k, none⟩ = false ∧ OB (w.setCell ⟨g, o + k, none⟩ (.int .u8 (x.toNat : Int))) B (.slice (some ⟨g, o, none⟩) n cap) (l.set k x) := by
 obtain ⟨h1, h2⟩ := h
 rcases h2 with ⟨h2, _⟩ | ⟨g', o', cap', cur, h2, h3, h4, h5, h6, h7, h8⟩
 ·cases h2
 ·injection h2 with e1 e2 e3
  injection e1 with e1
  injection e1 with e4 e5
  subst e4; subst e5; subst e3
  refine ⟨Kx h4, ?_, .inr ⟨_, _, _, _, by rw [List.length_set, hn], h3, heap_setCell_same _ _ _ _ _ _ h4, by rw [List.length_set]; exact h5, h6, by simpa using h7, ?_⟩⟩
  ·rw [bcells_length, Nat.mul_one]
  ·rw [List.length_set, Array.toList_setIfInBounds, List.drop_set, if_neg (by omega), List.take_set, h8]
   simp [bcells, List.map_set]

end Go.Proofs.YtfmagnpmjlppiaaGreatDoor
