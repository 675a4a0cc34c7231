/- Rows of texts of a call's own. -/
import Derived.Test.YtfmagnpmjlppiaaGreatDoorTabSO
import Derived.Test.YtfmagnpmjlppiaaGreatDoorPlayP
import Derived.Test.YtfmagnpmjlppiaaGreatDoorDiskOps
namespace Go.Proofs.YtfmagnpmjlppiaaGreatDoor
open Go.RowKit
theorem info_partsT {T : TypeId} {z : Option Value} {s b : Nat} (h : (Tryz.prog.info? T).map (fun i => (i.zero, i.size, i.bytes)) = some (z, s, b)) : ∃ i, Tryz.prog.info? T = some i ∧ i.zero = z ∧ i.size = s ∧ i.bytes = b := by
 cases hi : Tryz.prog.info? T with
 | none => rw [hi] at h; cases h
 | some i =>
  rw [hi] at h
  injection h with h
  injection h with h1 h2
  injection h2 with h2 h3
  exact ⟨i, rfl, h1, h2, h3⟩
/-! ### rows of texts of a call's own -/
theorem info_str : (Tryz.prog.info? 9).map (fun i => (i.zero, i.size, i.bytes)) = some (some (.string ⟨#[]⟩), 1, 16) := by kernel_rfl
def OT (w : World) (base : Nat) (v : Value) (l : List ByteArray) : Prop := OwnS w base 9 1 v l.length (l.map Value.string)
theorem OT.nil (w : World) (base : Nat) : OT w base (.slice none 0 0) [] := OwnS.nil _ _ _ _
theorem OT.alloc {w : World} {base : Nat} {v : Value} {l : List ByteArray} (h : OT w base v l) (o : Obj) : OT (w.alloc o) base v l := OwnS.alloc h o
theorem OT.form {w : World} {base : Nat} {v : Value} {l : List ByteArray} (h : OT w base v l) : ∃ A cap, v = .slice A l.length cap ∧ l.length ≤ cap ∧ cap ≤ maxLen := OwnS.form h
theorem Src.text (w : World) (g : Nat) (x : ByteArray) (c : Nat) (hg : g = w.heap.size) : Src Tryz.prog 1 52 (.slice (some ⟨g, 0, none⟩) 1 c) 1 ([x].map Value.string) (w.alloc (.cells #[.string x] 9)) :=
  hg ▸ Src.ofSlice _ Tryz.underlying52 _ _ c _ rfl (fun j u hu => World.news_of_block (cs := #[.string x]) (heap_alloc_new w _) j u hu) (fun u hu => by
    rcases List.mem_singleton.1 hu with rfl
    rfl)

theorem wpList_append_t {ops : Array Oper} {rest : List Oper} {o : Oper} {a : Act} {w : World} {Q : Exit → Act → World → Prop} (hgd : o.guard = none) (s x : Operand)
    (ho : o.op = .call { callee := .builtin .append, args := #[s, x], argTypes := #[52, 52] })
    {base : Nat} {v : Value} {l : List ByteArray} (hown : OT w base v l) (hs : a.eval s = v)
    {xv : Value} {m : Nat} {r : List ByteArray} (hsrc : Src Tryz.prog 1 52 xv m (r.map Value.string) w) (hx : a.eval x = xv)
    (hbytes : l.length + r.length ≤ 1000000000000) (hbase : base ≤ w.heap.size)
    (h : ∀ v' w', OT w' base v' (l ++ r) → w.grownBy w' v.ownBlock → wpList Tryz.prog ops Q rest (a.put o.dst v') w') : wpList Tryz.prog ops Q (o :: rest) a w := by
  obtain ⟨i0, hi, hz0, hz1, hz2⟩ := info_partsT info_str
  have hm : r.length = m := by have := hsrc.newsLen; rw [List.length_map] at this; omega
  refine wpList_append_ownS hgd s x 52 52 ho i0 _ 16 Tryz.underlying52 hi hz0 hz1 hz2 rfl (by omega) hs hown xv m _ hx hsrc (by unfold maxLen; omega) (by omega) hbase fun v' w' h1 h2 _ => ?_
  refine h v' w' ?_ h2
  unfold OT
  rw [List.map_append, List.length_append, hm]
  exact h1
theorem below_append_t {B base : Nat} {a w w' : World} {v : Value} {l : List ByteArray} (h : Below B a w) (hg : w.grownBy w' v.ownBlock) (hown : OT w base v l) (hb : B ≤ base) (hB : B ≤ w.heap.size) : Below B a w' :=
  h.grown hg hB fun k hk => Kv hb (OwnS.lt hown k hk).1

end Go.Proofs.YtfmagnpmjlppiaaGreatDoor

/- Layer 16, tables of string to objects: At. -/
namespace Go.Proofs.YtfmagnpmjlppiaaGreatDoor.SO
open Go.RowKit

/-- What At answers of an entry, or of none. -/
def atV : Option (ByteArray × OV) → Value
  | some e => .tuple #[.string e.1, .agg #[.int .i64 e.2.kind, .string e.2.space, .string e.2.name, .int .i64 e.2.ver, .slice e.2.A e.2.n e.2.c], .bool true]
  | none => .tuple #[.string ⟨#[]⟩, .agg #[.int .i64 0, .string ⟨#[]⟩, .string ⟨#[]⟩, .int .i64 0, .slice none 0 0], .bool false]

set_option maxHeartbeats 4000000 in
set_option maxRecDepth 100000 in
theorem At_T (g : Nat) (i : Int) (s : Code) (l : List (ByteArray × OV)) (w : World) (a : TabAt w g s l) (hi0 : -9223372036854775808 ≤ i) (hi1 : i ≤ 9223372036854775807) (hlen : l.length ≤ 1000000000) :
    Calls Tryz.prog 100 #[.pointer (some ⟨g, 0, none⟩), .int .i64 i] w fun e w' => e = .returned (atV (getI l i)) ∧ Below w.heap.size w w' := by
  obtain ⟨w1, hw1⟩ : ∃ W, W = w.alloc (.cells #[.int .i64 0, .string ⟨#[]⟩, .string ⟨#[]⟩, .int .i64 0, .slice none 0 0] 26) := ⟨_, rfl⟩
  obtain ⟨B, hB⟩ : ∃ B, B = w.heap.size := ⟨_, rfl⟩
  have hb1 := (Below.refl w.heap.size w).alloc Kj (.cells #[.int .i64 0, .string ⟨#[]⟩, .string ⟨#[]⟩, .int .i64 0, .slice none 0 0] 26)
  have hr1 := heap_alloc_new w (.cells #[.int .i64 0, .string ⟨#[]⟩, .string ⟨#[]⟩, .int .i64 0, .slice none 0 0] 26)
  rw [← hw1] at hb1 hr1
  rw [← hB] at hr1
  obtain ⟨p, h1, h2⟩ := a.below hb1
  have c0 := cell_of_one h1
  have c0' : (w.alloc (.cells #[.int .i64 0, .string ⟨#[]⟩, .string ⟨#[]⟩, .int .i64 0, .slice none 0 0] 26)).cell? ⟨g, 0, none⟩ = some (.pointer p) := by rw [← hw1]; exact c0
  have H2 := Hj h2
  have HB1 := Hj hb1
  have HR1 := Hj hr1
  have HW1 := Hj hw1
  have HBE := Hj hB
  clear h1 h2 a hb1 hr1 hw1 hB
  go_enter Tryz.func100, Tryz.ntmps100
  go_wp2_with fail
  rw [← HW1.out, ← HBE.out]
  clear c0'
  go_loopg [1, 7] (sz s) (fun gk s1 s7 wr => ∃ (j : Int) (q : Option Addr) (l' : List (ByteArray × OV)) (s' : Code), s1 = .int .i64 j ∧ s7 = .pointer q ∧ T w1 s' q l' ∧ getI l' j = getI l i ∧ -9223372036854775808 ≤ j ∧ j ≤ 9223372036854775807 ∧ l'.length ≤ 1000000000 ∧ sz s' ≤ gk ∧ w1 = wr)
  case atStart => exact ⟨i, p, l, s, rfl, rfl, H2.out, rfl, hi0, hi1, hlen, Nat.le_refl _, rfl⟩
  case round =>
    obtain ⟨j, q, l', s', rfl, rfl, ht, hgi, hj0, hj1, hle, hg, rfl⟩ := hrel
    rcases Tr.open ht with ⟨rfl, rfl, rfl⟩ | ⟨b, a, x, pl, pr, ll, lr, sl, sr, rfl, hn, rfl, rfl, al, ar⟩
    · have Hgi := Hj hgi
      clear hgi ht hg
      go_wp2
      obtain ⟨w2, hw2⟩ : ∃ W, W = w1.alloc (.cells #[.int .i64 0, .string ⟨#[]⟩, .string ⟨#[]⟩, .int .i64 0, .slice none 0 0] 26) := ⟨_, rfl⟩
      obtain ⟨B2, hB2⟩ : ∃ B, B = w1.heap.size := ⟨_, rfl⟩
      have hb2 := (Below.refl w1.heap.size w1).alloc Kj (.cells #[.int .i64 0, .string ⟨#[]⟩, .string ⟨#[]⟩, .int .i64 0, .slice none 0 0] 26)
      have hr2 := heap_alloc_new w1 (.cells #[.int .i64 0, .string ⟨#[]⟩, .string ⟨#[]⟩, .int .i64 0, .slice none 0 0] 26)
      rw [← hw2] at hb2 hr2
      rw [← hB2] at hr2
      rw [← hw2, ← hB2]
      have HRB : Hid (w2.heap[B]? = some (.cells #[.int .i64 0, .string ⟨#[]⟩, .string ⟨#[]⟩, .int .i64 0, .slice none 0 0] 26 (0, 0))) := Hj ((hb2.block B (Cz HR1.out)).trans HR1.out)
      have HBZ : Hid (Below w.heap.size w w2) := Hj (HB1.out.trans (hb2.mono HB1.out.size))
      have hne : B2 ≠ B := fun e => by have h := (Cz HR1.out); rw [← e, hB2] at h; exact Nat.lt_irrefl _ h
      have HS0 : Hid (w2.drew.cell? ⟨B2, 0, none⟩ = some (.int .i64 0) ∧ w2.drew.cell? ⟨B2, 1, none⟩ = some (.string ⟨#[]⟩) ∧ w2.drew.cell? ⟨B2, 2, none⟩ = some (.string ⟨#[]⟩) ∧ w2.drew.cell? ⟨B2, 3, none⟩ = some (.int .i64 0) ∧ w2.drew.cell? ⟨B2, 4, none⟩ = some (.slice none 0 0)) := Hj (cells5 (w := w2.drew) hr2)
      have HS : Hid (∀ W, W = (((((w2.setCell ⟨B, 0, none⟩ (.int .i64 0)).setCell ⟨B, 1, none⟩ (.string ⟨#[]⟩)).setCell ⟨B, 2, none⟩ (.string ⟨#[]⟩)).setCell ⟨B, 3, none⟩ (.int .i64 0)).setCell ⟨B, 4, none⟩ (.slice none 0 0)).drew → (fun w' => w'.cell? ⟨B2, 0, none⟩ = some (.int .i64 0) ∧ w'.cell? ⟨B2, 1, none⟩ = some (.string ⟨#[]⟩) ∧ w'.cell? ⟨B2, 2, none⟩ = some (.string ⟨#[]⟩) ∧ w'.cell? ⟨B2, 3, none⟩ = some (.int .i64 0) ∧ w'.cell? ⟨B2, 4, none⟩ = some (.slice none 0 0)) W) := Hj fun W hW => by
        have hf := fr5 B w2 (.int .i64 0) (.string ⟨#[]⟩) (.string ⟨#[]⟩) (.int .i64 0) (.slice none 0 0)
        have hr : W.heap[B2]? = some (.cells #[.int .i64 0, .string ⟨#[]⟩, .string ⟨#[]⟩, .int .i64 0, .slice none 0 0] 26 (0, 0)) := by rw [hW]; exact (hf.block B2 (Cz hr2) hne).trans hr2
        exact cells5 hr
      dsimp only at HS
      clear hw2 hb2 hr2 hB2 hne
      refine wp_region_noPanic ?_
      refine wp_region_held_drew (S := (fun w' => w'.cell? ⟨B2, 0, none⟩ = some (.int .i64 0) ∧ w'.cell? ⟨B2, 1, none⟩ = some (.string ⟨#[]⟩) ∧ w'.cell? ⟨B2, 2, none⟩ = some (.string ⟨#[]⟩) ∧ w'.cell? ⟨B2, 3, none⟩ = some (.int .i64 0) ∧ w'.cell? ⟨B2, 4, none⟩ = some (.slice none 0 0))) (by kernel_rfl) ?_ (fun hHeld => ?_)
      · exact HS0.out
      refine tk 0 hHeld ?_
      try simp only [pa]
      refine tk 1 hHeld ?_
      try simp only [pa]
      refine tk 2 hHeld ?_
      try simp only [pa]
      refine rd1 3 rfl (fun K hK => ?_)
      have fx : ∀ k, w2.frozen? ⟨B, k, none⟩ = false := fun k => Kx HRB.out
      obtain ⟨d0, d1, d2, d3, d4⟩ := cells5 HRB.out
      go_simp
      obtain ⟨wf, hwf⟩ : ∃ W, W = (((((w2.setCell ⟨B, 0, none⟩ (.int .i64 0)).setCell ⟨B, 1, none⟩ (.string ⟨#[]⟩)).setCell ⟨B, 2, none⟩ (.string ⟨#[]⟩)).setCell ⟨B, 3, none⟩ (.int .i64 0)).setCell ⟨B, 4, none⟩ (.slice none 0 0)).drew := ⟨_, rfl⟩
      have HRF : Hid (wf.heap[B]? = some (.cells #[.int .i64 0, .string ⟨#[]⟩, .string ⟨#[]⟩, .int .i64 0, .slice none 0 0] 26 (0, 0))) := Hj (by rw [hwf]; exact st5 HRB.out)
      have HBF : Hid (Below w.heap.size w wf) := Hj (by rw [hwf]; have h := bel5 HBZ.out (Nat.le_of_eq HBE.out.symm) (.int .i64 0) (.string ⟨#[]⟩) (.string ⟨#[]⟩) (.int .i64 0) (.slice none 0 0); exact ⟨h.os, h.tape, h.output, h.size, h.block⟩)
      have HSF := Hj (HS.out _ hwf)
      rw [← hwf]
      clear hwf d0 d1 d2 d3 d4 fx
      refine hK.out _ _ ?_ (fun hHeld => ?_)
      · exact HSF.out
      clear hK K
      try simp only [pa]
      refine tk 4 hHeld ?_
      try simp only [pa]
      refine wpAnyH_done (by kernel_rfl) ?_ _
      refine NoPanic.normal ?_
      go_wp2
      exact bodyPost_ret (results_TcellT _ rfl rfl HRF.out Tryz.underlying26 info_obj) rfl ⟨by rw [← Hgi.out, getI_nil]; rfl, HBF.out⟩
    have HN := Hj hn
    obtain ⟨d0, -, d2, d3, -, -⟩ := NP.cells hn
    have G1 := Hj al
    have G2 := Hj ar
    have Hgi := Hj hgi
    simp only [List.length_append, List.length_cons] at hle
    simp only [sz] at hg
    clear hgi ht al ar hn
    by_cases hlt : j < (ll.length : Int)
    · have HC := Hj hlt
      have q1 : (j == (ll.length : Int)) = false := beq_eq_false_iff_ne.2 (by omega)
      have q2 : decide (j < (ll.length : Int)) = true := decide_eq_true hlt
      have q3 : (j != (ll.length : Int)) = true := bne_iff_ne.2 (by omega)
      clear hlt
      go_wp2_with (go_at_call 101; refine (many_T sl pl ll _ G1.out).mono ?_; rintro e w' ⟨rfl, rfl⟩)
      go_roundg (gk - 1)
      case measure => omega
      case rel => exact ⟨j, pl, ll, sl, rfl, rfl, G1.out, by rw [← Hgi.out, getI_left HC.out], hj0, hj1, by omega, by omega, rfl⟩
    · by_cases hgt : (ll.length : Int) < j
      · have HC := Hj hgt
        have q1 : (j == (ll.length : Int)) = false := beq_eq_false_iff_ne.2 (by omega)
        have q2 : decide (j < (ll.length : Int)) = false := decide_eq_false (by omega)
        have q3 : (j != (ll.length : Int)) = true := bne_iff_ne.2 (by omega)
        clear hlt hgt
        have b0 : -9223372036854775808 ≤ j - ((ll.length : Int) + 1) := by have := HC.out; omega
        have b1 : j - ((ll.length : Int) + 1) ≤ 9223372036854775807 := by have := HC.out; omega
        go_wp2_with (go_at_call 101; refine (many_T sl pl ll _ G1.out).mono ?_; rintro e w' ⟨rfl, rfl⟩)
        go_roundg (gk - 1)
        case measure => omega
        case rel => exact ⟨j - ((ll.length : Int) + 1), pr, lr, sr, by go_num, rfl, G2.out, by rw [← Hgi.out, getI_right HC.out], b0, b1, by omega, by omega, rfl⟩
      · obtain rfl : j = (ll.length : Int) := by omega
        have q1 : ((ll.length : Int) == (ll.length : Int)) = true := by simp
        clear hlt hgt
        go_wp2_with (go_at_call 101; refine (many_T sl pl ll _ G1.out).mono ?_; rintro e w' ⟨rfl, rfl⟩)
        clear d0 d2 d3
        obtain ⟨k0, ⟨k1, k2, k3, k4, k5⟩, -, -, -, -⟩ := NP.cells HN.out
        have HS0 : Hid (w1.drew.cell? ⟨b, 0, none⟩ = some (.string a) ∧ w1.drew.cell? ⟨b, 1, none⟩ = some (.int .i64 x.kind) ∧ w1.drew.cell? ⟨b, 2, none⟩ = some (.string x.space) ∧ w1.drew.cell? ⟨b, 3, none⟩ = some (.string x.name) ∧ w1.drew.cell? ⟨b, 4, none⟩ = some (.int .i64 x.ver) ∧ w1.drew.cell? ⟨b, 5, none⟩ = some (.slice x.A x.n x.c)) := Hj ⟨k0, k1, k2, k3, k4, k5⟩
        have hne : b ≠ B := fun e => absurd (types_ne HN.out (by rw [e]; exact HR1.out)) (by decide)
        have HS : Hid (∀ W, W = (((((w1.setCell ⟨B, 0, none⟩ (.int .i64 x.kind)).setCell ⟨B, 1, none⟩ (.string x.space)).setCell ⟨B, 2, none⟩ (.string x.name)).setCell ⟨B, 3, none⟩ (.int .i64 x.ver)).setCell ⟨B, 4, none⟩ (.slice x.A x.n x.c)).drew → (fun w' => w'.cell? ⟨b, 0, none⟩ = some (.string a) ∧ w'.cell? ⟨b, 1, none⟩ = some (.int .i64 x.kind) ∧ w'.cell? ⟨b, 2, none⟩ = some (.string x.space) ∧ w'.cell? ⟨b, 3, none⟩ = some (.string x.name) ∧ w'.cell? ⟨b, 4, none⟩ = some (.int .i64 x.ver) ∧ w'.cell? ⟨b, 5, none⟩ = some (.slice x.A x.n x.c)) W) := Hj fun W hW => by
          have hf := fr5 B w1 (.int .i64 x.kind) (.string x.space) (.string x.name) (.int .i64 x.ver) (.slice x.A x.n x.c)
          have hr : W.heap[b]? = w1.heap[b]? := by rw [hW]; exact hf.block b (Cz HN.out) hne
          obtain ⟨k0, ⟨k1, k2, k3, k4, k5⟩, -, -, -, -⟩ := NP.cells (hr.trans HN.out)
          exact ⟨k0, k1, k2, k3, k4, k5⟩
        dsimp only at HS
        have HBZ := HB1
        clear k0 k1 k2 k3 k4 k5 hne
        refine wp_region_noPanic ?_
        refine wp_region_held_drew (S := (fun w' => w'.cell? ⟨b, 0, none⟩ = some (.string a) ∧ w'.cell? ⟨b, 1, none⟩ = some (.int .i64 x.kind) ∧ w'.cell? ⟨b, 2, none⟩ = some (.string x.space) ∧ w'.cell? ⟨b, 3, none⟩ = some (.string x.name) ∧ w'.cell? ⟨b, 4, none⟩ = some (.int .i64 x.ver) ∧ w'.cell? ⟨b, 5, none⟩ = some (.slice x.A x.n x.c))) (by kernel_rfl) ?_ (fun hHeld => ?_)
        · exact HS0.out
        refine tk 0 hHeld ?_
        try simp only [pa]
        refine tk 1 hHeld ?_
        try simp only [pa]
        refine tk 2 hHeld ?_
        try simp only [pa]
        refine tk 3 hHeld ?_
        try simp only [pa]
        refine tk 4 hHeld ?_
        try simp only [pa]
        refine tk 5 hHeld ?_
        try simp only [pa]
        refine tk 6 hHeld ?_
        try simp only [pa]
        refine tk 7 hHeld ?_
        try simp only [pa]
        refine tk 8 hHeld ?_
        try simp only [pa]
        refine rd1 9 rfl (fun K hK => ?_)
        have fx : ∀ k, w1.frozen? ⟨B, k, none⟩ = false := fun k => Kx HR1.out
        obtain ⟨d0, d1, d2, d3, d4⟩ := cells5 HR1.out
        go_simp
        obtain ⟨wf, hwf⟩ : ∃ W, W = (((((w1.setCell ⟨B, 0, none⟩ (.int .i64 x.kind)).setCell ⟨B, 1, none⟩ (.string x.space)).setCell ⟨B, 2, none⟩ (.string x.name)).setCell ⟨B, 3, none⟩ (.int .i64 x.ver)).setCell ⟨B, 4, none⟩ (.slice x.A x.n x.c)).drew := ⟨_, rfl⟩
        have HRF : Hid (wf.heap[B]? = some (.cells #[.int .i64 x.kind, .string x.space, .string x.name, .int .i64 x.ver, .slice x.A x.n x.c] 26 (0, 0))) := Hj (by rw [hwf]; exact st5 HR1.out)
        have HBF : Hid (Below w.heap.size w wf) := Hj (by rw [hwf]; have h := bel5 HBZ.out (Nat.le_of_eq HBE.out.symm) (.int .i64 x.kind) (.string x.space) (.string x.name) (.int .i64 x.ver) (.slice x.A x.n x.c); exact ⟨h.os, h.tape, h.output, h.size, h.block⟩)
        have HSF := Hj (HS.out _ hwf)
        rw [← hwf]
        clear hwf d0 d1 d2 d3 d4 fx
        refine hK.out _ _ ?_ (fun hHeld => ?_)
        · exact HSF.out
        clear hK K
        try simp only [pa]
        refine tk 10 hHeld ?_
        try simp only [pa]
        refine wpAnyH_done (by kernel_rfl) ?_ _
        refine NoPanic.normal ?_
        go_wp2
        exact bodyPost_ret (results_TcellT _ rfl rfl HRF.out Tryz.underlying26 info_obj) rfl ⟨by rw [← Hgi.out, getI_here rfl]; rfl, HBF.out⟩
end Go.Proofs.YtfmagnpmjlppiaaGreatDoor.SO

/- Layer 16, tables of string to objects: Between. -/
namespace Go.Proofs.YtfmagnpmjlppiaaGreatDoor.SO
open Go.RowKit

theorem spanK_len {k to : ByteArray} {l : List (ByteArray × OV)} : ((span klt k to l).map fun e => e.1).length = (span klt k to l).length := List.length_map _
theorem span_le (k to : ByteArray) (l : List (ByteArray × OV)) : (span klt k to l).length ≤ l.length := List.length_filter_le _ _
theorem btw_all {k to : ByteArray} {most : Int} {l : List (ByteArray × OV)} {j : Nat} (h : (span klt k to l).length = j) (hm : (j : Int) < most) : ((span klt k to l).map fun e => e.1).take j = btw klt k to most l := by
  unfold btw
  rw [List.take_of_length_le (by rw [spanK_len]; omega), List.take_of_length_le (by rw [spanK_len]; omega)]

set_option maxHeartbeats 1000000 in
theorem Between_T (g : Nat) (k to : ByteArray) (most : Int) (s : Code) (l : List (ByteArray × OV)) (w : World) (a : TabAt w g s l) (hri : Rises klt l) (hlen : l.length ≤ 1000000000) :
    Calls Tryz.prog 52 #[.pointer (some ⟨g, 0, none⟩), .string k, .string to, .int .i64 most] w fun e w' => ∃ v, e = .returned v ∧ OT w' w.heap.size v (btw klt k to most l) ∧ Below w.heap.size w w' := by
  have HA := Hj a
  have HR := Hj hri
  clear a hri
  have hrk := rank_le (lt := klt) k l
  have hsp := span_le k to l
  go_enter Tryz.func52, Tryz.ntmps52
  go_wp2_with (go_at_call 55; refine (Rank_T g k s l _ HA.out HR.out hlen).mono ?_; rintro e w' ⟨rfl, rfl⟩)
  obtain ⟨r, hr⟩ : ∃ r, r = rank klt k l := ⟨_, rfl⟩
  have Hr := Hj hr
  rw [← hr] at hrk ⊢
  clear hr
  go_loopw [9, 10] (fun v i wr => ∃ j i' : Nat, Hid (i' = r + j) ∧ j ≤ (span klt k to l).length ∧ i = .int .i64 (i' : Int) ∧ (j = 0 ∨ (j : Int) ≤ most) ∧ OT wr w.heap.size v (((span klt k to l).map fun e => e.1).take j) ∧ Below w.heap.size w wr) (fun _ i _ => r + l.length - (intOf i).toNat)
  case atStart => exact ⟨0, r, rfl, by omega, rfl, .inl rfl, by rw [List.take_zero]; exact OT.nil _ _, Below.refl _ _⟩
  case round =>
    obtain ⟨j, i', Hi, hj, rfl, hjm, hown, hbel⟩ := hrel
    have HBe := Hj hbel
    have HA2 := Hj (HA.out.below hbel)
    have hlj : (((span klt k to l).map fun e => e.1).take j).length = j := by rw [List.length_take, spanK_len]; omega
    obtain ⟨A', c', rfl, hc1', hc2'⟩ := hown.form
    have HO := Hj hown
    rw [hlj] at hc1'
    have HE : Hid (Value.slice A' (((span klt k to l).map fun e => e.1).take j).length c' = Value.slice A' j c') := Hj (by rw [hlj])
    have Hlj := Hj hlj
    rw [HE.out] at HO ⊢
    have hib : i' ≤ r + l.length := by have := Hi.out; omega
    clear hbel hown hlj HE
    have hstep := span_step klin k to HR.out hj
    rw [← Hr.out, ← Hi.out] at hstep
    have HS := Hj hstep
    clear hstep
    by_cases hm : (j : Int) < most
    · have q0 : decide ((j : Int) < most) = true := decide_eq_true hm
      have HAt := Hj (At_T g (i' : Int) s l wr HA2.out (by omega) (by omega) hlen)
      have Hm := Hj hm
      clear hm
      cases hx : l[i']? with
      | none =>
        rw [getI_nat, hx] at HAt
        simp only [atV] at HAt
        have HD := Hj (HS.out.1 hx)
        clear hx
        go_wp2_with (go_at_call 100; refine HAt.out.mono ?_; rintro e w4 ⟨rfl, hb4⟩; have HB4 := Hj hb4; clear hb4)
        go_ret
        exact ⟨_, rfl, by rw [← btw_all HD.out Hm.out]; exact OT.alloc (OwnS.below HO.out HB4.out) _, ((HBe.out.trans (HB4.out.mono HBe.out.size)).alloc (Kv HBe.out.size HB4.out.size) _)⟩
      | some x =>
        rw [getI_nat, hx] at HAt
        simp only [atV] at HAt
        have hil : i' < l.length := (List.getElem?_eq_some_iff.1 hx).1
        have HD := Hj (HS.out.2 x hx)
        clear hx
        cases hto : klt x.1 to with
        | false =>
          have q1 : Op.bytesLess x.1.toList to.toList = false := hto
          have HD2 := Hj (HD.out.1 hto)
          clear hto
          go_wp2_with (go_at_call 100; refine HAt.out.mono ?_; rintro e w4 ⟨rfl, hb4⟩; have HB4 := Hj hb4; clear hb4)
          go_ret
          exact ⟨_, rfl, by rw [← btw_all HD2.out Hm.out]; exact OT.alloc (OwnS.below HO.out HB4.out) _, ((HBe.out.trans (HB4.out.mono HBe.out.size)).alloc (Kv HBe.out.size HB4.out.size) _)⟩
        | true =>
          have q1 : Op.bytesLess x.1.toList to.toList = true := hto
          have HD2 := Hj (HD.out.2 hto)
          clear hto
          have hbase : w.heap.size ≤ wr.heap.size := HBe.out.size
          go_wp2_with (first
            | (go_at_call 100; refine HAt.out.mono ?_; rintro e w4 ⟨rfl, hb4⟩; have HB4 := Hj hb4; clear hb4)
            | (at_builtin; obtain ⟨w5, hw5⟩ : ∃ W, W = w4.alloc (.cells #[.int .i64 x.2.kind, .string x.2.space, .string x.2.name, .int .i64 x.2.ver, .slice x.2.A x.2.n x.2.c] 26) := ⟨_, rfl⟩; have hz : w4.heap.size + 1 = w5.heap.size := (by rw [hw5]; simp); rw [← hw5]; (try rw [hz]); have HB5 : Hid (Below wr.heap.size wr w5) := Hj (by rw [hw5]; exact HB4.out.alloc HB4.out.size _); clear hz hw5; refine wpList_append_t rfl (.tmp 37) (.tmp 39) rfl (OT.alloc (OwnS.below HO.out HB5.out) (.cells #[.string x.1] 9)) rfl (Src.text w5 w5.heap.size x.1 1 rfl) rfl ?_ ?_ ?_; rotate_right; intro v1 w1 hown1 hgr1; replace hown1 := Hj hown1; replace hgr1 := Hj hgr1))
          case refine_1 => rw [Hlj.out]; simp only [List.length_cons, List.length_nil]; omega
          case refine_2 => rw [World.size_alloc]; have h1 := HBe.out.size; have h2 := HB5.out.size; omega
          go_roundw
          case rel =>
            have hB1 : Below w.heap.size w (w5.alloc (.cells #[.string x.1] 9)) := (HBe.out.trans (HB5.out.mono HBe.out.size)).alloc (Kv HBe.out.size HB5.out.size) _
            exact ⟨j + 1, i' + 1, Hj (by have := Hi.out; omega), HD2.out.1, by go_num, .inr (by have := Hm.out; omega), by rw [HD2.out.2]; exact hown1.out, below_append_t hB1 hgr1.out (OT.alloc (OwnS.below HO.out HB5.out) _) Kj hB1.size⟩
          case measure => simp [intOf]; omega
    · have q0 : decide ((j : Int) < most) = false := decide_eq_false hm
      have HJ : Hid (((span klt k to l).map fun e => e.1).take j = btw klt k to most l) := Hj (by
        unfold btw
        rcases hjm with rfl | h
        · rw [show most.toNat = 0 by omega]
        · rw [show most.toNat = j by omega])
      clear hm hjm
      go_wp2
      go_ret
      exact ⟨_, rfl, by rw [← HJ.out]; exact HO.out, HBe.out⟩
end Go.Proofs.YtfmagnpmjlppiaaGreatDoor.SO
