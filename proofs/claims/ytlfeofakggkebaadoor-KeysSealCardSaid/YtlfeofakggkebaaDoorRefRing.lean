/- The reference's ring (bullaref10): find, Has, in, asked. -/
import Derived.Test.YtlfeofakggkebaaDoorAlive10
import Derived.Test.YtlfeofakggkebaaDoorShelf
import Derived.Laws.StructEq
import Derived.Test.YtlfeofakggkebaaDoorRefFrm
import Derived.Deep.RegionLaw
namespace Go.Proofs.YtlfeofakggkebaaDoor
open Go.RowKit Go.Instr

structure RK where
  id : ByteArray
  A : Option Addr
  c : Nat
  key : List UInt8
instance : Inhabited RK := ⟨⟨⟨#[]⟩, none, 0, []⟩⟩
def RK.v (k : RK) : Value := .slice k.A k.key.length k.c
structure RLn where
  id : ByteArray
  dom : ByteArray
  msg : ByteArray
instance : Inhabited RLn := ⟨⟨⟨#[]⟩, ⟨#[]⟩, ⟨#[]⟩⟩⟩
def kCellsR (l : List RK) : List Value := l.flatMap fun k => [.string k.id, k.v]
def lCellsR (l : List RLn) : List Value := l.flatMap fun x => [.string x.id, .string x.dom, .string x.msg]
theorem kCellsR_get : ∀ (l : List RK) (i : Nat), i < l.length → (kCellsR l)[i * 2]? = some (.string (l.getD i default).id) ∧ (kCellsR l)[i * 2 + 1]? = some (l.getD i default).v
  | [], _, h => absurd h (by simp)
  | k :: l, 0, _ => ⟨rfl, rfl⟩
  | k :: l, i + 1, h => by
    have ih := kCellsR_get l i (by simpa using h)
    have e1 : (i + 1) * 2 = i * 2 + 1 + 1 := by omega
    have e2 : kCellsR (k :: l) = .string k.id :: k.v :: kCellsR l := rfl
    rw [e1, e2]
    simpa using ih
theorem lCellsR_get : ∀ (l : List RLn) (i : Nat), i < l.length → (lCellsR l)[i * 3]? = some (.string (l.getD i default).id) ∧ (lCellsR l)[i * 3 + 1]? = some (.string (l.getD i default).dom) ∧ (lCellsR l)[i * 3 + 2]? = some (.string (l.getD i default).msg)
  | [], _, h => absurd h (by simp)
  | k :: l, 0, _ => ⟨rfl, rfl, rfl⟩
  | k :: l, i + 1, h => by
    have ih := lCellsR_get l i (by simpa using h)
    have e1 : (i + 1) * 3 = i * 3 + 1 + 1 + 1 := by omega
    have e2 : lCellsR (k :: l) = .string k.id :: .string k.dom :: .string k.msg :: lCellsR l := rfl
    rw [e1, e2]
    simpa using ih
theorem kCellsR_length (l : List RK) : (kCellsR l).length = l.length * 2 := by
  induction l with
  | nil => rfl
  | cons k l ih =>
    have e2 : kCellsR (k :: l) = .string k.id :: k.v :: kCellsR l := rfl
    rw [e2]; simp [ih]; omega
theorem lCellsR_length (l : List RLn) : (lCellsR l).length = l.length * 3 := by
  induction l with
  | nil => rfl
  | cons k l ih =>
    have e2 : lCellsR (k :: l) = .string k.id :: .string k.dom :: .string k.msg :: lCellsR l := rfl
    rw [e2]; simp [ih]; omega
theorem kCellsR_one (l : List RK) : ∀ u ∈ kCellsR l, u.oneCell' = true := by
  intro u hu
  obtain ⟨k, _, hk⟩ := List.mem_flatMap.1 hu
  simp at hk
  rcases hk with rfl | rfl <;> rfl
theorem lCellsR_one (l : List RLn) : ∀ u ∈ lCellsR l, u.oneCell' = true := by
  intro u hu
  obtain ⟨k, _, hk⟩ := List.mem_flatMap.1 hu
  simp at hk
  rcases hk with rfl | rfl | rfl <;> rfl

/-- A ring of the reference's that a call made. -/
structure RR (w0 w : World) (r : Nat) (ks : List RK) (bk : List RLn) : Prop where
  rows : ∃ vk vb, w.heap[r]? = some (.cells #[vk, vb] 55 (0, 0)) ∧ OwnS w w0.heap.size 126 2 vk ks.length (kCellsR ks) ∧ OwnS w w0.heap.size 129 3 vb bk.length (lCellsR bk)
  low : w0.heap.size ≤ r
  keys : ∀ k ∈ ks, RB w k.A k.key.length k.key ∧ k.key.length ≤ k.c ∧ k.c ≤ maxLen
  bel : Below w0.heap.size w0 w
section
variable {w0 w w' : World} {r : Nat} {ks : List RK} {bk : List RLn}
theorem RR.lt (h : RR w0 w r ks bk) : r < w.heap.size := let ⟨_, _, h, _⟩ := h.rows; (Array.getElem?_eq_some_iff.1 h).1
theorem RR.below (h : RR w0 w r ks bk) (hb : Below w.heap.size w w') : RR w0 w' r ks bk := by
  obtain ⟨vk, vb, h1, h2, h3⟩ := h.rows
  exact ⟨⟨vk, vb, (hb.block r h.lt).trans h1, h2.below hb, h3.below hb⟩, h.low, fun k hk => ⟨(h.keys k hk).1.keep (Keeps.of_below hb), (h.keys k hk).2⟩, h.bel.trans (hb.mono h.bel.size)⟩

def findR (id : ByteArray) : List RK → Option RK
  | [] => none
  | k :: l => if k.id = id then some k else findR id l
def FindPost (w : World) (o : Option RK) (e : Ending) (w' : World) : Prop :=
  e = .returned (match o with | some k => .tuple #[k.v, .bool true] | none => .tuple #[.slice none 0 0, .bool false]) ∧ Below w.heap.size w w'
theorem findR_skip (id : ByteArray) : ∀ (l : List RK) (i : Nat), i ≤ l.length → (∀ j, j < i → (l.getD j default).id ≠ id) → findR id l = findR id (l.drop i)
  | _, 0, _, _ => rfl
  | [], i + 1, h, _ => by simp at h
  | k :: l, i + 1, h, hn => by
    have e : findR id (k :: l) = findR id l := if_neg (hn 0 (by omega))
    rw [e, findR_skip id l i (by simpa using h) fun j hj => hn (j + 1) (by omega)]
    rfl
theorem eq_of_beqBytes {a b : ByteArray} (h : (a.toList == b.toList) = true) : a = b := bytes_inj (beq_iff_eq.1 h)

set_option maxHeartbeats 1000000 in
set_option maxRecDepth 100000 in
theorem find_any (hS : RR w0 w r ks bk) (id : ByteArray) (hn : ks.length ≤ 1000000) :
    Calls Tryd.prog 61 #[.pointer (some ⟨r, 0, none⟩), .string id] w (FindPost w (findR id ks)) := by
  have HS := Lib.hid hS
  obtain ⟨vk, vb, h1, h2, h3⟩ := hS.rows
  obtain ⟨A, c, rfl, hc, hm⟩ := h2.form
  have H2 := Lib.hid h2
  have g0 : w.cell? ⟨r, 0, none⟩ = some (.slice A ks.length c) := cell_of_row _ _ 0 _ _ _ h1
  unfold maxLen at hm
  clear h1 h2 h3 hS
  go_enter Tryd.func61, Tryd.ntmps61
  go_wp2
  clear g0
  go_loopw [13] (fun i wr => ∃ k : Nat, k ≤ ks.length ∧ i = .int .i64 (k : Int) ∧ (∀ j, j < k → (ks.getD j default).id ≠ id) ∧ Below w.heap.size w wr) (fun i _ => ks.length - (intOf i).toNat)
  case atStart => exact ⟨0, by omega, rfl, fun j hj => absurd hj (by omega), Below.refl _ _⟩
  case round =>
    obtain ⟨k, hk, rfl, hall, hbel⟩ := hrel
    have HA := Lib.hid hall
    have HB := Lib.hid hbel
    clear hall hbel
    by_cases hlt : k < ks.length
    · obtain ⟨gb, o, cap, hv, _, hgl, hcells⟩ := H2.out.cells (by rw [kCellsR_length]; omega)
      injection hv with hA _ _
      subst hA
      obtain ⟨e0, e1⟩ := kCellsR_get ks k hlt
      have c0 : wr.cell? ⟨gb, o + k * 2, none⟩ = some (.string (ks.getD k default).id) := Keeps.of_below HB.out _ _ (hcells _ _ e0)
      have c1 : wr.cell? ⟨gb, o + k * 2 + 1, none⟩ = some (ks.getD k default).v := Keeps.of_below HB.out _ _ (hcells _ _ e1)
      have HSk := Lib.hid (findR_skip id ks k (by omega) HA.out)
      have HD : Hid (ks.drop k = ks.getD k default :: ks.drop (k + 1)) := Lib.hid (by rw [List.drop_eq_getElem_cons hlt]; simp [hlt])
      clear e0 e1 hcells
      obtain ⟨x, hx⟩ : ∃ x, x = ks.getD k default := ⟨_, rfl⟩
      rw [← hx] at c0 c1 HD
      have HX := Lib.hid hx.symm
      clear hx
      unfold RK.v at c1
      have i0 : (0 : Int) ≤ (k : Int) := by omega
      have i1 : (k : Int) < (ks.length : Int) := by omega
      by_cases he : x.id = id
      · have hb : (x.id.toList == id.toList) = true := by rw [he]; exact beq_self_eq_true _
        have HF : Hid (findR id ks = some x) := Lib.hid (by rw [HSk.out, HD.out]; exact if_pos he)
        go_wp2
        go_ret2
        refine ⟨?_, HB.out.alloc HB.out.size _⟩
        rw [HF.out]
        rfl
      · have hb : (x.id.toList == id.toList) = false := by
          rw [beq_eq_false_iff_ne]
          exact fun e => he (bytes_inj e)
        go_wp2
        go_roundw
        case measure => simp [intOf]; omega
        case rel =>
          refine ⟨k + 1, by omega, by go_num, fun j hj => ?_, HB.out.alloc HB.out.size _⟩
          by_cases e : j = k
          · rw [e, HX.out]; exact he
          · exact HA.out j (by omega)
    · obtain rfl : k = ks.length := by omega
      have HF : Hid (findR id ks = none) := Lib.hid (by rw [findR_skip id ks _ (Nat.le_refl _) HA.out, List.drop_length]; rfl)
      go_wp2
      go_ret2
      refine ⟨?_, HB.out⟩
      rw [HF.out]
      rfl

/-! ### in -/
theorem fields_ln : Tryd.prog.underlying 129 = some (.struct (Tryd.prog.fieldsOf 129)) := by kernel_rfl
theorem stood_ln : Tryd.prog.stoodInHeld 129 = false := by kernel_rfl
theorem three_ln : (match (Tryd.prog.fieldsOf 129).toList with
    | [f0, f1, f2] => f0.name != "_" && f0.type == 9 && f0.offset == 0 && f1.name != "_" && f1.type == 9 && f1.offset == 1 && f2.name != "_" && f2.type == 9 && f2.offset == 2
    | _ => false) = true := by kernel_rfl
def lv (a b c : ByteArray) : Value := .agg #[.string a, .string b, .string c]
def eqLn (x l : RLn) : Bool := (x.id.toList == l.id.toList) && (x.dom.toList == l.dom.toList) && (x.msg.toList == l.msg.toList)
theorem run_equal_ln (w : World) (x l : RLn) : (Op.equal 129 (lv x.id x.dom x.msg) (lv l.id l.dom l.msg)).run Tryd.prog w = .ok (eqLn x l) w := by
  unfold Op.equal lv
  rw [show Op.maxDepth = 9999 + 1 from rfl, run_equalIn_struct w 9999 _ _ _ fields_ln stood_ln]
  have hs : Tryd.prog.underlying 9 = some .string := Tryd.underlying9
  have h := three_ln
  split at h
  · rename_i f0 f1 f2 hfs
    simp only [Bool.and_eq_true, bne_iff_ne, beq_iff_eq] at h
    obtain ⟨⟨⟨⟨⟨⟨⟨⟨n0, t0⟩, o0⟩, n1⟩, t1⟩, o1⟩, n2⟩, t2⟩, o2⟩ := h
    rw [hfs]
    have p0 : ∀ (a b c : ByteArray) W, (part f0.type #[.string a, .string b, .string c] f0.offset).run Tryd.prog W = .ok (.string a) W := by
      intro a b c W
      rw [t0, o0]
      kernel_rfl
    have p1 : ∀ (a b c : ByteArray) W, (part f1.type #[.string a, .string b, .string c] f1.offset).run Tryd.prog W = .ok (.string b) W := by
      intro a b c W
      rw [t1, o1]
      kernel_rfl
    have p2 : ∀ (a b c : ByteArray) W, (part f2.type #[.string a, .string b, .string c] f2.offset).run Tryd.prog W = .ok (.string c) W := by
      intro a b c W
      rw [t2, o2]
      kernel_rfl
    have e0 := fun W (x y : ByteArray) => run_equalIn_string (P := Tryd.prog) W 9998 9 x y hs
    rw [← t0] at e0
    have e1 := fun W (x y : ByteArray) => run_equalIn_string (P := Tryd.prog) W 9998 9 x y hs
    rw [← t1] at e1
    have e2 := fun W (x y : ByteArray) => run_equalIn_string (P := Tryd.prog) W 9998 9 x y hs
    rw [← t2] at e2
    simp [Op.eqFields, n0, n1, n2, p0, p1, p2, e0, e1, e2]
    unfold eqLn
    by_cases h1 : x.id.toList = l.id.toList <;> by_cases h2 : x.dom.toList = l.dom.toList <;> by_cases h3 : x.msg.toList = l.msg.toList <;> simp [h1, h2, h3]
  · cases h
theorem run_eql_ln (w : World) (x l : RLn) : (binOp .eql 129 (lv x.id x.dom x.msg) (lv l.id l.dom l.msg)).run Tryd.prog w = .ok (.bool (eqLn x l)) w := by
  have h := run_equal_ln w x l
  unfold lv at h ⊢
  simp only [binOp]
  simp [h]

set_option maxHeartbeats 1000000 in
set_option maxRecDepth 100000 in
theorem in_any (hS : RR w0 w r ks bk) (l : RLn) (hn : bk.length ≤ 1000000) :
    Calls Tryd.prog 64 #[.pointer (some ⟨r, 0, none⟩), .agg #[.string l.id, .string l.dom, .string l.msg]] w fun e w' => e = .returned (.bool (bk.any fun x => eqLn x l)) ∧ Below w.heap.size w w' := by
  have D0 := Lib.hid ((Below.refl w.heap.size w).alloc (Nat.le_refl _) (.cells #[.string l.id, .string l.dom, .string l.msg] 129))
  obtain ⟨vk, vb, h1, h2, h3⟩ := hS.rows
  obtain ⟨A, c, rfl, hc, hm⟩ := h3.form
  have H3 := Lib.hid h3
  have g0 : (w.alloc (.cells #[.string l.id, .string l.dom, .string l.msg] 129)).cell? ⟨r, 1, none⟩ = some (.slice A bk.length c) := Keeps.of_below D0.out _ _ (cell_of_row _ _ 1 _ _ _ h1)
  have HE := Lib.hid fun W x => run_eql_ln W x l
  have LR := Lib.hid (heap_alloc_new w (.cells #[.string l.id, .string l.dom, .string l.msg] 129))
  unfold maxLen at hm
  clear h1 h2 h3 hS
  go_enter Tryd.func64, Tryd.ntmps64
  go_wp2
  clear g0
  go_loopw [12] (fun i wr => ∃ k : Nat, k ≤ bk.length ∧ i = .int .i64 (k : Int) ∧ (bk.take k).any (fun x => eqLn x l) = false ∧ Below w.heap.size w wr ∧ Below (w.alloc (.cells #[.string l.id, .string l.dom, .string l.msg] 129)).heap.size (w.alloc (.cells #[.string l.id, .string l.dom, .string l.msg] 129)) wr) (fun i _ => bk.length - (intOf i).toNat)
  case atStart => exact ⟨0, by omega, rfl, by simp, D0.out, Below.refl _ _⟩
  case round =>
    obtain ⟨k, hk, rfl, hall, hbel, hbel2⟩ := hrel
    have HA := Lib.hid hall
    have HB := Lib.hid hbel
    have HB2 := Lib.hid hbel2
    have LR2 := (hbel2.block w.heap.size (by simp)).trans LR.out
    have l0 : wr.cell? ⟨w.heap.size, 0, none⟩ = some (.string l.id) := cell_of_row _ _ 0 _ _ _ LR2
    have l1 : wr.cell? ⟨w.heap.size, 1, none⟩ = some (.string l.dom) := cell_of_row _ _ 1 _ _ _ LR2
    have l2 : wr.cell? ⟨w.heap.size, 2, none⟩ = some (.string l.msg) := cell_of_row _ _ 2 _ _ _ LR2
    clear hall hbel hbel2 LR2
    by_cases hlt : k < bk.length
    · obtain ⟨gb, o, cap, hv, _, hgl, hcells⟩ := H3.out.cells (by rw [lCellsR_length]; omega)
      injection hv with hA _ _
      subst hA
      obtain ⟨e0, e1, e2⟩ := lCellsR_get bk k hlt
      have c0 : wr.cell? ⟨gb, o + k * 3, none⟩ = some (.string (bk.getD k default).id) := Keeps.of_below HB.out _ _ (hcells _ _ e0)
      have c1 : wr.cell? ⟨gb, o + k * 3 + 1, none⟩ = some (.string (bk.getD k default).dom) := Keeps.of_below HB.out _ _ (hcells _ _ e1)
      have c2 : wr.cell? ⟨gb, o + k * 3 + 2, none⟩ = some (.string (bk.getD k default).msg) := Keeps.of_below HB.out _ _ (hcells _ _ e2)
      have HT : Hid (bk.take (k + 1) = bk.take k ++ [bk.getD k default]) := Lib.hid (by rw [List.take_succ_eq_append_getElem hlt]; simp [hlt])
      have HM : Hid (bk.getD k default ∈ bk) := Lib.hid (by rw [List.getD_eq_getElem?_getD, List.getElem?_eq_getElem hlt]; exact List.getElem_mem _)
      clear e0 e1 e2 hcells
      generalize bk.getD k default = x at *
      have hq := fun W => HE.out W x
      unfold lv at hq
      have i0 : (0 : Int) ≤ (k : Int) := by omega
      have i1 : (k : Int) < (bk.length : Int) := by omega
      have Dx := Lib.hid (HB.out.alloc HB.out.size (.cells #[.string x.id, .string x.dom, .string x.msg] 129))
      have Dx2 := Lib.hid (HB2.out.alloc HB2.out.size (.cells #[.string x.id, .string x.dom, .string x.msg] 129))
      have Kx := Keeps.of_below ((Below.refl wr.heap.size wr).alloc (Nat.le_refl _) (.cells #[.string x.id, .string x.dom, .string x.msg] 129))
      have m0 := Kx _ _ l0
      have m1 := Kx _ _ l1
      have m2 := Kx _ _ l2
      clear Kx
      cases hx : eqLn x l with
      | true =>
        have HR : Hid (bk.any (fun x => eqLn x l) = true) := Lib.hid (List.any_eq_true.2 ⟨x, HM.out, hx⟩)
        go_wp2
        go_ret
        exact ⟨ret_bool HR.out.symm, Dx.out⟩
      | false =>
        have HX := Lib.hid hx
        go_wp2
        go_roundw
        case measure => simp [intOf]; omega
        case rel => exact ⟨k + 1, by omega, by go_num, by rw [HT.out, List.any_append, HA.out]; simp [HX.out], Dx.out, Dx2.out⟩
    · obtain rfl : k = bk.length := by omega
      have HF := HA.out
      rw [List.take_length] at HF
      replace HF := Lib.hid HF
      go_wp2
      go_ret
      exact ⟨ret_bool HF.out.symm, HB.out⟩
end
end Go.Proofs.YtlfeofakggkebaaDoor
namespace Go.Proofs.YtlfeofakggkebaaDoor
open Go.RowKit Go.Instr

section
variable {w0 w w' : World} {r : Nat} {ks : List RK} {bk : List RLn}

set_option maxHeartbeats 1000000 in
set_option maxRecDepth 100000 in
theorem RHas_yes (hS : RR w0 w r ks bk) (id : ByteArray) (k : RK) (hk : findR id ks = some k) (hn : ks.length ≤ 1000000) :
    Calls Tryd.prog 99 #[.pointer (some ⟨r, 0, none⟩), .string id] w fun e w' => e = .returned (.bool true) ∧ Below w.heap.size w w' := by
  have H := Lib.hid (find_any hS id hn)
  rw [hk] at H
  unfold FindPost RK.v at H
  clear hS hk hn
  go_enter Tryd.func99, Tryd.ntmps99
  go_wp2_with (go_at_call 61; refine H.out.mono ?_; rintro e w1 ⟨rfl, hb1⟩)
  go_ret
  exact ⟨rfl, hb1⟩

def msgRow (W : World) (A : Option Addr) (n c : Nat) : World := W.alloc (.cells #[.slice A n c] 22)
theorem RBL.one {W : World} {A : Option Addr} {n c : Nat} {m : List UInt8} (h : RB W A n m) (hnc : n ≤ c) (hc : c ≤ maxLen) : RBL (W.alloc (.cells #[.slice A n c] 22)) (some ⟨W.heap.size, 0, none⟩) 1 [m] :=
  RBL.lits (vs := [.slice A n c]) (heap_alloc_new W _) rfl (fun k hk => by
    obtain rfl : k = 0 := by omega
    exact ⟨_, rfl, SB.of_rb (h.keep (Keeps.of_below ((Below.refl W.heap.size W).alloc (Nat.le_refl _) _))) hnc hc⟩)

set_option maxHeartbeats 1000000 in
set_option maxRecDepth 100000 in
theorem asked_any (hS : RR w0 w r ks bk) (id s : ByteArray) (k : RK) (hk : findR id ks = some k) (hn : ks.length ≤ 1000000) (A : Option Addr) (n c : Nat) (m : List UInt8) (hm : RB w A n m) (hnc : n ≤ c) (hc : c ≤ maxLen) (hn2 : n ≤ 65536) (hs : s.size ≤ 1000000) :
    Calls Tryd.prog 63 #[.pointer (some ⟨r, 0, none⟩), .string id, .string s, .slice A n c] w fun e w' => e = .returned (.int .i64 (if wordBad s.data.toList = true then 8 else 0)) ∧ Below w.heap.size w w' := by
  have H := Lib.hid (RHas_yes hS id k hk hn)
  have HM := Lib.hid hm
  have HC := Lib.hid (And.intro hnc hc)
  have HS := Lib.hid hs
  have HL := Lib.hid hn2
  clear hS hk hn hm hnc hc hs hn2
  cases hw : wordBad s.data.toList with
  | true =>
    have HW := Lib.hid hw
    rw [if_pos rfl]
    clear hw
    go_enter Tryd.func63, Tryd.ntmps63
    go_wp2_with (first
      | (go_at_call 99; refine H.out.mono ?_; rintro e w1 ⟨rfl, hb1⟩; replace hb1 := Lib.hid hb1)
      | (go_at_call 19; refine (RefFrame_text s _ 1 1 _ HS.out HW.out).mono ?_; rintro e w2 ⟨rfl, rfl⟩))
    go_ret
    exact ⟨rfl, hb1.out.alloc hb1.out.size _⟩
  | false =>
    have HW : Hid (frameBad s.data.toList [m] = false) := Lib.hid (by
      unfold frameBad partsBad
      rw [hw]
      have := HM.out.1
      have := HL.out
      simp [tooLong]
      omega)
    rw [if_neg (by decide)]
    clear hw
    go_enter Tryd.func63, Tryd.ntmps63
    go_wp2_with (first
      | (go_at_call 99; refine H.out.mono ?_; rintro e w1 ⟨rfl, hb1⟩; replace hb1 := Lib.hid hb1)
      | (go_at_call 19; refine (RefFrame_good s _ 1 1 [m] _ (RBL.one (HM.out.keep (Keeps.of_below hb1.out)) HC.out.1 HC.out.2) HW.out).mono ?_; rintro e w2 ⟨v2, rfl, -, hb2⟩; have B1 := hb1.out.alloc hb1.out.size (.cells #[.slice A n c] 22); have B2 := Lib.hid (B1.trans (hb2.mono B1.size)); clear hb2 B1))
    go_ret
    exact ⟨rfl, B2.out⟩

theorem info_key : (Tryd.prog.info? 126).map (fun i => (i.zero, i.size, i.bytes)) = some (some (.agg #[.string ⟨#[]⟩, .slice none 0 0]), 2, 40) := by kernel_rfl
theorem info_line : (Tryd.prog.info? 129).map (fun i => (i.zero, i.size, i.bytes)) = some (some (.agg #[.string ⟨#[]⟩, .string ⟨#[]⟩, .string ⟨#[]⟩]), 3, 48) := by kernel_rfl
theorem info_partsR {T : TypeId} {z : Option Value} {s b : Nat} (h : (Tryd.prog.info? T).map (fun i => (i.zero, i.size, i.bytes)) = some (z, s, b)) : ∃ i, Tryd.prog.info? T = some i ∧ i.zero = z ∧ i.size = s ∧ i.bytes = b := by
  cases hi : Tryd.prog.info? T with
  | none => rw [hi] at h; cases h
  | some i =>
    rw [hi] at h
    injection h with h
    injection h with h1 h2
    injection h2 with h2 h3
    exact ⟨i, rfl, h1, h2, h3⟩
theorem Src.ofOwnS {P : Program} {w : World} {base size n : Nat} {e tx e' : TypeId} {v : Value} {xs : List Value} (hk : P.underlying tx = some (.slice e')) (h : OwnS w base e size v n xs) (h1 : ∀ u ∈ xs, u.oneCell' = true) : Src P size tx v n xs w := by
  rcases h.2 with ⟨rfl, rfl⟩ | ⟨g, o, cap, cur, rfl, _, hg, _, _, _, ht⟩
  · have : xs = [] := List.eq_nil_of_length_eq_zero (by simpa using h.1)
    subst this
    exact Src.ofNil w hk 0
  · refine Src.ofSlice w hk _ n cap xs h.1 (fun j u hu => ?_) h1
    rw [addr_add, cell_of_row w g (o + j) cur e (0, 0) hg]
    rw [← ht, List.getElem?_take] at hu
    split at hu
    · rw [List.getElem?_drop] at hu
      simpa using hu
    · cases hu
theorem OwnS.past {w w' : World} {base size n : Nat} {e : TypeId} {v : Value} {xs : List Value} (h : OwnS w base e size v n xs) {row : Option Nat} (hg : w.grownBy w' row) (hne : ∀ k, v.ownBlock = some k → row ≠ some k) : OwnS w' base e size v n xs :=
  h.kept (Fr.of_grown hg) fun k hk e => hne k hk e.symm
theorem OwnS.empty (w : World) (base : Nat) (hb : base ≤ w.heap.size) (e : TypeId) (size : Nat) : OwnS (w.alloc (.cells #[] e)) base e size (.slice (some ⟨w.heap.size, 0, none⟩) 0 0) 0 [] :=
  ⟨by simp, .inr ⟨w.heap.size, 0, 0, #[], rfl, hb, heap_alloc_new w _, Nat.le_refl _, by unfold maxLen; omega, by simp, by simp⟩⟩
theorem RB.setCell {w : World} {A : Option Addr} {n : Nat} {l : List UInt8} (h : RB w A n l) {p : Addr} {v u : Value} (hp : w.cell? p = some v) (hv : ∀ z : Int, v ≠ .int .u8 z) : RB (w.setCell p u) A n l :=
  ⟨h.1, fun hn => let ⟨b, o, e, hc⟩ := h.2 hn; ⟨b, o, e, fun k hk => by
    have hne : p ≠ ⟨b, o + k, none⟩ := by
      rintro rfl
      rw [hc k hk] at hp
      exact hv _ (Option.some.inj hp).symm
    rw [World.cell?_setCell_other _ _ _ _ hne]
    exact hc k hk⟩⟩
theorem kCellsR_append (l r : List RK) : kCellsR (l ++ r) = kCellsR l ++ kCellsR r := by simp [kCellsR]
theorem lCellsR_append (l r : List RLn) : lCellsR (l ++ r) = lCellsR l ++ lCellsR r := by simp [lCellsR]
theorem OwnS.type {w : World} {base size n : Nat} {e : TypeId} {v : Value} {xs : List Value} (h : OwnS w base e size v n xs) {k : Nat} (hk : v.ownBlock = some k) : ∃ cur, w.heap[k]? = some (.cells cur e (0, 0)) := by
  rcases h.2 with ⟨rfl, _⟩ | ⟨g, o, cap, cur, rfl, _, hg, _⟩
  · cases hk
  · injection hk with hk
    subst hk
    exact ⟨cur, hg⟩
theorem rowT_ne {w : World} {p q : Nat} {cs ds : Array Value} {T U : TypeId} {fr gr : Nat × Nat} (h : w.heap[p]? = some (.cells cs T fr)) (k : w.heap[q]? = some (.cells ds U gr)) (hne : T ≠ U) : p ≠ q := by
  rintro rfl
  rw [h] at k
  injection k with k
  injection k with _ k _
  exact hne k

set_option maxHeartbeats 2000000 in
set_option maxRecDepth 100000 in
theorem RAdd_new (hS : RR w0 w r ks bk) (A : Option Addr) (n c : Nat) (key : List UInt8) (hb : RB w A n key) (hn : n ≤ 1000) (hk : ks.length ≤ 1000) (hf : findR ⟨(idL key).toArray⟩ ks = none) :
    Calls Tryd.prog 22 #[.pointer (some ⟨r, 0, none⟩), .slice A n c] w fun e w' => e = .returned (.string ⟨(idL key).toArray⟩) ∧ ∃ k, k.id = ⟨(idL key).toArray⟩ ∧ k.key = key ∧ RR w0 w' r (ks ++ [k]) bk ∧ Fr (fun i => i = r) w w' := by
  have HID := Lib.hid (RefID_any A n c key w hb (by omega))
  obtain ⟨id, hid⟩ : ∃ id : ByteArray, id = ⟨(idL key).toArray⟩ := ⟨_, rfl⟩
  rw [← hid] at HID hf ⊢
  have HFI : Hid (∀ W, RR w0 W r ks bk → Calls Tryd.prog 61 #[.pointer (some ⟨r, 0, none⟩), .string id] W fun e w' => e = .returned (.tuple #[.slice none 0 0, .bool false]) ∧ Below W.heap.size W w') := Lib.hid fun W h => by
    have := find_any h id (by omega)
    rw [hf] at this
    exact this
  have HS := Lib.hid hS
  have HB := Lib.hid hb
  have HL := Lib.hid hb.1
  have HN := Lib.hid (And.intro hn hk)
  obtain ⟨ik, hik, hz0, hz1, hz2⟩ := info_partsR info_key
  have HI := Lib.hid (And.intro hik (And.intro hz0 (And.intro hz1 hz2)))
  clear hS hb hn hk hf hid hik hz0 hz1 hz2
  go_enter Tryd.func22, Tryd.ntmps22
  go_wp2_with (first
    | (go_at_call 60; refine HID.out.mono ?_; rintro e w1 ⟨rfl, hb1⟩; have HS1 := Lib.hid (HS.out.below hb1); have B1 := Lib.hid hb1; clear hb1)
    | (go_at_call 61; refine (HFI.out w1 HS1.out).mono ?_; rintro e w2 ⟨rfl, hb2⟩; have HS2 := Lib.hid (HS1.out.below hb2); have B2 := Lib.hid (B1.out.trans (hb2.mono B1.out.size)); clear hb2; obtain ⟨vk, vb, h1, h2, h3⟩ := HS2.out.rows; obtain ⟨Ak, ck, rfl, hck, hmk⟩ := h2.form; have H1 := Lib.hid h1; have H2 := Lib.hid h2; have H3 := Lib.hid h3; have D3 := Lib.hid ((Below.refl w2.heap.size w2).alloc (Nat.le_refl _) (.cells #[] 126)); have g0 : (w2.alloc (.cells #[] 126)).cell? ⟨r, 0, none⟩ = some (.slice Ak ks.length ck) := Keeps.of_below D3.out _ _ (cell_of_row _ _ 0 _ _ _ h1); clear h1 h2 h3)
    | (at_builtin; have E3 := OwnS.empty w2 w2.heap.size (Nat.le_refl _) 126 2; refine wpList_append_ownS rfl (.tmp 19) (.tmp 23) 52 52 rfl ik _ 40 Tryd.underlying52 HI.out.1 HI.out.2.1 HI.out.2.2.1 HI.out.2.2.2 rfl (by omega) rfl E3 _ ks.length (kCellsR ks) rfl (Src.ofOwnS Tryd.underlying52 (H2.out.below D3.out) (kCellsR_one ks)) (by have := HN.out.2; unfold maxLen; omega) (by have := HN.out.2; omega) D3.out.size ?_; intro v5 w5 hown5 hgr5 hat5; simp only [Nat.zero_add, List.nil_append] at hown5; have O5 := Lib.hid hown5; have D5 := Lib.hid (D3.out.grown hgr5 D3.out.size fun k hk => (OwnS.lt E3 k hk).1); clear hown5 hgr5 hat5 E3 g0)
    | (at_builtin; have L6 := OB.lit w5 w2.heap.size D5.out.size [] 0 rfl (by decide); have D6 := (Below.refl w5.heap.size w5).alloc (Nat.le_refl _) (.cells (bcells []).toArray 5); refine wpList_append_b rfl (.tmp 26) (.tmp 27) 22 rfl L6 rfl (RB.src Tryd.underlying22 (HB.out.keep (Keeps.of_below (B2.out.trans ((D5.out.trans (D6.mono D5.out.size)).mono B2.out.size))))) rfl (by have := HN.out.1; have := HL.out; simp; omega) (Nat.le_trans D5.out.size D6.size) ?_; intro v7 w7 hown7 hgr7 hat7; rw [List.nil_append] at hown7; have O7 := Lib.hid hown7; have D7 := Lib.hid ((D5.out.trans (D6.mono D5.out.size)).grown hgr7 (Nat.le_trans D5.out.size D6.size) fun k hk => (OwnS.lt L6 k hk).1); have O57 := Lib.hid ((O5.out.alloc (.cells (bcells []).toArray 5)).past hgr7 (fun k hk e => by have h1 := (OwnS.lt O5.out k hk).2; have e : some w5.heap.size = some k := e; injection e with e; omega)); clear hown7 hgr7 hat7 L6 D6; obtain ⟨A7, c7, rfl, hc7, hm7, hr7⟩ := O7.out.form; have HR7 := Lib.hid hr7; have HC7 := Lib.hid (And.intro hc7 hm7); clear hr7 hc7 hm7)
    | (at_builtin; have D8 := (Below.refl w7.heap.size w7).alloc (Nat.le_refl _) (.cells #[.string id, .slice A7 key.length c7] 126); have B8 := D7.out.trans (D8.mono D7.out.size); have S8 : Src Tryd.prog 2 52 (.slice (some ⟨w7.heap.size, 0, none⟩) 1 1) 1 (kCellsR [⟨id, A7, c7, key⟩]) (w7.alloc (.cells #[.string id, .slice A7 key.length c7] 126)) := Src.ofSlice _ Tryd.underlying52 _ 1 1 _ rfl (fun j u hu => World.news_of_block (cs := #[.string id, .slice A7 key.length c7]) (heap_alloc_new w7 _) j u hu) (kCellsR_one _); refine wpList_append_ownS rfl (.tmp 24) (.tmp 30) 52 52 rfl ik _ 40 Tryd.underlying52 HI.out.1 HI.out.2.1 HI.out.2.2.1 HI.out.2.2.2 rfl (by omega) rfl (O57.out.alloc _) _ 1 _ rfl S8 (by have := HN.out.2; unfold maxLen; omega) (by have := HN.out.2; omega) B8.size ?_; intro v9 w9 hown9 hgr9 hat9; rw [← kCellsR_append] at hown9; have O9 := Lib.hid hown9; have D9 := Lib.hid (B8.grown hgr9 B8.size fun k hk => (OwnS.lt O57.out k hk).1); have O79 := Lib.hid (OwnS.past (O7.out.alloc (.cells #[.string id, .slice A7 key.length c7] 126)) hgr9 (fun k hk e => by obtain ⟨c1, t1⟩ := OwnS.type (O57.out.alloc (.cells #[.string id, .slice A7 key.length c7] 126)) e; obtain ⟨c2, t2⟩ := OwnS.type (O7.out.alloc (.cells #[.string id, .slice A7 key.length c7] 126)) hk; exact rowT_ne t1 t2 (by decide) rfl)); clear hown9 hgr9 hat9 D8 B8 S8; obtain ⟨A9, c9, rfl, -, -⟩ := O9.out.form; have row9 := (D9.out.block r HS2.out.lt).trans H1.out; have g9 : w9.cell? ⟨r, 0, none⟩ = some (.slice Ak ks.length ck) := cell_of_row _ _ 0 _ _ _ row9; have f9 : w9.frozen? ⟨r, 0, none⟩ = false := frozen_of_row _ _ _ _ _ row9; have HRow9 := Lib.hid row9; have HG9 := Lib.hid g9; clear row9)
    | fail)
  go_ret
  have B9 := B2.out.trans (D9.out.mono B2.out.size)
  have hne : ∀ {base size n : Nat} {e : TypeId} {v : Value} {xs : List Value}, OwnS w9 base e size v n xs → e ≠ 55 → OwnS (w9.setCell ⟨r, 0, none⟩ (.slice A9 (ks.length + 1) c9)) base e size v n xs := fun h hT => OwnS.keepB h fun k hk => Below.heap_setCell _ _ _ _ (fun e => by
    obtain ⟨c1, t1⟩ := OwnS.type h hk
    exact rowT_ne t1 HRow9.out hT e)
  have low2 := HS2.out.bel.size
  refine ⟨rfl, ⟨id, A7, c7, key⟩, rfl, rfl, ⟨⟨_, vb, heap_setCell_same _ _ 0 _ _ _ HRow9.out, by rw [List.length_append]; exact (hne (OwnS.mono O9.out fun k hk => Nat.le_trans low2 (OwnS.lt O9.out k hk).1) (by decide)), hne (H3.out.below D9.out) (by decide)⟩, HS2.out.low, fun k hk => ?_, ?_⟩, ?_⟩
  · have kk : RB w9 k.A k.key.length k.key ∧ k.key.length ≤ k.c ∧ k.c ≤ maxLen := by
      rcases List.mem_append.1 hk with hk | hk
      · exact ⟨(HS2.out.keys k hk).1.keep (Keeps.of_below D9.out), (HS2.out.keys k hk).2⟩
      · rw [List.mem_singleton.1 hk]
        obtain ⟨A', c', e, h1, h2, h3⟩ := OB.form O79.out
        injection e with e1 e2 e3
        subst e1; subst e3
        exact ⟨h3, h1, h2⟩
    exact ⟨kk.1.setCell HG9.out (fun z e => by cases e), kk.2⟩
  · exact (HS2.out.bel.trans (D9.out.mono low2)).setCell (p := ⟨r, 0, none⟩) HS2.out.low _
  · exact (Fr.of_below (S := fun i => i = r) B9).setCell (p := ⟨r, 0, none⟩) (fun _ => rfl) _
end
end Go.Proofs.YtlfeofakggkebaaDoor
