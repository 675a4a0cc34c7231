/- The reference's Frame of layer 2. -/
import Derived.Test.YtlfeofakggkebaaDoorRefMac
import Derived.Test.YtlfeofakggkebaaDoorFrame
import Derived.Lib.ConvBytes
namespace Go.Proofs.YtlfeofakggkebaaDoor
open Go.RowKit

def wordC (c : UInt8) : Bool := !((decide (c.toNat < 97) || decide (122 < c.toNat)) && (decide (c.toNat < 48) || decide (57 < c.toNat)) && (c.toNat != 45))
theorem plainC_all : ((List.range 256).all fun n => plainC (UInt8.ofNat n) == wordC (UInt8.ofNat n)) = true := by decide +kernel
theorem plainC_eq (c : UInt8) : plainC c = wordC c := by
  have h := List.all_eq_true.1 plainC_all c.toNat (by rw [List.mem_range]; exact c.toNat_lt)
  rw [UInt8.ofNat_toNat] at h
  simpa using h

theorem below_bytesWorld (W : World) (e : TypeId) (s : ByteArray) : Below W.heap.size W (Lib.bytesWorld W e s) :=
  ⟨rfl, rfl, rfl, by rw [Lib.bytesWorld_size]; omega, fun k hk => Lib.bytesWorld_at_old W e s k hk⟩
theorem rb_bytesWorld (W : World) (e : TypeId) (s : ByteArray) : RB (Lib.bytesWorld W e s) (some ⟨W.heap.size, 0, none⟩) s.size s.data.toList :=
  ⟨by simp, fun _ => ⟨_, 0, rfl, fun k hk => by rw [Nat.zero_add]; exact Lib.bytesWorld_cell W e s k hk⟩⟩
theorem len_cell (k : Nat) (h : k < 256) : (bcells [UInt8.ofNat k]) = [Value.int .u8 (k : Int)] := by
  simp [bcells]; omega

set_option maxHeartbeats 4000000 in
set_option maxRecDepth 100000 in
theorem RefFrame_good (s : ByteArray) (A : Option Addr) (n c : Nat) (ls : List (List UInt8)) (w : World) (hl : RBL w A n ls) (hf : frameBad s.data.toList ls = false) :
    Calls Tryd.prog 19 #[.string s, .slice A n c] w fun e w' => ∃ v, e = .returned (.tuple #[v, .int .i64 0]) ∧ OB w' w.heap.size v (frameB s.data.toList ls) ∧ Below w.heap.size w w' := by
  have hsz : s.data.toList.length = s.size := by simp
  simp only [frameBad, Bool.or_eq_false_iff] at hf
  obtain ⟨h1, h2⟩ := hf
  simp only [wordBad, Bool.or_eq_false_iff, decide_eq_false_iff_not, Bool.not_eq_false'] at h1
  obtain ⟨⟨g1, g2⟩, g3⟩ := h1
  simp only [partsBad, Bool.or_eq_false_iff, decide_eq_false_iff_not] at h2
  obtain ⟨g4, g5⟩ := h2
  have hn := hl.1
  rw [hn] at g4
  rw [hsz] at g2
  have hpos : 1 ≤ s.size := by
    rcases Nat.eq_zero_or_pos s.size with h | h
    · rw [h] at hsz
      rw [List.eq_nil_of_length_eq_zero hsz] at g1
      simp at g1
    · omega
  have Hl := Lib.hid hl
  have Hn := Lib.hid hn
  have Hsz := Lib.hid hsz
  have Hall := Lib.hid g3
  have Hlong := Lib.hid g5
  clear hl hn hsz g1 g3 g5
  have k1 : decide ((s.size : Int) < 1) = false := decide_eq_false (by omega)
  have k2 : decide (32 < (s.size : Int)) = false := decide_eq_false (by omega)
  have k3 : decide (16 < (n : Int)) = false := decide_eq_false (by omega)
  have hs63 : s.size ≤ 9223372036854775807 := by omega
  go_enter Tryd.func19, Tryd.ntmps19
  go_wp2_with fail
  go_loop [6] (fun i => ∃ k : Nat, k ≤ s.size ∧ i = .int .i64 (k : Int)) (fun i => s.size - (intOf i).toNat)
  case atStart => exact ⟨0, by omega, rfl⟩
  case round =>
    obtain ⟨k, hk, rfl⟩ := hrel
    by_cases hlt : k < s.size
    · have hg := getD_data s k hlt
      have hp : wordC s[k] = true := by
        rw [← plainC_eq, ← hg]
        have := List.all_eq_true.1 Hall.out (s.data.toList.getD k 0) (by rw [List.getD_eq_getElem?_getD, List.getElem?_eq_getElem (by have := Hsz.out; omega)]; exact List.getElem_mem _)
        exact this
      clear hg
      unfold wordC at hp
      simp only [Bool.not_eq_true', Bool.and_eq_false_iff, Bool.or_eq_false_iff, decide_eq_false_iff_not, bne_eq_false_iff_eq] at hp
      by_cases h1 : s[k].toNat < 97
      · have q1 : decide ((s[k].toNat : Int) < 97) = true := decide_eq_true (by omega)
        by_cases h3 : s[k].toNat < 48
        · have q3 : decide ((s[k].toNat : Int) < 48) = true := decide_eq_true (by omega)
          have q5 : ((s[k].toNat : Int) != 45) = false := by rw [bne_eq_false_iff_eq]; omega
          clear hp
          go_wp2
          go_round
          case rel => exact ⟨k + 1, by omega, by go_num⟩
          case measure => simp [intOf]; omega
        · have q3 : decide ((s[k].toNat : Int) < 48) = false := decide_eq_false (by omega)
          have q4 : decide (57 < (s[k].toNat : Int)) = false := decide_eq_false (by omega)
          clear hp
          go_wp2
          go_round
          case rel => exact ⟨k + 1, by omega, by go_num⟩
          case measure => simp [intOf]; omega
      · have q1 : decide ((s[k].toNat : Int) < 97) = false := decide_eq_false (by omega)
        have q2 : decide (122 < (s[k].toNat : Int)) = false := decide_eq_false (by omega)
        clear hp
        go_wp2
        go_round
        case rel => exact ⟨k + 1, by omega, by go_num⟩
        case measure => simp [intOf]; omega
    · obtain rfl : k = s.size := by omega
      have hcs : ∀ W, (convert 9 22 (.string s)).run Tryd.prog W = .ok (.slice (some ⟨W.heap.size, 0, none⟩) s.size (grownCap W s.size 0 5)) (Lib.bytesWorld W 5 s) := fun W => Lib.run_convert_string_bytes W _ _ _ s Tryd.underlying9 Tryd.underlying22 Tryd.underlying5
      have H1 := Lib.hid (OB.lit w w.heap.size (Nat.le_refl _) [UInt8.ofNat s.size] 1 rfl (by simp [maxLen]))
      rw [show (bcells [UInt8.ofNat s.size]).toArray = #[Value.int .u8 (s.size : Int)] by rw [len_cell _ (by omega)]] at H1
      have H2 := Lib.hid (OB.below H1.out (below_bytesWorld _ 5 s))
      have Hb2 := Lib.hid (((Below.refl _ w).alloc (Nat.le_refl _) (.cells #[Value.int .u8 (s.size : Int)] 5)).trans ((below_bytesWorld _ 5 s).mono (by simp)))
      have H3 : Hid (RB (Lib.bytesWorld (w.alloc (.cells #[Value.int .u8 (s.size : Int)] 5)) 5 s) (some ⟨w.heap.size + 1, 0, none⟩) s.size s.data.toList) := by
        have h := rb_bytesWorld (w.alloc (.cells #[Value.int .u8 (s.size : Int)] 5)) 5 s
        rwa [show (w.alloc (.cells #[Value.int .u8 (s.size : Int)] 5)).heap.size = w.heap.size + 1 by simp] at h
      go_wp2_with (first
        | (at_builtin; (refine wpList_append_b rfl (.tmp 54) (.tmp 56) 22 rfl H2.out rfl (RB.src Tryd.underlying22 H3.out) rfl (by have := Hsz.out; simp; omega) Hb2.out.size ?_; intro v1 w1 hown1 hgr1 hat1; have Hown1 := Lib.hid hown1; have Hb1 := Lib.hid (below_append (B := w.heap.size) Hb2.out hgr1 H2.out (Nat.le_refl _) Hb2.out.size); clear hown1 hgr1 hat1))
        | (at_builtin; refine wpList_append_b rfl (.tmp 58) (.tmp 62) 22 rfl (Hown1.out.alloc _) rfl (Src.lit w1 _ [UInt8.ofNat n] (by rw [len_cell n (by omega)]) 1 1 rfl) rfl (by have := Hsz.out; simp; omega) (by have := Hb1.out.size; simp; omega) ?_; intro v2 w2 hown2 hgr2 hat2; have Hb3 := Lib.hid (below_append (B := w.heap.size) (Hb1.out.alloc Hb1.out.size _) hgr2 (Hown1.out.alloc _) (Nat.le_refl _) (by have := Hb1.out.size; simp; omega)); have Hown2 := Lib.hid hown2; clear hown2 hgr2 hat2)
        | fail)
      obtain ⟨hd, hhd⟩ : ∃ hd, hd = [UInt8.ofNat s.size] ++ s.data.toList ++ [UInt8.ofNat n] := ⟨_, rfl⟩
      rw [← hhd] at Hown2
      have Hhd := Lib.hid hhd
      have Hhl : Hid (hd.length ≤ 34) := by show _ ≤ _; rw [hhd]; have := Hsz.out; simp; omega
      clear hhd H1 H2 H3 Hb2 Hown1 Hb1 hcs
      go_loopg [8, 66] n (fun k s8 s66 wr => ∃ (v : Value) (i : Nat), s8 = v ∧ s66 = .int .i64 (i : Int) ∧ i + k = n ∧ OB wr w.heap.size v (hd ++ (ls.take i).flatMap frameP) ∧ Below w.heap.size w wr)
      case atStart => exact ⟨_, 0, rfl, rfl, by omega, by simpa using Hown2.out, Hb3.out⟩
      case round =>
        obtain ⟨v, i, rfl, rfl, hik, hown, hbel⟩ := hrel
        have Hown := Lib.hid hown
        have Hbel := Lib.hid hbel
        clear hown hbel
        by_cases hi : i < n
        · obtain ⟨b, o, hA, hb⟩ := Hl.out.2 (by omega)
          subst hA
          obtain ⟨u, c1, A', c', hu, hc1, hc2, hrb⟩ := hb i hi
          subst hu
          have c2 := Keeps.of_below Hbel.out _ _ c1
          have hpl : (ls.getD i []).length ≤ 65536 := by
            have := List.any_eq_false.1 Hlong.out (ls.getD i []) (by
              have := Hn.out
              rw [List.getD_eq_getElem?_getD, List.getElem?_eq_getElem (by omega)]
              exact List.getElem_mem _)
            simpa [tooLong] using this
          have HT := Lib.hid (show (ls.take (i + 1)).flatMap frameP = (ls.take i).flatMap frameP ++ (be32 (ls.getD i []).length ++ ls.getD i []) by
            have := Hn.out
            rw [List.take_succ_eq_append_getElem (by omega), List.flatMap_append, List.getD_eq_getElem?_getD, List.getElem?_eq_getElem (by omega)]
            simp [frameP])
          have HLb := Lib.hid (show ((ls.take i).flatMap frameP).length ≤ 16 * 65540 from flatMap_len _ 16 (by rw [List.length_take]; omega) (fun q hq => by
            have := List.any_eq_false.1 Hlong.out q (List.mem_of_mem_take hq)
            simp [tooLong] at this
            simp [frameP, be32]; omega))
          have Hrb := Lib.hid hrb
          clear hb c1 hrb
          generalize ls.getD i [] = p at *
          generalize (ls.take i).flatMap frameP = F0 at *
          have kl : decide (65536 < (p.length : Int)) = false := decide_eq_false (by omega)
          have i0 : (0 : Int) ≤ (i : Int) := by omega
          have i1 : (i : Int) < (n : Int) := by omega
          have hbase := Hbel.out.size
          go_wp2_with (first
            | (at_builtin; refine wpList_append_b rfl (.tmp 75) (.tmp 90) 22 rfl (Hown.out.alloc _) rfl (Src.lit wr _ (be32 p.length) ?_ 4 4 rfl) rfl ?_ ?_ ?_; rotate_right; intro v3 w3 hown3 hgr3 hat3; have Hown3 := Lib.hid hown3; have Hb4 := Lib.hid (below_append (B := w.heap.size) (Hbel.out.alloc hbase _) hgr3 (Hown.out.alloc _) (Nat.le_refl _) (by simp; omega)); clear hown3 hgr3 hat3)
            | (at_builtin; refine wpList_append_b rfl (.tmp 92) (.tmp 93) 22 rfl Hown3.out rfl (RB.src Tryd.underlying22 (Hrb.out.keep (Keeps.of_below Hb4.out))) rfl ?_ Hb4.out.size ?_; rotate_right; intro v4 w4 hown4 hgr4 hat4)
            | fail)
          case refine_1 => have := Hhl.out; have := HLb.out; simp [be32]; omega
          case refine_1 => simp [bcells, be32]; omega
          case refine_2 => have := Hhl.out; have := HLb.out; simp [be32]; omega
          case refine_3 => first | omega | (simp; omega)
          go_roundg (gk - 1)
          case measure => omega
          case rel => exact ⟨_, i + 1, rfl, by go_num, by omega, by rw [HT.out, ← List.append_assoc, ← List.append_assoc]; exact hown4, below_append Hb4.out hgr4 Hown3.out (Nat.le_refl _) Hb4.out.size⟩
        · obtain rfl : i = n := by omega
          rw [List.take_of_length_le (by rw [Hn.out]; exact Nat.le_refl _)] at Hown
          go_wp2
          go_ret2
          refine ⟨_, rfl, ?_, Hbel.out⟩
          rw [frameB, Hsz.out, Hn.out]
          have e := Hhd.out
          simp only [List.singleton_append] at e
          rw [← e]
          exact Hown.out

set_option maxHeartbeats 4000000 in
set_option maxRecDepth 100000 in
theorem RefFrame_text (s : ByteArray) (A : Option Addr) (n c : Nat) (w : World) (hs : s.size ≤ 1000000) (h1 : wordBad s.data.toList = true) :
    Calls Tryd.prog 19 #[.string s, .slice A n c] w fun e w' => e = .returned (.tuple #[.slice none 0 0, .int .i64 8]) ∧ w' = w := by
  have hsz : s.data.toList.length = s.size := by simp
  have Hsz := Lib.hid hsz
  by_cases g1 : s.size < 1
  · have k1 : decide ((s.size : Int) < 1) = true := decide_eq_true (by omega)
    clear h1 hsz
    go_enter Tryd.func19, Tryd.ntmps19
    go_wp2
    go_ret2
    exact ⟨rfl, rfl⟩
  have k1 : decide ((s.size : Int) < 1) = false := decide_eq_false (by omega)
  by_cases g2 : 32 < s.size
  · have k2 : decide (32 < (s.size : Int)) = true := decide_eq_true (by omega)
    clear h1 hsz
    go_enter Tryd.func19, Tryd.ntmps19
    go_wp2
    go_ret2
    exact ⟨rfl, rfl⟩
  have k2 : decide (32 < (s.size : Int)) = false := decide_eq_false (by omega)
  have g3 : plainB s.data.toList = false := by
    have g1' : s.data.toList.isEmpty = false := by
      rw [List.isEmpty_eq_false_iff]
      intro e
      rw [e] at hsz
      simp at hsz
      omega
    have h32 : decide (32 < s.data.toList.length) = false := decide_eq_false (by omega)
    unfold wordBad at h1
    rw [g1', h32] at h1
    simpa using h1
  have Hbad := Lib.hid g3
  clear h1 hsz g3
  go_enter Tryd.func19, Tryd.ntmps19
  go_wp2_with fail
  go_loop [6] (fun i => ∃ k : Nat, k ≤ s.size ∧ i = .int .i64 (k : Int) ∧ ∀ j, j < k → plainC (s.data.toList.getD j 0) = true) (fun i => s.size - (intOf i).toNat)
  case atStart => exact ⟨0, by omega, rfl, fun j hj => absurd hj (by omega)⟩
  case round =>
    obtain ⟨k, hk, rfl, hall⟩ := hrel
    have Hall := Lib.hid hall
    clear hall
    by_cases hlt : k < s.size
    · have Hg := Lib.hid (getD_data s k hlt)
      have hnext : Hid (wordC s[k] = true → ∀ j, j < k + 1 → plainC (s.data.toList.getD j 0) = true) := fun hp j hj => by
        rcases Nat.lt_or_ge j k with h | h
        · exact Hall.out j h
        · obtain rfl : j = k := by omega
          rw [Hg.out, plainC_eq]
          exact hp
      by_cases hp : wordC s[k] = true
      · have Hnext := Lib.hid (hnext.out hp)
        unfold wordC at hp
        simp only [Bool.not_eq_true', Bool.and_eq_false_iff, Bool.or_eq_false_iff, decide_eq_false_iff_not, bne_eq_false_iff_eq] at hp
        by_cases h1 : s[k].toNat < 97
        · have q1 : decide ((s[k].toNat : Int) < 97) = true := decide_eq_true (by omega)
          by_cases h3 : s[k].toNat < 48
          · have q3 : decide ((s[k].toNat : Int) < 48) = true := decide_eq_true (by omega)
            have q5 : ((s[k].toNat : Int) != 45) = false := by rw [bne_eq_false_iff_eq]; omega
            clear hp
            go_wp2
            go_round
            case rel => exact ⟨k + 1, by omega, by go_num, Hnext.out⟩
            case measure => simp [intOf]; omega
          · have q3 : decide ((s[k].toNat : Int) < 48) = false := decide_eq_false (by omega)
            have q4 : decide (57 < (s[k].toNat : Int)) = false := decide_eq_false (by omega)
            clear hp
            go_wp2
            go_round
            case rel => exact ⟨k + 1, by omega, by go_num, Hnext.out⟩
            case measure => simp [intOf]; omega
        · have q1 : decide ((s[k].toNat : Int) < 97) = false := decide_eq_false (by omega)
          have q2 : decide (122 < (s[k].toNat : Int)) = false := decide_eq_false (by omega)
          clear hp
          go_wp2
          go_round
          case rel => exact ⟨k + 1, by omega, by go_num, Hnext.out⟩
          case measure => simp [intOf]; omega
      · have hp' : wordC s[k] = false := by simpa using hp
        clear hp hnext
        unfold wordC at hp'
        simp only [Bool.not_eq_false', Bool.and_eq_true, Bool.or_eq_true, decide_eq_true_eq, bne_iff_ne, ne_eq] at hp'
        have q5 : ((s[k].toNat : Int) != 45) = true := by rw [bne_iff_ne]; omega
        by_cases h1 : s[k].toNat < 97
        · have q1 : decide ((s[k].toNat : Int) < 97) = true := decide_eq_true (by omega)
          by_cases h3 : s[k].toNat < 48
          · have q3 : decide ((s[k].toNat : Int) < 48) = true := decide_eq_true (by omega)
            clear hp'
            go_wp2
            go_ret2
            exact ⟨rfl, rfl⟩
          · have q3 : decide ((s[k].toNat : Int) < 48) = false := decide_eq_false (by omega)
            have q4 : decide (57 < (s[k].toNat : Int)) = true := decide_eq_true (by omega)
            clear hp'
            go_wp2
            go_ret2
            exact ⟨rfl, rfl⟩
        · have q1 : decide ((s[k].toNat : Int) < 97) = false := decide_eq_false (by omega)
          have q2 : decide (122 < (s[k].toNat : Int)) = true := decide_eq_true (by omega)
          have q3 : decide ((s[k].toNat : Int) < 48) = false := decide_eq_false (by omega)
          have q4 : decide (57 < (s[k].toNat : Int)) = true := decide_eq_true (by omega)
          clear hp'
          go_wp2
          go_ret2
          exact ⟨rfl, rfl⟩
    · exfalso
      have : plainB s.data.toList = true := all_of_getD fun j hj => Hall.out j (by have := Hsz.out; omega)
      rw [Hbad.out] at this
      cases this
end Go.Proofs.YtlfeofakggkebaaDoor
