/- mac.Frame -/
import Derived.Test.YtlfeofakggkebaaDoorBytes
import Derived.Test.YtlfeofakggkebaaDoorMac
namespace Go.Proofs.YtlfeofakggkebaaDoor
open Go.RowKit

def be32 (n : Nat) : List UInt8 := [UInt8.ofNat (n / 16777216), UInt8.ofNat (n / 65536), UInt8.ofNat (n / 256), UInt8.ofNat n]
def frameP (p : List UInt8) : List UInt8 := be32 p.length ++ p
def frameB (word : List UInt8) (parts : List (List UInt8)) : List UInt8 :=
  UInt8.ofNat word.length :: word ++ [UInt8.ofNat parts.length] ++ parts.flatMap frameP

def wordBad (word : List UInt8) : Bool := word.isEmpty || decide (32 < word.length) || !plainB word
def partsBad (parts : List (List UInt8)) : Bool := decide (16 < parts.length) || parts.any tooLong

theorem flatMap_len {f : List UInt8 → List UInt8} {m : Nat} (l : List (List UInt8)) (k : Nat) (hk : l.length ≤ k) (h : ∀ p ∈ l, (f p).length ≤ m) : (l.flatMap f).length ≤ k * m := by
  induction l generalizing k with
  | nil => simp
  | cons x l ih =>
    have h1 := h x (by simp)
    have h2 := ih (k - 1) (by simp at hk; omega) fun p hp => h p (by simp [hp])
    simp only [List.flatMap_cons, List.length_append]
    have h3 : k = k - 1 + 1 := by simp at hk; omega
    rw [h3, Nat.add_mul]
    omega

set_option maxRecDepth 100000 in
theorem Frame_ok (s : ByteArray) (A : Option Addr) (n c : Nat) (ls : List (List UInt8)) (w : World) (hl : RBL w A n ls)
    (h1 : wordBad s.data.toList = false) (h2 : partsBad ls = false) :
    Calls Tryd.prog 91 #[.string s, .slice A n c] w fun e w' => ∃ v, e = .returned (.tuple #[v, .nilIface]) ∧ OB w' w.heap.size v (frameB s.data.toList ls) ∧ Below w.heap.size w w' := by
  have hsz : s.data.toList.length = s.size := by simp
  simp only [wordBad, Bool.or_eq_false_iff, decide_eq_false_iff_not, Bool.not_eq_false'] at h1
  obtain ⟨⟨g1, g2⟩, g3⟩ := h1
  simp only [partsBad, Bool.or_eq_false_iff, decide_eq_false_iff_not] at h2
  obtain ⟨g4, g5⟩ := h2
  have hn := hl.1
  rw [hn] at g4
  rw [hsz] at g2
  have hsx : s.size ≤ maxLen := by unfold maxLen; omega
  have hnx : n ≤ maxLen := by unfold maxLen; omega
  have g1' : s.toList.isEmpty = false := by rw [Lib.toList_data]; exact g1
  clear g1
  have Hn := Lib.hid hn
  have Hsz := Lib.hid hsz
  clear hn hsz
  have hs32 : decide (32 < (s.size : Int)) = false := decide_eq_false (by omega)
  have hn16 : decide (16 < (n : Int)) = false := decide_eq_false (by omega)
  have H1 := Lib.hid (OB.lit w w.heap.size (Nat.le_refl _) [UInt8.ofNat s.size] 1 rfl (by simp [maxLen]))
  rw [show (bcells [UInt8.ofNat s.size]).toArray = #[Value.int .u8 (s.size : Int)] by
    simp [bcells, Nat.mod_eq_of_lt (show s.size < 256 by omega)]] at H1
  have HC1 := Lib.hid (show [UInt8.ofNat s.size].length + s.data.toList.length ≤ 140737488355328 by rw [Hsz.out]; simp; omega)
  go_enter Tryd.func91, Tryd.ntmps91
  go_wp2_with (first
    | (go_at_call 117; refine (plain_any _ _ (by assumption)).mono ?_; rintro e w' ⟨rfl, rfl⟩)
    | (go_at_call 118; refine (ContainsFunc_any _ _ _ _ ls (by assumption) (by assumption)).mono ?_; rintro e w' ⟨rfl, rfl⟩)
    | (at_builtin; refine wpList_append_b rfl (.tmp 36) (.tmp 37) 9 rfl H1.out rfl (Src.ofString _ Tryd.underlying9 s) rfl HC1.out (by simp) ?_; intro v1 w1 hown1 hgr1 hat1)
    | (at_builtin; refine wpList_append_b rfl (.tmp 39) (.tmp 43) 22 rfl (OB.alloc hown1 _) rfl (Src.lit w1 _ [UInt8.ofNat n] ?_ 1 1 rfl) rfl ?_ ?_ ?_; rotate_right; intro v2 w2 hown2 hgr2 hat2)
    | fail)
  case refine_1 => simp [bcells, Nat.mod_eq_of_lt (show n < 256 by omega)]
  case refine_2 => simp; omega
  case refine_3 => have := hgr1.size; simp at this ⊢; omega
  have HB2 : Below w.heap.size w w2 := by
    refine below_append (base := w.heap.size) ((below_append (base := w.heap.size) ((Below.refl _ _).alloc (Nat.le_refl _) _) hgr1 H1.out (Nat.le_refl _) (by simp)).alloc (by have := hgr1.size; simp at this ⊢; omega) _) hgr2 (OB.alloc hown1 _) (Nat.le_refl _) (by have := hgr1.size; simp at this ⊢; omega)
  have hown2' : OB w2 w.heap.size v2 (UInt8.ofNat s.size :: s.data.toList ++ [UInt8.ofNat n]) := by simpa using hown2
  replace g5 := Lib.hid g5
  clear hown2 hgr1 hat1 hown1 hat2 hgr2 H1 HC1 g3 hs32 hn16 g1'
  go_loopw [6, 47] (fun v i wr => ∃ k : Nat, k ≤ n ∧ i = .int .i64 k ∧ OB wr w.heap.size v (UInt8.ofNat s.size :: s.data.toList ++ [UInt8.ofNat n] ++ (ls.take k).flatMap frameP) ∧ Below w.heap.size w wr) (fun _ i _ => n - (intOf i).toNat)
  case atStart => exact ⟨0, Nat.zero_le _, rfl, by simpa using hown2', HB2⟩
  case round =>
    obtain ⟨k, hk, rfl, hown, hbel⟩ := hrel
    by_cases hlt : k < n
    · obtain ⟨b, o, rfl, hb⟩ := hl.2 (by omega)
      obtain ⟨v, c1, hv⟩ := hb k hlt
      have hpl : (ls.getD k []).length ≤ 65536 := by
        have := List.any_eq_false.1 g5.out (ls.getD k []) (by
          have := Hn.out
          rw [List.getD_eq_getElem?_getD, List.getElem?_eq_getElem (by omega)]
          exact List.getElem_mem _)
        simpa [tooLong] using this
      have HT := Lib.hid (show (ls.take (k + 1)).flatMap frameP = (ls.take k).flatMap frameP ++ (be32 (ls.getD k []).length ++ ls.getD k []) by
        have := Hn.out
        rw [List.take_succ_eq_append_getElem (by omega), List.flatMap_append]
        simp [frameP, show k < ls.length by omega])
      have HL := Lib.hid (show ((ls.take k).flatMap frameP).length ≤ k * 65540 from flatMap_len _ k (by have := Hn.out; simp; omega) fun p hp => by
        have := List.any_eq_false.1 g5.out p (List.mem_of_mem_take hp)
        simp [tooLong] at this
        simp [frameP, be32]; omega)
      generalize ls.getD k [] = p at *
      obtain ⟨A', c', rfl, hc1, hc2, hrb⟩ := hv
      replace c1 := Keeps.of_below hbel _ _ c1
      clear hb hl hown2' HB2
      have k0 : (0 : Int) ≤ (k : Int) := by omega
      have k1 : (k : Int) < (n : Int) := by omega
      go_wp2_with (first
        | (at_builtin; refine wpList_append_b rfl (.tmp 54) (.tmp 66) 22 rfl (OB.alloc hown _) rfl (Src.lit wr _ (be32 p.length) ?_ 4 4 rfl) rfl ?_ ?_ ?_; rotate_right; intro v1 w1 hown1 hgr1 hat1)
        | (at_builtin; refine wpList_append_b rfl (.tmp 68) (.tmp 69) 22 rfl hown1 rfl (RB.src Tryd.underlying22 (l := p) ?_) rfl ?_ ?_ ?_; rotate_right; intro v2 w2 hown2 hgr2 hat2))
      case refine_1 =>
        have hB1 : Below w.heap.size w w1 := below_append (hbel.alloc hbel.size _) hgr1 (OB.alloc hown _) (Nat.le_refl _) (hbel.alloc hbel.size _).size
        exact hrb.keep (Keeps.of_below hB1)
      case refine_2 => have hsz := Hsz.out; have hL := HL.out; simp only [List.length_append, List.length_cons, List.length_nil, be32, hsz]; omega
      case refine_3 => exact (below_append (hbel.alloc hbel.size _) hgr1 (OB.alloc hown _) (Nat.le_refl _) (hbel.alloc hbel.size _).size).size
      case refine_1 => simp [bcells, be32]; omega
      case refine_2 => have hsz := Hsz.out; have hL := HL.out; simp only [List.length_append, List.length_cons, List.length_nil, be32, hsz]; omega
      case refine_3 => exact (hbel.alloc hbel.size _).size
      have hB1 : Below w.heap.size w w1 := below_append (hbel.alloc hbel.size _) hgr1 (OB.alloc hown _) (Nat.le_refl _) (hbel.alloc hbel.size _).size
      refine ⟨⟨k + 1, by omega, by go_num, ?_, below_append hB1 hgr2 hown1 (Nat.le_refl _) hB1.size⟩, by simp [intOf]; omega⟩
      rw [HT.out]
      simpa using hown2
    · obtain rfl : k = n := by omega
      rw [List.take_of_length_le (by have := Hn.out; omega)] at hown
      clear hown2' HB2 hl
      go_wp2
      go_ret2
      refine ⟨_, rfl, ?_, hbel⟩
      unfold frameB
      rw [Hsz.out, Hn.out]
      exact hown

theorem Frame_text (s : ByteArray) (A : Option Addr) (n c : Nat) (w : World) (hs : s.size ≤ maxLen) (v : Value)
    (hv : w.cell? ⟨7, 0, none⟩ = some v) (h1 : wordBad s.data.toList = true) :
    Calls Tryd.prog 91 #[.string s, .slice A n c] w fun e w' => e = .returned (.tuple #[.slice none 0 0, v]) ∧ ∃ k, w' = w.drewN k := by
  have hsz : s.data.toList.length = s.size := by simp
  by_cases g1 : s.data.toList.isEmpty = true
  · have g1' : s.toList.isEmpty = true := by rw [Lib.toList_data]; exact g1
    clear g1 h1 hsz
    go_enter Tryd.func91, Tryd.ntmps91
    go_wp2_with fail
    go_quiet (fail)
    go_wp2
    go_ret2
    exact ⟨rfl, _, rfl⟩
  have g1' : s.toList.isEmpty = false := by rw [Lib.toList_data]; simpa using g1
  by_cases g2 : 32 < s.size
  · have hs32 : decide (32 < (s.size : Int)) = true := decide_eq_true (by omega)
    clear g1 h1 hsz
    go_enter Tryd.func91, Tryd.ntmps91
    go_wp2_with fail
    go_quiet (fail)
    go_wp2
    go_ret2
    exact ⟨rfl, _, rfl⟩
  · have hs32 : decide (32 < (s.size : Int)) = false := decide_eq_false (by omega)
    have g3 : plainB s.data.toList = false := by
      simp [wordBad, hsz] at h1
      rcases h1 with (h1 | h1) | h1
      · rw [h1] at g1; simp at g1
      · omega
      · exact h1
    clear g1 h1 hsz
    go_enter Tryd.func91, Tryd.ntmps91
    go_wp2_with (go_at_call 117; refine (plain_any _ _ (by assumption)).mono ?_; rintro e w' ⟨rfl, rfl⟩)
    go_quiet (fail)
    go_wp2
    go_ret2
    exact ⟨rfl, _, rfl⟩

theorem Frame_long (s : ByteArray) (A : Option Addr) (n c : Nat) (ls : List (List UInt8)) (w : World) (hn : n ≤ maxLen) (hl : RBL w A n ls) (v : Value)
    (hv : w.cell? ⟨1, 0, none⟩ = some v) (h1 : wordBad s.data.toList = false) (h2 : partsBad ls = true) :
    Calls Tryd.prog 91 #[.string s, .slice A n c] w fun e w' => e = .returned (.tuple #[.slice none 0 0, v]) ∧ ∃ k, w' = w.drewN k := by
  have hsz : s.data.toList.length = s.size := by simp
  simp only [wordBad, Bool.or_eq_false_iff, decide_eq_false_iff_not, Bool.not_eq_false'] at h1
  obtain ⟨⟨g1, g2⟩, g3⟩ := h1
  rw [hsz] at g2
  have hsx : s.size ≤ maxLen := by unfold maxLen; omega
  have g1' : s.toList.isEmpty = false := by rw [Lib.toList_data]; exact g1
  have hs32 : decide (32 < (s.size : Int)) = false := decide_eq_false (by omega)
  have Hn := Lib.hid hl.1
  clear g1 hsz
  by_cases g4 : 16 < n
  · have hn16 : decide (16 < (n : Int)) = true := decide_eq_true (by omega)
    clear h2
    go_enter Tryd.func91, Tryd.ntmps91
    go_wp2_with (go_at_call 117; refine (plain_any _ _ (by assumption)).mono ?_; rintro e w' ⟨rfl, rfl⟩)
    go_quiet (fail)
    go_wp2
    go_ret2
    exact ⟨rfl, _, rfl⟩
  · have hn16 : decide (16 < (n : Int)) = false := decide_eq_false (by omega)
    have g5 : ls.any tooLong = true := by
      simp only [partsBad, Bool.or_eq_true, decide_eq_true_eq, Hn.out] at h2
      rcases h2 with h2 | h2
      · omega
      · exact h2
    clear h2
    go_enter Tryd.func91, Tryd.ntmps91
    go_wp2_with (first
      | (go_at_call 117; refine (plain_any _ _ (by assumption)).mono ?_; rintro e w' ⟨rfl, rfl⟩)
      | (go_at_call 118; refine (ContainsFunc_any _ _ _ _ ls (by assumption) (by assumption)).mono ?_; rintro e w' ⟨rfl, rfl⟩))
    go_quiet (fail)
    go_wp2
    go_ret2
    exact ⟨rfl, _, rfl⟩

/-- The listed errors' cells hold errors. -/
structure TextErrs (w : World) (t l : Value) : Prop where
  text : w.cell? ⟨7, 0, none⟩ = some t
  long : w.cell? ⟨1, 0, none⟩ = some l
theorem TextErrs.keep {w w' : World} {t l : Value} (h : TextErrs w t l) (k : Keeps w w') : TextErrs w' t l := ⟨k _ _ h.text, k _ _ h.long⟩

def frameBad (word : List UInt8) (parts : List (List UInt8)) : Bool := wordBad word || partsBad parts

theorem Frame_good (s : ByteArray) (A : Option Addr) (n c : Nat) (ls : List (List UInt8)) (w : World) (hl : RBL w A n ls) (h : frameBad s.data.toList ls = false) :
    Calls Tryd.prog 91 #[.string s, .slice A n c] w fun e w' => ∃ v, e = .returned (.tuple #[v, .nilIface]) ∧ OB w' w.heap.size v (frameB s.data.toList ls) ∧ Below w.heap.size w w' := by
  simp only [frameBad, Bool.or_eq_false_iff] at h
  exact Frame_ok s A n c ls w hl h.1 h.2

theorem Frame_bad (s : ByteArray) (A : Option Addr) (n c : Nat) (ls : List (List UInt8)) (w : World) (hl : RBL w A n ls) (hs : s.size ≤ maxLen) (hn : n ≤ maxLen) {t l : Value} (he : TextErrs w t l)
    (h : frameBad s.data.toList ls = true) :
    Calls Tryd.prog 91 #[.string s, .slice A n c] w fun e w' => e = .returned (.tuple #[.slice none 0 0, if wordBad s.data.toList then t else l]) ∧ Below w.heap.size w w' := by
  by_cases hw : wordBad s.data.toList = true
  · refine (Frame_text s A n c w hs t he.text hw).mono ?_
    rintro e w' ⟨rfl, k, rfl⟩
    exact ⟨by simp [hw], below_drewN (Below.refl _ _) k⟩
  · have hw' : wordBad s.data.toList = false := by simpa using hw
    have hp : partsBad ls = true := by simpa [frameBad, hw'] using h
    refine (Frame_long s A n c ls w hn hl l he.long hw' hp).mono ?_
    rintro e w' ⟨rfl, k, rfl⟩
    exact ⟨by simp [hw'], below_drewN (Below.refl _ _) k⟩
end Go.Proofs.YtlfeofakggkebaaDoor
