/- Layer 20 (store): a change's text. -/
import Derived.Test.YtfmagnpmjlppiaaGreatDoorDerR
import Derived.Test.YtfmagnpmjlppiaaGreatDoorOrdSO
import Derived.Lib.ConvBytes
namespace Go.Proofs.YtfmagnpmjlppiaaGreatDoor
open Go.RowKit

theorem below_bytesW (W : World) (e : TypeId) (s : ByteArray) : Below W.heap.size W (Lib.bytesWorld W e s) :=
 ⟨rfl, rfl, rfl, by rw [Lib.bytesWorld_size]; omega, fun k hk => Lib.bytesWorld_at_old W e s k hk⟩
theorem rb_bytesW (W : World) (e : TypeId) (s : ByteArray) : RB (Lib.bytesWorld W e s) (some ⟨W.heap.size, 0, none⟩) s.size s.data.toList :=
 ⟨by simp, fun _ => ⟨_, 0, rfl, fun k hk => by rw [Nat.zero_add]; exact Lib.bytesWorld_cell W e s k hk⟩⟩
/-- The elements of a change. -/
def evK (what kind rev : Nat) (space name data : List UInt8) : List (List UInt8) := [elemB 10 (intB what), elemB 10 (intB kind), elemB 4 space, elemB 4 name, elemB 2 (intB rev), elemB 4 data]
/-- A change's text. -/
def evB (what kind rev : Nat) (space name data : List UInt8) : List UInt8 := elemB 48 (evK what kind rev space name data).flatten
theorem intB_len {n : Nat} (h : n < 4611686018427387904) : (intB n).length ≤ 9 := by unfold intB; rw [List.length_reverse]; exact lowI_len 8 (by omega)
theorem elemB_lenle (tag : Nat) {b : List UInt8} {m : Nat} (h : b.length ≤ m) (hm : m ≤ 65530) : (elemB tag b).length ≤ m + 4 := by
 have := elemB_length tag b (by omega)
 omega
theorem evK_len {what kind rev : Nat} {space name data : List UInt8} (h1 : what < 4611686018427387904) (h2 : kind < 4611686018427387904) (h3 : rev < 4611686018427387904) (h4 : space.length ≤ 200) (h5 : name.length ≤ 200) (h6 : data.length ≤ 10000) :
  (evK what kind rev space name data).flatten.length ≤ 10500 := by
 have a1 := elemB_lenle 10 (intB_len h1) (by omega)
 have a2 := elemB_lenle 10 (intB_len h2) (by omega)
 have a3 := elemB_lenle 2 (intB_len h3) (by omega)
 have a4 := elemB_lenle 4 h4 (by omega)
 have a5 := elemB_lenle 4 h5 (by omega)
 have a6 := elemB_lenle 4 h6 (by omega)
 simp only [evK, List.flatten_cons, List.flatten_nil, List.length_append, List.length_nil]
 omega
/-- A change as a value. -/
def evV (rev : Nat) (del : Bool) (v : SO.OV) : Value := .agg #[.int .i64 (rev : Int), .bool del, .int .i64 v.kind, .string v.space, .string v.name, .int .i64 v.ver, .slice v.A v.n v.c]

set_option maxHeartbeats 4000000 in
set_option maxRecDepth 100000 in
theorem bytes_put (rev kind : Nat) (v : SO.OV) (data : List UInt8) (w : World) (hk : v.kind = (kind : Int)) (hkl : kind < 1000000) (hr : rev < 4611686018427387904) (hs : v.space.size ≤ 200) (hn : v.name.size ≤ 200)
  (hb : RB w v.A v.n data) (hd : v.n ≤ 10000) (hnc : v.n ≤ v.c) (hc : v.c ≤ maxLen) :
  Calls Tryz.prog 88 #[evV rev false v] w fun e w' => ∃ A c, e = .returned (.tuple #[.slice A (evB 1 kind rev v.space.data.toList v.name.data.toList data).length c, .nilIface]) ∧ OB w' w.heap.size (.slice A (evB 1 kind rev v.space.data.toList v.name.data.toList data).length c) (evB 1 kind rev v.space.data.toList v.name.data.toList data) ∧ Below w.heap.size w w' := by
 obtain ⟨kd, sp, nm, ve, A, n, c⟩ := v
 simp only at hk hs hn hb hd hnc hc
 subst hk
 unfold evV
 simp only
 obtain ⟨wb, hwb⟩ : ∃ W, W = w.alloc (.cells #[.int .i64 (rev : Int), .bool false, .int .i64 (kind : Int), .string sp, .string nm, .int .i64 ve, .slice A n c] 61) := ⟨_, rfl⟩
 have hbb := (Below.refl w.heap.size w).alloc Kj (.cells #[.int .i64 (rev : Int), .bool false, .int .i64 (kind : Int), .string sp, .string nm, .int .i64 ve, .slice A n c] 61)
 have hrow := heap_alloc_new w (.cells #[.int .i64 (rev : Int), .bool false, .int .i64 (kind : Int), .string sp, .string nm, .int .i64 ve, .slice A n c] 61)
 rw [← hwb] at hbb hrow
 have BB := Hj hbb
 have HK : Hid (∀ W, Below wb.heap.size wb W → W.cell? ⟨w.heap.size, 0, none⟩ = some (.int .i64 (rev : Int)) ∧ W.cell? ⟨w.heap.size, 1, none⟩ = some (.bool false) ∧ W.cell? ⟨w.heap.size, 2, none⟩ = some (.int .i64 (kind : Int)) ∧ W.cell? ⟨w.heap.size, 3, none⟩ = some (.string sp) ∧ W.cell? ⟨w.heap.size, 4, none⟩ = some (.string nm) ∧ W.cell? ⟨w.heap.size, 6, none⟩ = some (.slice A n c)) :=
  Hj fun W hW => ⟨Kz hW _ _ (Kq 0 hrow), Kz hW _ _ (Kq 1 hrow), Kz hW _ _ (Kq 2 hrow), Kz hW _ _ (Kq 3 hrow), Kz hW _ _ (Kq 4 hrow), Kz hW _ _ (Kq 6 hrow)⟩
 obtain ⟨w2, hw2⟩ : ∃ W, W = wb.alloc (.cells #[.slice none 0 0, .slice none 0 0, .nilIface] 199) := ⟨_, rfl⟩
 have h0 : Wr0 wb w2 (w.heap.size + 1) := by
  have e : w.heap.size + 1 = wb.heap.size := by rw [hwb]; simp
  rw [e, hw2]
  exact ⟨(Below.refl _ _).alloc Kj _, Nat.le_refl _, heap_alloc_new _ _⟩
 have HOp := Hj (Open_der h0)
 have HB : Hid (RB wb A n data) := Hj (hb.keep (Kz hbb))
 have HN := Hj (And.intro hnc (And.intro hc hd))
 have HL := Hj (And.intro hkl (And.intro hr (And.intro hs hn)))
 obtain ⟨k0, k1, k2, k3, k4, k6⟩ := HK.out w2 h0.bel
 have hcs : ∀ (s : ByteArray) W, (convert 9 24 (.string s)).run Tryz.prog W = .ok (.slice (some ⟨W.heap.size, 0, none⟩) s.size (grownCap W s.size 0 5)) (Lib.bytesWorld W 5 s) := fun s W => Lib.run_convert_string_bytes W _ _ _ s Tryz.underlying9 Tryz.underlying24 Tryz.underlying5
 have HSp : Hid (∀ W (s : ByteArray) kv ws q o cq, s.size ≤ 200 → ws.length ≤ 1000 → Wr1 wb W (w.heap.size + 1) q o cq kv ws → Calls Tryz.prog 139 #[.pointer (some ⟨w.heap.size + 1, 0, none⟩), .slice (some ⟨W.heap.size, 0, none⟩) s.size (grownCap W s.size 0 5)] (Lib.bytesWorld W 5 s) fun e w' => e = .returned (.tuple #[]) ∧ ∃ kv' xv, Wr1 wb w' (w.heap.size + 1) q o cq kv' (ws ++ [(elemB 4 s.data.toList, xv)])) := Hj fun W s kv ws q o cq h1 h2 h3 =>
  Octets_der (h3.below (below_bytesW W _ s)) _ _ _ s.data.toList (rb_bytesW W _ s) (grownCap_ge W s.size 0 _) (grownCap_le_maxLen W s.size 0 _ (by simp [maxLen]; omega)) (by omega) h2
 have HW2 := Hj hw2
 clear hb hnc hc hd hkl hr hs hn hbb hrow h0 hw2
 go_enter Tryz.func88, Tryz.ntmps88
 go_wp2_with (first
  | (go_at_call 137; (rw [← hwb, ← HW2.out]; (with_reducible refine HOp.out.mono ?_); rintro e w3 ⟨rfl, q, o, cq, hz⟩; have R3 := Hj hz; obtain ⟨x30, x31, x32, x33, x34, x36⟩ := HK.out w3 hz.bel; have HE1 : Hid (Calls Tryz.prog 138 #[.pointer (some ⟨w.heap.size + 1, 0, none⟩), .int .i64 1] w3.drew fun e w' => e = .returned (.tuple #[]) ∧ ∃ kv' xv, Wr1 wb w' (w.heap.size + 1) q o cq kv' ([] ++ [(elemB 10 (intB 1), xv)])) := Hj (Enum_der (hz.below (below_dd (Below.refl _ _))) 1 (by decide) (by decide)); clear hz))
  | fail)
 go_region
 go_wp2_with (first
  | (go_at_call 138; ((with_reducible refine HE1.out.mono ?_); rintro e w4 ⟨rfl, kv4, xv4, hz⟩; have R4 := Hj hz; obtain ⟨x40, x41, x42, x43, x44, x46⟩ := HK.out w4 hz.bel; clear hz))
  | (go_at_call 138; ((with_reducible refine (Enum_der R4.out kind (by have := HL.out; omega) (by simp)).mono ?_); rintro e w5 ⟨rfl, kv5, xv5, hz⟩; have R5 := Hj hz; obtain ⟨x50, x51, x52, x53, x54, x56⟩ := HK.out w5 hz.bel; clear hz))
  | (go_at_call 139; ((with_reducible refine (HSp.out w5 sp _ _ _ _ _ HL.out.2.2.1 (by simp) R5.out).mono ?_); rintro e w6 ⟨rfl, kv6, xv6, hz⟩; have R6 := Hj hz; obtain ⟨x60, x61, x62, x63, x64, x66⟩ := HK.out w6 hz.bel; clear hz))
  | (go_at_call 139; ((with_reducible refine (HSp.out w6 nm _ _ _ _ _ HL.out.2.2.2 (by simp) R6.out).mono ?_); rintro e w7 ⟨rfl, kv7, xv7, hz⟩; have R7 := Hj hz; obtain ⟨x70, x71, x72, x73, x74, x76⟩ := HK.out w7 hz.bel; clear hz))
  | (go_at_call 140; ((with_reducible refine (Int_der R7.out rev HL.out.2.1 (by simp)).mono ?_); rintro e w8 ⟨rfl, kv8, xv8, hz⟩; have R8 := Hj hz; obtain ⟨x80, x81, x82, x83, x84, x86⟩ := HK.out w8 hz.bel; clear hz))
  | (go_at_call 139; ((with_reducible refine (Octets_der R8.out A n c data (HB.out.keep (Kz R8.out.bel)) HN.out.1 HN.out.2.1 (by have := HN.out; omega) (by simp)).mono ?_); rintro e w9 ⟨rfl, kv9, xv9, hz⟩; have R9 := Hj hz; obtain ⟨x90, x91, x92, x93, x94, x96⟩ := HK.out w9 hz.bel; clear hz; have HF : Hid ((([] : List (List UInt8 × Value)) ++ [(elemB 10 (intB 1), xv4)] ++ [(elemB 10 (intB kind), xv5)] ++ [(elemB 4 sp.data.toList, xv6)] ++ [(elemB 4 nm.data.toList, xv7)] ++ [(elemB 2 (intB rev), xv8)] ++ [(elemB 4 data, xv9)]).map (fun x => x.1) = evK 1 kind rev sp.data.toList nm.data.toList data) := Hj (by simp [evK]); have HFL := Hj (evK_len (what := 1) (kind := kind) (rev := rev) (space := sp.data.toList) (name := nm.data.toList) (data := data) (by decide) (by have := HL.out; omega) HL.out.2.1 (by have := HL.out; simp; omega) (by have := HL.out; simp; omega) (by have := HN.out; have := HB.out.1; omega))))
  | (go_at_call 141; ((with_reducible refine (Close_der R9.out (by rw [HF.out]; have := HFL.out; omega)).mono ?_); rintro e w10 ⟨rfl, dv, hz⟩; rw [HF.out] at hz; have R10 := Hj (show Wr2 wb w10 (w.heap.size + 1) q o cq dv (evB 1 kind rev sp.data.toList nm.data.toList data) from hz); clear hz))
  | (go_at_call 142; ((with_reducible refine (Done_der R10.out (by have := HFL.out; have := elemB_lenle 48 HFL.out (by omega); unfold evB; omega)).mono ?_); rintro e w11 ⟨A11, c11, rfl, ho11, hb11⟩; have O11 := Hj ho11; have B11 := Hj hb11; clear ho11 hb11))
  | fail)
 go_ret2
 exact ⟨A11, c11, rfl, OB.mono O11.out (Kv BB.out.size R10.out.bel.size), BB.out.trans ((R10.out.bel.trans (B11.out.mono R10.out.bel.size)).mono BB.out.size)⟩

set_option maxHeartbeats 4000000 in
set_option maxRecDepth 100000 in
theorem bytes_del (rev kind : Nat) (v : SO.OV) (data : List UInt8) (w : World) (hk : v.kind = (kind : Int)) (hkl : kind < 1000000) (hr : rev < 4611686018427387904) (hs : v.space.size ≤ 200) (hn : v.name.size ≤ 200)
  (hb : RB w v.A v.n data) (hd : v.n ≤ 10000) (hnc : v.n ≤ v.c) (hc : v.c ≤ maxLen) :
  Calls Tryz.prog 88 #[evV rev true v] w fun e w' => ∃ A c, e = .returned (.tuple #[.slice A (evB 2 kind rev v.space.data.toList v.name.data.toList []).length c, .nilIface]) ∧ OB w' w.heap.size (.slice A (evB 2 kind rev v.space.data.toList v.name.data.toList []).length c) (evB 2 kind rev v.space.data.toList v.name.data.toList []) ∧ Below w.heap.size w w' := by
 obtain ⟨kd, sp, nm, ve, A, n, c⟩ := v
 simp only at hk hs hn hb hd hnc hc
 subst hk
 unfold evV
 simp only
 obtain ⟨wb, hwb⟩ : ∃ W, W = w.alloc (.cells #[.int .i64 (rev : Int), .bool true, .int .i64 (kind : Int), .string sp, .string nm, .int .i64 ve, .slice A n c] 61) := ⟨_, rfl⟩
 have hbb := (Below.refl w.heap.size w).alloc Kj (.cells #[.int .i64 (rev : Int), .bool true, .int .i64 (kind : Int), .string sp, .string nm, .int .i64 ve, .slice A n c] 61)
 have hrow := heap_alloc_new w (.cells #[.int .i64 (rev : Int), .bool true, .int .i64 (kind : Int), .string sp, .string nm, .int .i64 ve, .slice A n c] 61)
 rw [← hwb] at hbb hrow
 have BB := Hj hbb
 have HK : Hid (∀ W, Below wb.heap.size wb W → W.cell? ⟨w.heap.size, 0, none⟩ = some (.int .i64 (rev : Int)) ∧ W.cell? ⟨w.heap.size, 1, none⟩ = some (.bool true) ∧ W.cell? ⟨w.heap.size, 2, none⟩ = some (.int .i64 (kind : Int)) ∧ W.cell? ⟨w.heap.size, 3, none⟩ = some (.string sp) ∧ W.cell? ⟨w.heap.size, 4, none⟩ = some (.string nm) ∧ W.cell? ⟨w.heap.size, 6, none⟩ = some (.slice A n c)) :=
  Hj fun W hW => ⟨Kz hW _ _ (Kq 0 hrow), Kz hW _ _ (Kq 1 hrow), Kz hW _ _ (Kq 2 hrow), Kz hW _ _ (Kq 3 hrow), Kz hW _ _ (Kq 4 hrow), Kz hW _ _ (Kq 6 hrow)⟩
 obtain ⟨w2, hw2⟩ : ∃ W, W = wb.alloc (.cells #[.slice none 0 0, .slice none 0 0, .nilIface] 199) := ⟨_, rfl⟩
 have h0 : Wr0 wb w2 (w.heap.size + 1) := by
  have e : w.heap.size + 1 = wb.heap.size := by rw [hwb]; simp
  rw [e, hw2]
  exact ⟨(Below.refl _ _).alloc Kj _, Nat.le_refl _, heap_alloc_new _ _⟩
 have HOp := Hj (Open_der h0)
 have HB : Hid (RB wb A n data) := Hj (hb.keep (Kz hbb))
 have HN := Hj (And.intro hnc (And.intro hc hd))
 have HL := Hj (And.intro hkl (And.intro hr (And.intro hs hn)))
 obtain ⟨k0, k1, k2, k3, k4, k6⟩ := HK.out w2 h0.bel
 have hcs : ∀ (s : ByteArray) W, (convert 9 24 (.string s)).run Tryz.prog W = .ok (.slice (some ⟨W.heap.size, 0, none⟩) s.size (grownCap W s.size 0 5)) (Lib.bytesWorld W 5 s) := fun s W => Lib.run_convert_string_bytes W _ _ _ s Tryz.underlying9 Tryz.underlying24 Tryz.underlying5
 have HSp : Hid (∀ W (s : ByteArray) kv ws q o cq, s.size ≤ 200 → ws.length ≤ 1000 → Wr1 wb W (w.heap.size + 1) q o cq kv ws → Calls Tryz.prog 139 #[.pointer (some ⟨w.heap.size + 1, 0, none⟩), .slice (some ⟨W.heap.size, 0, none⟩) s.size (grownCap W s.size 0 5)] (Lib.bytesWorld W 5 s) fun e w' => e = .returned (.tuple #[]) ∧ ∃ kv' xv, Wr1 wb w' (w.heap.size + 1) q o cq kv' (ws ++ [(elemB 4 s.data.toList, xv)])) := Hj fun W s kv ws q o cq h1 h2 h3 =>
  Octets_der (h3.below (below_bytesW W _ s)) _ _ _ s.data.toList (rb_bytesW W _ s) (grownCap_ge W s.size 0 _) (grownCap_le_maxLen W s.size 0 _ (by simp [maxLen]; omega)) (by omega) h2
 have HW2 := Hj hw2
 clear hb hnc hc hd hkl hr hs hn hbb hrow h0 hw2
 go_enter Tryz.func88, Tryz.ntmps88
 go_wp2_with (first
  | (go_at_call 137; (rw [← hwb, ← HW2.out]; (with_reducible refine HOp.out.mono ?_); rintro e w3 ⟨rfl, q, o, cq, hz⟩; have R3 := Hj hz; obtain ⟨x30, x31, x32, x33, x34, x36⟩ := HK.out w3 hz.bel; have HE1 : Hid (Calls Tryz.prog 138 #[.pointer (some ⟨w.heap.size + 1, 0, none⟩), .int .i64 2] w3.drew fun e w' => e = .returned (.tuple #[]) ∧ ∃ kv' xv, Wr1 wb w' (w.heap.size + 1) q o cq kv' ([] ++ [(elemB 10 (intB 2), xv)])) := Hj (Enum_der (hz.below (below_dd (Below.refl _ _))) 2 (by decide) (by decide)); clear hz))
  | fail)
 go_region
 go_wp2_with (first
  | (go_at_call 138; ((with_reducible refine HE1.out.mono ?_); rintro e w4 ⟨rfl, kv4, xv4, hz⟩; have R4 := Hj hz; obtain ⟨x40, x41, x42, x43, x44, x46⟩ := HK.out w4 hz.bel; clear hz))
  | (go_at_call 138; ((with_reducible refine (Enum_der R4.out kind (by have := HL.out; omega) (by simp)).mono ?_); rintro e w5 ⟨rfl, kv5, xv5, hz⟩; have R5 := Hj hz; obtain ⟨x50, x51, x52, x53, x54, x56⟩ := HK.out w5 hz.bel; clear hz))
  | (go_at_call 139; ((with_reducible refine (HSp.out w5 sp _ _ _ _ _ HL.out.2.2.1 (by simp) R5.out).mono ?_); rintro e w6 ⟨rfl, kv6, xv6, hz⟩; have R6 := Hj hz; obtain ⟨x60, x61, x62, x63, x64, x66⟩ := HK.out w6 hz.bel; clear hz))
  | (go_at_call 139; ((with_reducible refine (HSp.out w6 nm _ _ _ _ _ HL.out.2.2.2 (by simp) R6.out).mono ?_); rintro e w7 ⟨rfl, kv7, xv7, hz⟩; have R7 := Hj hz; obtain ⟨x70, x71, x72, x73, x74, x76⟩ := HK.out w7 hz.bel; clear hz))
  | (go_at_call 140; ((with_reducible refine (Int_der R7.out rev HL.out.2.1 (by simp)).mono ?_); rintro e w8 ⟨rfl, kv8, xv8, hz⟩; have R8 := Hj hz; obtain ⟨x80, x81, x82, x83, x84, x86⟩ := HK.out w8 hz.bel; clear hz))
  | (go_at_call 139; ((with_reducible refine (Octets_der R8.out none 0 0 [] (RB.nil _ _) (by decide) (by simp [maxLen]) (by decide) (by simp)).mono ?_); rintro e w9 ⟨rfl, kv9, xv9, hz⟩; have R9 := Hj hz; obtain ⟨x90, x91, x92, x93, x94, x96⟩ := HK.out w9 hz.bel; clear hz; have HF : Hid ((([] : List (List UInt8 × Value)) ++ [(elemB 10 (intB 2), xv4)] ++ [(elemB 10 (intB kind), xv5)] ++ [(elemB 4 sp.data.toList, xv6)] ++ [(elemB 4 nm.data.toList, xv7)] ++ [(elemB 2 (intB rev), xv8)] ++ [(elemB 4 ([] : List UInt8), xv9)]).map (fun x => x.1) = evK 2 kind rev sp.data.toList nm.data.toList []) := Hj (by simp [evK]); have HFL := Hj (evK_len (what := 2) (kind := kind) (rev := rev) (space := sp.data.toList) (name := nm.data.toList) (data := []) (by decide) (by have := HL.out; omega) HL.out.2.1 (by have := HL.out; simp; omega) (by have := HL.out; simp; omega) (by simp))))
  | (go_at_call 141; ((with_reducible refine (Close_der R9.out (by rw [HF.out]; have := HFL.out; omega)).mono ?_); rintro e w10 ⟨rfl, dv, hz⟩; rw [HF.out] at hz; have R10 := Hj (show Wr2 wb w10 (w.heap.size + 1) q o cq dv (evB 2 kind rev sp.data.toList nm.data.toList []) from hz); clear hz))
  | (go_at_call 142; ((with_reducible refine (Done_der R10.out (by have := HFL.out; have := elemB_lenle 48 HFL.out (by omega); unfold evB; omega)).mono ?_); rintro e w11 ⟨A11, c11, rfl, ho11, hb11⟩; have O11 := Hj ho11; have B11 := Hj hb11; clear ho11 hb11))
  | fail)
 go_ret2
 exact ⟨A11, c11, rfl, OB.mono O11.out (Kv BB.out.size R10.out.bel.size), BB.out.trans ((R10.out.bel.trans (B11.out.mono R10.out.bel.size)).mono BB.out.size)⟩

end Go.Proofs.YtfmagnpmjlppiaaGreatDoor
