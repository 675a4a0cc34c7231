/- bullanum.Err of ErrText; plain; keys.Seal, keys.Open at texts. -/
import Derived.Test.YtlfeofakggkebaaDoorAlive10
import Derived.Test.YtlfeofakggkebaaDoorRefFrm
import Derived.Lib.ConvBytes
import Derived.Test.YtlfeofakggkebaaDoorRefRingC
import Derived.Test.YtlfeofakggkebaaDoorApartLaw0
namespace Go.Proofs.YtlfeofakggkebaaDoor
open Go.RowKit Go.Instr

set_option maxHeartbeats 1000000 in
set_option maxRecDepth 100000 in
theorem Err_text {w : World} {ea : Nat → Addr} (he : Errs w ea) :
    Calls Tryd.prog 62 #[.int .i64 8] w fun e w' => e = .returned (.iface 213 (.pointer (some (ea 8)))) ∧ Below w.heap.size w w' := by
  have c1 : w.cell? ⟨2, 0, none⟩ = some (.iface 213 (.pointer (some (ea 1)))) := he.cell 1 (by omega) (by omega)
  have c2 : w.cell? ⟨0, 0, none⟩ = some (.iface 213 (.pointer (some (ea 2)))) := he.cell 2 (by omega) (by omega)
  have c3 : w.cell? ⟨1, 0, none⟩ = some (.iface 213 (.pointer (some (ea 3)))) := he.cell 3 (by omega) (by omega)
  have c4 : w.cell? ⟨3, 0, none⟩ = some (.iface 213 (.pointer (some (ea 4)))) := he.cell 4 (by omega) (by omega)
  have c5 : w.cell? ⟨4, 0, none⟩ = some (.iface 213 (.pointer (some (ea 5)))) := he.cell 5 (by omega) (by omega)
  have c6 : w.cell? ⟨5, 0, none⟩ = some (.iface 213 (.pointer (some (ea 6)))) := he.cell 6 (by omega) (by omega)
  have c7 : w.cell? ⟨6, 0, none⟩ = some (.iface 213 (.pointer (some (ea 7)))) := he.cell 7 (by omega) (by omega)
  have c8 : w.cell? ⟨7, 0, none⟩ = some (.iface 213 (.pointer (some (ea 8)))) := he.cell 8 (by omega) (by omega)
  have c9 : w.cell? ⟨8, 0, none⟩ = some (.iface 213 (.pointer (some (ea 9)))) := he.cell 9 (by omega) (by omega)
  have c10 : w.cell? ⟨9, 0, none⟩ = some (.iface 213 (.pointer (some (ea 10)))) := he.cell 10 (by omega) (by omega)
  have c11 : w.cell? ⟨10, 0, none⟩ = some (.iface 213 (.pointer (some (ea 11)))) := he.cell 11 (by omega) (by omega)
  have c12 : w.cell? ⟨11, 0, none⟩ = some (.iface 213 (.pointer (some (ea 12)))) := he.cell 12 (by omega) (by omega)
  have c13 : w.cell? ⟨12, 0, none⟩ = some (.iface 213 (.pointer (some (ea 13)))) := he.cell 13 (by omega) (by omega)
  have c14 : w.cell? ⟨13, 0, none⟩ = some (.iface 213 (.pointer (some (ea 14)))) := he.cell 14 (by omega) (by omega)
  have c15 : w.cell? ⟨14, 0, none⟩ = some (.iface 213 (.pointer (some (ea 15)))) := he.cell 15 (by omega) (by omega)
  have c16 : w.cell? ⟨15, 0, none⟩ = some (.iface 213 (.pointer (some (ea 16)))) := he.cell 16 (by omega) (by omega)
  have c17 : w.cell? ⟨16, 0, none⟩ = some (.iface 213 (.pointer (some (ea 17)))) := he.cell 17 (by omega) (by omega)
  have c18 : w.cell? ⟨17, 0, none⟩ = some (.iface 213 (.pointer (some (ea 18)))) := he.cell 18 (by omega) (by omega)
  have c19 : w.cell? ⟨18, 0, none⟩ = some (.iface 213 (.pointer (some (ea 19)))) := he.cell 19 (by omega) (by omega)
  have c20 : w.cell? ⟨19, 0, none⟩ = some (.iface 213 (.pointer (some (ea 20)))) := he.cell 20 (by omega) (by omega)
  have c21 : w.cell? ⟨20, 0, none⟩ = some (.iface 213 (.pointer (some (ea 21)))) := he.cell 21 (by omega) (by omega)
  have c22 : w.cell? ⟨21, 0, none⟩ = some (.iface 213 (.pointer (some (ea 22)))) := he.cell 22 (by omega) (by omega)
  have c23 : w.cell? ⟨22, 0, none⟩ = some (.iface 213 (.pointer (some (ea 23)))) := he.cell 23 (by omega) (by omega)
  have c24 : w.cell? ⟨23, 0, none⟩ = some (.iface 213 (.pointer (some (ea 24)))) := he.cell 24 (by omega) (by omega)
  have c25 : w.cell? ⟨24, 0, none⟩ = some (.iface 213 (.pointer (some (ea 25)))) := he.cell 25 (by omega) (by omega)
  have c26 : w.cell? ⟨25, 0, none⟩ = some (.iface 213 (.pointer (some (ea 26)))) := he.cell 26 (by omega) (by omega)
  have c27 : w.cell? ⟨26, 0, none⟩ = some (.iface 213 (.pointer (some (ea 27)))) := he.cell 27 (by omega) (by omega)
  have c28 : w.cell? ⟨27, 0, none⟩ = some (.iface 213 (.pointer (some (ea 28)))) := he.cell 28 (by omega) (by omega)
  clear he
  go_enter Tryd.func62, Tryd.ntmps62
  go_wp2
  go_ret
  exact ⟨rfl, (Below.refl _ _).alloc (Nat.le_refl _) _⟩

theorem plain_none {w : World} {ea : Nat → Addr} (he : Errs w ea) :
    Calls Tryd.prog 24 #[.string ⟨#[]⟩] w fun e w' => e = .returned (.tuple #[.slice none 0 0, .iface 213 (.pointer (some (ea 8)))]) ∧ Below w.heap.size w w' := by
  have H := Lib.hid (Err_text he)
  clear he
  go_enter Tryd.func24, Tryd.ntmps24
  go_wp2_with (go_at_call 62; refine H.out.mono ?_; rintro e w1 ⟨rfl, hb1⟩)
  go_ret2
  exact ⟨rfl, hb1⟩
theorem plain_some (w : World) (s : ByteArray) (hs : s.size ≤ 1000) (hne : s.toList.isEmpty = false) :
    Calls Tryd.prog 24 #[.string s] w fun e w' => ∃ A c, e = .returned (.tuple #[.slice A s.size c, .nilIface]) ∧ RB w' A s.size s.data.toList ∧ s.size ≤ c ∧ c ≤ maxLen ∧ Below w.heap.size w w' := by
  have hcs : ∀ W, (convert 9 22 (.string s)).run Tryd.prog W = .ok (.slice (some ⟨W.heap.size, 0, none⟩) s.size (grownCap W s.size 0 5)) (Lib.bytesWorld W 5 s) := fun W => Lib.run_convert_string_bytes W _ _ _ s Tryd.underlying9 Tryd.underlying22 Tryd.underlying5
  have h1 : (s.toList == []) = false := by cases h : s.toList with | nil => rw [h] at hne; cases hne | cons _ _ => rfl
  go_enter Tryd.func24, Tryd.ntmps24
  go_wp2
  go_ret2
  exact ⟨_, _, rfl, rb_bytesWorld w _ s, grownCap_ge w s.size 0 _, grownCap_le_maxLen w s.size 0 _ (by unfold maxLen; omega), below_bytesWorld w _ s⟩

/-- What Seal and Open do with a value's bytes. -/
def PlainOk (w : World) (s : ByteArray) : Prop := ∀ W, Below w.heap.size w W → Calls Tryd.prog 24 #[.string s] W fun e w' => ∃ A c, e = .returned (.tuple #[.slice A s.size c, .nilIface]) ∧ RB w' A s.size s.data.toList ∧ s.size ≤ c ∧ c ≤ maxLen ∧ Below W.heap.size W w'

section
variable {w0 w : World} {g : Nat} {ks : List (ByteArray × List UInt8)} {es : List (ByteArray × ByteArray)}

set_option maxHeartbeats 1000000 in
set_option maxRecDepth 100000 in
theorem Seal_none (g0 : Value) (id d : ByteArray) {ea : Nat → Addr} (hE : Errs w ea) :
    Calls Tryd.prog 23 #[g0, .string id, .agg #[.string d, .string ⟨#[]⟩], .func (.func 24) #[] #[]] w fun e w' => e = .returned (.tuple #[.slice none 0 0, .iface 213 (.pointer (some (ea 8)))]) ∧ Below w.heap.size w w' := by
  have D1 := Lib.hid ((Below.refl w.heap.size w).alloc (Nat.le_refl _) (.cells #[.string d, .string ⟨#[]⟩] 59))
  have H := Lib.hid (plain_none (hE.below D1.out))
  clear hE
  go_enter Tryd.func23, Tryd.ntmps23
  go_wp2_with (go_at_call 24; refine H.out.mono ?_; rintro e w1 ⟨rfl, hb1⟩; have B1 := Lib.hid (D1.out.trans (hb1.mono D1.out.size)); clear hb1)
  go_ret2
  exact ⟨rfl, B1.out⟩

set_option maxHeartbeats 1000000 in
set_option maxRecDepth 100000 in
theorem Seal_good (hS : RG w0 w g ks es) (id : ByteArray) (key : List UInt8) (hk : findK id ks = some key) (d s : ByteArray) (hs : s.size ≤ 1000) (hne : s.toList.isEmpty = false) (hf : frameBad d.data.toList [s.data.toList] = false) (ht : ShaTabs w0) :
    Calls Tryd.prog 23 #[.pointer (some ⟨g, 0, none⟩), .string id, .agg #[.string d, .string s], .func (.func 24) #[] #[]] w fun e w' => ∃ q, e = .returned (.tuple #[.slice (some ⟨q, 0, none⟩) 32 32, .nilIface]) ∧
      RB w' (some ⟨q, 0, none⟩) 32 (hmacF key (frameB d.data.toList [s.data.toList])) ∧ RG w0 w' g ks (putE id ⟨(frameB d.data.toList [s.data.toList]).toArray⟩ es) ∧ KB w w' := by
  have D1 := Lib.hid ((Below.refl w.heap.size w).alloc (Nat.le_refl _) (.cells #[.string d, .string s] 59))
  have E1 := Lib.hid (heap_alloc_new w (.cells #[.string d, .string s] 59))
  have HP := Lib.hid (plain_some (w.alloc (.cells #[.string d, .string s] 59)) s hs hne)
  have HSG : Hid (∀ (W : World) A c, RG w0 W g ks es → RB W A s.size s.data.toList → s.size ≤ c → c ≤ maxLen → _) := Lib.hid (fun (W : World) A c (h : RG w0 W g ks es) hb h1 h2 => Sign_good h id key hk d A s.size c s.data.toList hb h1 h2 hf ht)
  have HS := Lib.hid hS
  clear hS hk hs hne hf ht
  go_enter Tryd.func23, Tryd.ntmps23
  go_wp2_with (first
    | (go_at_call 24; refine HP.out.mono ?_; rintro e w1 ⟨A1, c1, rfl, hr1, hc1, hm1, hb1⟩; have B1 := Lib.hid (D1.out.trans (hb1.mono D1.out.size)); have y0 : w1.cell? ⟨w.heap.size, 0, none⟩ = some (.string d) := cell_of_row _ _ 0 _ _ _ ((hb1.block w.heap.size (by simp)).trans E1.out); have HR1 := Lib.hid hr1; have HC1 := Lib.hid (And.intro hc1 hm1); clear hr1 hb1 hc1 hm1)
    | (go_at_call 18; refine (HSG.out w1 A1 c1 (HS.out.below B1.out) HR1.out HC1.out.1 HC1.out.2).mono ?_; rintro e w2 ⟨q, rfl, hr2, hg2, hk2⟩; have R2 := Lib.hid hr2; have G2 := Lib.hid hg2; have K2 := Lib.hid ((KB.of_below B1.out).trans hk2); clear hr2 hg2 hk2))
  go_ret2
  exact ⟨q, rfl, R2.out, G2.out, K2.out⟩

set_option maxHeartbeats 1000000 in
set_option maxRecDepth 100000 in
theorem Seal_bad (hS : RG w0 w g ks es) (id : ByteArray) (key : List UInt8) (hk : findK id ks = some key) (d s : ByteArray) (hs : s.size ≤ 1000) (hne : s.toList.isEmpty = false) (hd : d.size ≤ 1000) (hf : wordBad d.data.toList = true) {ea : Nat → Addr} (hE : Errs w0 ea) :
    Calls Tryd.prog 23 #[.pointer (some ⟨g, 0, none⟩), .string id, .agg #[.string d, .string s], .func (.func 24) #[] #[]] w fun e w' => e = .returned (.tuple #[.slice none 0 0, .iface 213 (.pointer (some (ea 8)))]) ∧ Below w.heap.size w w' := by
  have D1 := Lib.hid ((Below.refl w.heap.size w).alloc (Nat.le_refl _) (.cells #[.string d, .string s] 59))
  have E1 := Lib.hid (heap_alloc_new w (.cells #[.string d, .string s] 59))
  have HP := Lib.hid (plain_some (w.alloc (.cells #[.string d, .string s] 59)) s hs hne)
  have HSG := Lib.hid (fun (W : World) A c (h : RG w0 W g ks es) => Sign_bad h id key hk d A s.size c hE (by unfold maxLen; omega) hf)
  have HS := Lib.hid hS
  clear hS hk hs hne hd hf hE
  go_enter Tryd.func23, Tryd.ntmps23
  go_wp2_with (first
    | (go_at_call 24; refine HP.out.mono ?_; rintro e w1 ⟨A1, c1, rfl, hr1, hc1, hm1, hb1⟩; have B1 := Lib.hid (D1.out.trans (hb1.mono D1.out.size)); have y0 : w1.cell? ⟨w.heap.size, 0, none⟩ = some (.string d) := cell_of_row _ _ 0 _ _ _ ((hb1.block w.heap.size (by simp)).trans E1.out); clear hr1 hb1 hc1 hm1)
    | (go_at_call 18; refine (HSG.out w1 A1 c1 (HS.out.below B1.out)).mono ?_; rintro e w2 ⟨rfl, hb2⟩; have B2 := Lib.hid (B1.out.trans (hb2.mono B1.out.size)); clear hb2))
  go_ret2
  exact ⟨rfl, B2.out⟩

set_option maxHeartbeats 1000000 in
set_option maxRecDepth 100000 in
theorem Open_good (hS : RG w0 w g ks es) (id : ByteArray) (key : List UInt8) (hk : findK id ks = some key) (d s : ByteArray) (hs : s.size ≤ 1000) (hne : s.toList.isEmpty = false) (hf : frameBad d.data.toList [s.data.toList] = false) (ht : ShaTabs w0) {ea : Nat → Addr} (hE : Errs w0 ea)
    (A2 : Option Addr) (n2 c2 : Nat) (sg : List UInt8) (hsg : RB w A2 n2 sg) :
    Calls Tryd.prog 26 #[.pointer (some ⟨g, 0, none⟩), .string id, .agg #[.string d, .string s], .slice A2 n2 c2, .func (.func 24) #[] #[]] w fun e w' =>
      e = .returned (errOf ea (if hmacF key (frameB d.data.toList [s.data.toList]) = sg ∧ inE id ⟨(frameB d.data.toList [s.data.toList]).toArray⟩ es = true then 0 else 12)) ∧ Below w.heap.size w w' := by
  have D1 := Lib.hid ((Below.refl w.heap.size w).alloc (Nat.le_refl _) (.cells #[.string d, .string s] 59))
  have E1 := Lib.hid (heap_alloc_new w (.cells #[.string d, .string s] 59))
  have HP := Lib.hid (plain_some (w.alloc (.cells #[.string d, .string s] 59)) s hs hne)
  have HSG := Lib.hid (fun (W : World) A c (h : RG w0 W g ks es) hb h1 h2 (hsg : RB W A2 n2 sg) => Verify_good h id key hk d A s.size c s.data.toList hb h1 h2 hf ht A2 n2 c2 sg hsg hE)
  have HS := Lib.hid hS
  have HQ := Lib.hid hsg
  clear hS hk hs hne hf ht hE hsg
  generalize errOf ea (if hmacF key (frameB d.data.toList [s.data.toList]) = sg ∧ inE id ⟨(frameB d.data.toList [s.data.toList]).toArray⟩ es = true then 0 else 12) = vv at *
  go_enter Tryd.func26, Tryd.ntmps26
  go_wp2_with (first
    | (go_at_call 24; refine HP.out.mono ?_; rintro e w1 ⟨A1, c1, rfl, hr1, hc1, hm1, hb1⟩; have B1 := Lib.hid (D1.out.trans (hb1.mono D1.out.size)); have y0 : w1.cell? ⟨w.heap.size, 0, none⟩ = some (.string d) := cell_of_row _ _ 0 _ _ _ ((hb1.block w.heap.size (by simp)).trans E1.out); have HR1 := Lib.hid hr1; have HC1 := Lib.hid (And.intro hc1 hm1); clear hr1 hb1 hc1 hm1)
    | (go_at_call 20; refine (HSG.out w1 A1 c1 (HS.out.below B1.out) HR1.out HC1.out.1 HC1.out.2 (HQ.out.keep (Keeps.of_below B1.out))).mono ?_; rintro e w2 ⟨rfl, hb2⟩; have B2 := Lib.hid (B1.out.trans (hb2.mono B1.out.size)); clear hb2))
  go_ret
  exact ⟨rfl, B2.out⟩

set_option maxHeartbeats 1000000 in
set_option maxRecDepth 100000 in
theorem Open_bad (hS : RG w0 w g ks es) (id : ByteArray) (key : List UInt8) (hk : findK id ks = some key) (d s : ByteArray) (hs : s.size ≤ 1000) (hne : s.toList.isEmpty = false) (hd : d.size ≤ 1000) (hf : wordBad d.data.toList = true) {ea : Nat → Addr} (hE : Errs w0 ea) (v : Value) :
    Calls Tryd.prog 26 #[.pointer (some ⟨g, 0, none⟩), .string id, .agg #[.string d, .string s], v, .func (.func 24) #[] #[]] w fun e w' => e = .returned (.iface 213 (.pointer (some (ea 8)))) ∧ Below w.heap.size w w' := by
  have D1 := Lib.hid ((Below.refl w.heap.size w).alloc (Nat.le_refl _) (.cells #[.string d, .string s] 59))
  have E1 := Lib.hid (heap_alloc_new w (.cells #[.string d, .string s] 59))
  have HP := Lib.hid (plain_some (w.alloc (.cells #[.string d, .string s] 59)) s hs hne)
  have HSG := Lib.hid (fun (W : World) A c (h : RG w0 W g ks es) => Verify_bad h id key hk d A s.size c v hE (by unfold maxLen; omega) hf)
  have HS := Lib.hid hS
  clear hS hk hs hne hd hf hE
  go_enter Tryd.func26, Tryd.ntmps26
  go_wp2_with (first
    | (go_at_call 24; refine HP.out.mono ?_; rintro e w1 ⟨A1, c1, rfl, hr1, hc1, hm1, hb1⟩; have B1 := Lib.hid (D1.out.trans (hb1.mono D1.out.size)); have y0 : w1.cell? ⟨w.heap.size, 0, none⟩ = some (.string d) := cell_of_row _ _ 0 _ _ _ ((hb1.block w.heap.size (by simp)).trans E1.out); clear hr1 hb1 hc1 hm1)
    | (go_at_call 20; refine (HSG.out w1 A1 c1 (HS.out.below B1.out)).mono ?_; rintro e w2 ⟨rfl, hb2⟩; have B2 := Lib.hid (B1.out.trans (hb2.mono B1.out.size)); clear hb2))
  go_ret
  exact ⟨rfl, B2.out⟩
end
end Go.Proofs.YtlfeofakggkebaaDoor
namespace Go.Proofs.YtlfeofakggkebaaDoor
open Go.RowKit Go.Instr

theorem RG.frR {w0 w w' : World} {g : Nat} {ks : List (ByteArray × List UInt8)} {es : List (ByteArray × ByteArray)} (h : RG w0 w g ks es) {p : Nat} {cs : Array Value} {T : TypeId} {fr : Nat × Nat} (hp : w.heap[p]? = some (.cells cs T fr)) (hT : T ≠ 117) (hlow : w0.heap.size ≤ p) (hf : Fr (fun i => i = p) w w') : RG w0 w' g ks es := by
  obtain ⟨⟨a, b, hr, h1, h2, h3⟩, h4, h5⟩ := h
  have n1 : g ≠ p := fun e => rowT_ne hp hr.row hT e.symm
  have n2 : a ≠ p := fun e => hr.keys.ne hp e.symm
  have n3 : b ≠ p := fun e => hr.ents.ne hp e.symm
  exact ⟨⟨a, b, ⟨(hf.block g hr.lt n1).trans hr.row, hr.keys.keepB (hf.block a hr.keys.lt n2), hr.ents.keepB (hf.block b hr.ents.lt n3), hr.ab⟩, h1, h2, h3⟩, h4, h5.trans (hf.below h5.size fun i _ e => by rw [e]; exact hlow)⟩
theorem OwnS.kb {w w' : World} {base size n : Nat} {e : TypeId} {v : Value} {xs : List Value} (h : OwnS w base e size v n xs) (f : KB w w') : OwnS w' base e size v n xs :=
  h.keepB fun k hk => by
    obtain ⟨cur, hc⟩ := h.type hk
    rw [f _ _ _ _ hc, hc]
theorem RR.kb {w0 w w' : World} {r : Nat} {ks : List RK} {bk : List RLn} (h : RR w0 w r ks bk) (f : KB w w') (hb : Below w0.heap.size w0 w') : RR w0 w' r ks bk := by
  obtain ⟨vk, vb, h1, h2, h3⟩ := h.rows
  exact ⟨⟨vk, vb, f _ _ _ _ h1, h2.kb f, h3.kb f⟩, h.low, fun k hk => ⟨(h.keys k hk).1.keep f.keeps, (h.keys k hk).2⟩, hb⟩
theorem RB.frR {w0 w w' : World} {A : Option Addr} {n r : Nat} {l : List UInt8} {ks : List RK} {bk : List RLn} (h : RB w A n l) (hR : RR w0 w r ks bk) (hf : Fr (fun i => i = r) w w') : RB w' A n l := by
  obtain ⟨vk, vb, h1, h2, h3⟩ := hR.rows
  obtain ⟨Ak, ck, rfl, -, -⟩ := h2.form
  obtain ⟨Ab, cb, rfl, -, -⟩ := h3.form
  refine ⟨h.1, fun hn => ?_⟩
  obtain ⟨b, o, e, hc⟩ := h.2 hn
  refine ⟨b, o, e, fun k hk => ?_⟩
  have hk' := hc k hk
  rw [hf.cell (World.block_lt_of_cell? w _ hk') (fun e' => ?_)]
  · exact hk'
  · have e' : b = r := e'
    subst e'
    rw [cell_of_row _ _ _ _ _ _ h1] at hk'
    have : o + k = 0 ∨ o + k = 1 ∨ 2 ≤ o + k := by omega
    rcases this with e0 | e0 | e0
    · rw [e0] at hk'; injection hk' with hk'; cases hk'
    · rw [e0] at hk'; injection hk' with hk'; cases hk'
    · rw [Array.getElem?_eq_none (by simpa using e0)] at hk'; cases hk'
theorem RR.new {w0 w : World} (hb : Below w0.heap.size w0 w) : RR w0 (w.alloc (.cells #[.slice none 0 0, .slice none 0 0] 55)) w.heap.size [] [] :=
  ⟨⟨_, _, heap_alloc_new w _, OwnS.nil _ _ _ _, OwnS.nil _ _ _ _⟩, hb.size, fun k hk => (by cases hk), hb.alloc hb.size _⟩

set_option maxHeartbeats 2000000 in
set_option maxRecDepth 100000 in
theorem KeysSeal_long (s d o : ByteArray) (w : World) {ea : Nat → Addr} (hE : Errs w ea) (ht : ShaTabs w) (h : 200 < s.size ∨ 100 < d.size ∨ 100 < o.size) :
    Calls Tryd.prog 5 #[.string s, .string d, .string o] w fun e w' => e = .returned (.bool true) ∧ Below w.heap.size w w' := by
  have HA := Lib.hid (alive10_any w hE ht)
  have hc : ∃ b1 b2 b3 : Bool, decide (200 < (s.size : Int)) = b1 ∧ decide (100 < (d.size : Int)) = b2 ∧ decide (100 < (o.size : Int)) = b3 ∧ (b1 = true ∨ b1 = false ∧ (b2 = true ∨ b2 = false ∧ b3 = true)) := by
    refine ⟨_, _, _, rfl, rfl, rfl, ?_⟩
    simp only [decide_eq_true_eq, decide_eq_false_iff_not]
    omega
  obtain ⟨b1, b2, b3, hb1, hb2, hb3, hb⟩ := hc
  clear hE ht h
  rcases hb with rfl | ⟨rfl, rfl | ⟨rfl, rfl⟩⟩
  all_goals
    go_enter Tryd.func5, Tryd.ntmps5
    go_wp2_with (go_at_call 10; refine HA.out.mono ?_; rintro e w1 ⟨rfl, h1⟩)
    go_ret
    exact ⟨rfl, h1⟩

/-- Both rings with one key. -/
structure Both (w0 w : World) (g r : Nat) (id : ByteArray) (k : RK) (es : List (ByteArray × ByteArray)) (bk : List RLn) : Prop where
  g : RG w0 w g [(id, zeroK)] es
  r : RR w0 w r [k] bk
theorem Both.below {w0 w w' : World} {g r : Nat} {id : ByteArray} {k : RK} {es : List (ByteArray × ByteArray)} {bk : List RLn} (h : Both w0 w g r id k es bk) (hb : Below w.heap.size w w') : Both w0 w' g r id k es bk := ⟨h.g.below hb, h.r.below hb⟩

set_option maxHeartbeats 4000000 in
set_option maxRecDepth 100000 in
theorem KeysSeal_none (d o : ByteArray) (w : World) {ea : Nat → Addr} (hE : Errs w ea) (ht : ShaTabs w) (h2 : d.size ≤ 100) (h3 : o.size ≤ 100) :
    Calls Tryd.prog 5 #[.string ⟨#[]⟩, .string d, .string o] w fun e w' => e = .returned (.bool true) ∧ Below w.heap.size w w' := by
  have HA := Lib.hid (alive10_any w hE ht)
  have HE := Lib.hid hE
  have hb2 : decide (100 < (d.size : Int)) = false := decide_eq_false (by omega)
  have hb3 : decide (100 < (o.size : Int)) = false := decide_eq_false (by omega)
  have hmk := made_32
  have HN := Lib.hid (fun W (hb : Below w.heap.size w W) => New_G (w0 := w) hb)
  obtain ⟨id, hid⟩ : ∃ id : ByteArray, id = ⟨(idL zeroK).toArray⟩ := ⟨_, rfl⟩
  have HADD : Hid (∀ W g, RG w W g [] [] → Calls Tryd.prog 17 #[.pointer (some ⟨g, 0, none⟩), .slice (some ⟨W.heap.size, 0, none⟩) 32 32] (W.alloc (.cells (bcells zeroK).toArray 5)) fun e w' => e = .returned (.tuple #[.string id, .nilIface]) ∧ RG w w' g [(id, zeroK)] []) := Lib.hid fun W g h => by
    rw [hid]
    exact (Add_G (h.below ((Below.refl _ W).alloc (Nat.le_refl _) _)) _ 32 zeroK (RB.alloc rfl) (by omega) (by unfold maxLen; omega) ht rfl).mono fun e w' ⟨h1, h2, _⟩ => ⟨h1, h2⟩
  have HRA : Hid (∀ W r, RR w W r [] [] → Calls Tryd.prog 22 #[.pointer (some ⟨r, 0, none⟩), .slice (some ⟨W.heap.size, 0, none⟩) 32 32] (W.alloc (.cells (bcells zeroK).toArray 5)) fun e w' => e = .returned (.string id) ∧ Below w.heap.size w w') := Lib.hid fun W r h => by
    rw [hid]
    exact (RAdd_new (h.below ((Below.refl _ W).alloc (Nat.le_refl _) _)) _ 32 32 zeroK (RB.alloc rfl) (by omega) (by simp) rfl).mono fun e w' ⟨h1, k, _, _, h4, _⟩ => ⟨h1, h4.bel⟩
  have HSE := Lib.hid (fun (W : World) (g0 : Value) (h : Below w.heap.size w W) => Seal_none g0 id d (hE.below h))
  clear hid hE ht h2 h3
  go_enter Tryd.func5, Tryd.ntmps5
  go_wp2_with (first
    | (go_at_call 10; refine HA.out.mono ?_; rintro e w1 ⟨rfl, hb1⟩; have B1 := Lib.hid hb1; clear hb1)
    | (go_at_call 16; refine (HN.out w1 B1.out).mono ?_; rintro e w2 ⟨rfl, hs2, -⟩; replace hs2 := Lib.hid hs2)
    | (go_at_call 17; refine (HADD.out w2 _ hs2.out).mono ?_; rintro e w3 ⟨rfl, hs3⟩; replace hs3 := Lib.hid hs3; have RN := Lib.hid (RR.new hs3.out.bel); have sz3 := Lib.hid (show (w3.alloc (.cells #[.slice none 0 0, .slice none 0 0] 55)).heap.size = w3.heap.size + 1 by simp))
    | (go_at_call 22; have HX := HRA.out _ _ RN.out; rw [sz3.out] at HX; refine HX.mono ?_; clear HX; rintro e w4 ⟨rfl, hb4⟩; replace hb4 := Lib.hid hb4)
    | (go_at_call 23; refine (HSE.out w4 _ hb4.out).mono ?_; rintro e w5 ⟨rfl, hb5⟩; have B5 := Lib.hid (hb4.out.trans (hb5.mono hb4.out.size)); clear hb5)
    | (go_at_call 14; refine (Num_err (HE.out.below B5.out) 8 (by omega) (by omega)).mono ?_; rintro e w6 ⟨rfl, hb6⟩; have B6 := Lib.hid (B5.out.trans (hb6.mono B5.out.size)); clear hb6))
  go_ret
  exact ⟨rfl, B6.out⟩

set_option maxHeartbeats 4000000 in
set_option maxRecDepth 100000 in
theorem KeysSeal_bad (s d o : ByteArray) (w : World) {ea : Nat → Addr} (hE : Errs w ea) (ht : ShaTabs w) (h1 : s.size ≤ 200) (h2 : d.size ≤ 100) (h3 : o.size ≤ 100) (hne : s.toList.isEmpty = false) (hf : wordBad d.data.toList = true) :
    Calls Tryd.prog 5 #[.string s, .string d, .string o] w fun e w' => e = .returned (.bool true) ∧ Below w.heap.size w w' := by
  have hb1 : decide (200 < (s.size : Int)) = false := decide_eq_false (by omega)
  have hse : (s.toList == []) = false := by cases h : s.toList with | nil => rw [h] at hne; cases hne | cons _ _ => rfl
  have hcs : ∀ W, (convert 9 22 (.string s)).run Tryd.prog W = .ok (.slice (some ⟨W.heap.size, 0, none⟩) s.size (grownCap W s.size 0 5)) (Lib.bytesWorld W 5 s) := fun W => Lib.run_convert_string_bytes W _ _ _ s Tryd.underlying9 Tryd.underlying22 Tryd.underlying5
  have HCV : Hid (∀ W, RB (Lib.bytesWorld W 5 s) (some ⟨W.heap.size, 0, none⟩) s.size s.data.toList ∧ s.size ≤ grownCap W s.size 0 5 ∧ grownCap W s.size 0 5 ≤ maxLen ∧ Below W.heap.size W (Lib.bytesWorld W 5 s)) := Lib.hid fun W => ⟨rb_bytesWorld W _ s, grownCap_ge W s.size 0 _, grownCap_le_maxLen W s.size 0 _ (by unfold maxLen; omega), below_bytesWorld W _ s⟩
  have HA := Lib.hid (alive10_any w hE ht)
  have HE := Lib.hid hE
  have hb2 : decide (100 < (d.size : Int)) = false := decide_eq_false (by omega)
  have hb3 : decide (100 < (o.size : Int)) = false := decide_eq_false (by omega)
  have hmk := made_32
  have HN := Lib.hid (fun W (hb : Below w.heap.size w W) => New_G (w0 := w) hb)
  obtain ⟨id, hid⟩ : ∃ id : ByteArray, id = ⟨(idL zeroK).toArray⟩ := ⟨_, rfl⟩
  have HADD : Hid (∀ W g, RG w W g [] [] → Calls Tryd.prog 17 #[.pointer (some ⟨g, 0, none⟩), .slice (some ⟨W.heap.size, 0, none⟩) 32 32] (W.alloc (.cells (bcells zeroK).toArray 5)) fun e w' => e = .returned (.tuple #[.string id, .nilIface]) ∧ RG w w' g [(id, zeroK)] []) := Lib.hid fun W g h => by
    rw [hid]
    exact (Add_G (h.below ((Below.refl _ W).alloc (Nat.le_refl _) _)) _ 32 zeroK (RB.alloc rfl) (by omega) (by unfold maxLen; omega) ht rfl).mono fun e w' ⟨h1, h2, _⟩ => ⟨h1, h2⟩
  have HRA : Hid (∀ W r, RR w W r [] [] → Calls Tryd.prog 22 #[.pointer (some ⟨r, 0, none⟩), .slice (some ⟨W.heap.size, 0, none⟩) 32 32] (W.alloc (.cells (bcells zeroK).toArray 5)) fun e w' => e = .returned (.string id) ∧ ∃ k, k.id = id ∧ k.key = zeroK ∧ RR w w' r [k] [] ∧ Fr (fun i => i = r) (W.alloc (.cells (bcells zeroK).toArray 5)) w') := Lib.hid fun W r h => by
    rw [hid]
    exact (RAdd_new (h.below ((Below.refl _ W).alloc (Nat.le_refl _) _)) _ 32 32 zeroK (RB.alloc rfl) (by omega) (by simp) rfl)
  have HFK : Hid (findK id [(id, zeroK)] = some zeroK) := Lib.hid (findK_one _ _)
  have HFR : Hid (∀ k : RK, k.id = id → findR id [k] = some k) := Lib.hid fun k hk => if_pos hk
  have HSE := Lib.hid (fun (W : World) g (h : RG w W g [(id, zeroK)] []) => Seal_bad h id zeroK HFK.out d s (by omega) hne (by omega) hf hE)
  have HOP := Lib.hid (fun (W : World) g (h : RG w W g [(id, zeroK)] []) => Open_bad h id zeroK HFK.out d s (by omega) hne (by omega) hf hE (.slice none 0 0))
  have HRS := Lib.hid (fun (W : World) r (k : RK) (hk : k.id = id) (h : RR w W r [k] []) A c hm hc1 hc2 => RSign_bad h id d k (HFR.out k hk) (by simp) A s.size c s.data.toList hm hc1 hc2 (by omega) (by omega) hf)
  have HRV := Lib.hid (fun (W : World) r (k : RK) (hk : k.id = id) (h : RR w W r [k] []) A c hm hc1 hc2 => RVerify_bad h id d k (HFR.out k hk) (by simp) A s.size c s.data.toList hm hc1 hc2 (by omega) (by omega) hf (.slice none 0 0))
  have HOO : Hid (∃ x : Nat, 1 ≤ x ∧ ∀ (W : World) g, RG w W g [(id, zeroK)] [] → Calls Tryd.prog 26 #[.pointer (some ⟨g, 0, none⟩), .string id, .agg #[.string o, .string s], .slice none 0 0, .func (.func 24) #[] #[]] W fun e w' => e = .returned (.iface 213 (.pointer (some (ea x)))) ∧ Below W.heap.size W w') := Lib.hid (by
    cases ho : wordBad o.data.toList with
    | true => exact ⟨8, by omega, fun W g h => Open_bad h id zeroK HFK.out o s (by omega) hne (by omega) ho hE (.slice none 0 0)⟩
    | false =>
      refine ⟨12, by omega, fun W g h => ?_⟩
      have hg : frameBad o.data.toList [s.data.toList] = false := by
        unfold frameBad partsBad
        rw [ho]
        have : s.data.toList.length = s.size := by simp
        simp [tooLong]
        omega
      have := Open_good h id zeroK HFK.out o s (by omega) hne hg ht hE none 0 0 [] (RB.nil _ _)
      rw [if_neg (fun h => by rw [inE_nil] at h; exact absurd h.2 (by decide))] at this
      exact this)
  obtain ⟨x, hx, hoo⟩ := HOO.out
  have HO2 := Lib.hid hoo
  have HE := Lib.hid hE
  clear hid hE ht h1 h2 h3 hne hf HOO hoo hx
  have cn := fun W => run_convert_bytes_nil (P := Tryd.prog) W 22 5 Tryd.underlying22 Tryd.underlying5 0 0 9 Tryd.underlying9
  obtain ⟨beq, hbeq⟩ : ∃ b, (o.toList == d.toList) = b := ⟨_, rfl⟩
  cases beq
  all_goals
    go_enter Tryd.func5, Tryd.ntmps5
    go_wp2_with (first
      | (go_at_call 10; refine HA.out.mono ?_; rintro e w1 ⟨rfl, hb1⟩; have B1 := Lib.hid hb1; clear hb1)
      | (go_at_call 16; refine (HN.out w1 B1.out).mono ?_; rintro e w2 ⟨rfl, hs2, -⟩; replace hs2 := Lib.hid hs2)
      | (go_at_call 17; refine (HADD.out w2 _ hs2.out).mono ?_; rintro e w3 ⟨rfl, hs3⟩; replace hs3 := Lib.hid hs3; have RN := Lib.hid (RR.new hs3.out.bel); have sz3 := Lib.hid (show (w3.alloc (.cells #[.slice none 0 0, .slice none 0 0] 55)).heap.size = w3.heap.size + 1 by simp))
      | (go_at_call 22; have HX := HRA.out _ _ RN.out; rw [sz3.out] at HX; refine HX.mono ?_; clear HX; rintro e w4 ⟨rfl, k, hki, hkk, hr4, hf4⟩; have BO := Lib.hid (Both.mk ((hs3.out.below (((Below.refl w3.heap.size w3).alloc (Nat.le_refl _) (.cells #[.slice none 0 0, .slice none 0 0] 55)).alloc (by simp) (.cells (bcells zeroK).toArray 5))).frR ((Below.heap_alloc _ _ _ (by simp)).trans (heap_alloc_new w3 _)) (by decide) hs3.out.bel.size hf4) hr4); have HKI := Lib.hid hki; clear hki hkk hr4 hf4)
      | (go_at_call 23; refine (HSE.out w4 _ BO.out.g).mono ?_; rintro e w5 ⟨rfl, hb5⟩; have BO5 := Lib.hid (BO.out.below hb5); have CV5 := Lib.hid (HCV.out w5); have BOc := Lib.hid (BO5.out.below CV5.out.2.2.2); clear hb5)
      | (go_at_call 25; refine (HRS.out _ _ k HKI.out BOc.out.r _ _ CV5.out.1 CV5.out.2.1 CV5.out.2.2.1).mono ?_; rintro e w6 ⟨rfl, hb6⟩; have BO6 := Lib.hid (BOc.out.below hb6); clear hb6)
      | (go_at_call 26; (with_reducible refine (HOP.out w7 _ BO7.out.g).mono ?_); rintro e w8 ⟨rfl, hb8⟩; have BO8 := Lib.hid (BO7.out.below hb8); clear hb8)
      | (go_at_call 26; (with_reducible refine (HO2.out w10 _ BO10.out.g).mono ?_); rintro e w11 ⟨rfl, hb11⟩; have BO11 := Lib.hid (BO10.out.below hb11); clear hb11)
      | (go_at_call 14; (with_reducible refine (Num_err (HE.out.below BO6.out.g.bel) 8 (by omega) (by omega)).mono ?_); rintro e w7 ⟨rfl, hb7⟩; have BO7 := Lib.hid (BO6.out.below hb7); clear hb7)
      | (go_at_call 14; (with_reducible refine (Num_err (HE.out.below BO8.out.g.bel) 8 (by omega) (by omega)).mono ?_); rintro e w9 ⟨rfl, hb9⟩; have BO9 := Lib.hid (BO8.out.below hb9); have CV9 := Lib.hid (HCV.out w9); have BOd := Lib.hid (BO9.out.below CV9.out.2.2.2); clear hb9)
      | (go_at_call 27; refine (HRV.out _ _ k HKI.out BOd.out.r _ _ CV9.out.1 CV9.out.2.1 CV9.out.2.2.1).mono ?_; rintro e w10 ⟨rfl, hb10⟩; have BO10 := Lib.hid (BOd.out.below hb10); clear hb10))
    go_ret
    first
      | exact ⟨rfl, BO11.out.g.bel⟩
      | exact ⟨rfl, BO10.out.g.bel⟩

set_option maxHeartbeats 4000000 in
set_option maxRecDepth 100000 in
theorem KeysSeal_good (s d o : ByteArray) (w : World) {ea : Nat → Addr} (hE : Errs w ea) (ht : ShaTabs w) (h1 : s.size ≤ 200) (h2 : d.size ≤ 100) (h3 : o.size ≤ 100) (hne : s.toList.isEmpty = false) (hf : wordBad d.data.toList = false) :
    Calls Tryd.prog 5 #[.string s, .string d, .string o] w fun e w' => e = .returned (.bool true) ∧ Below w.heap.size w w' := by
  have hb1 : decide (200 < (s.size : Int)) = false := decide_eq_false (by omega)
  have hse : (s.toList == []) = false := by cases h : s.toList with | nil => rw [h] at hne; cases hne | cons _ _ => rfl
  have hcs : ∀ W, (convert 9 22 (.string s)).run Tryd.prog W = .ok (.slice (some ⟨W.heap.size, 0, none⟩) s.size (grownCap W s.size 0 5)) (Lib.bytesWorld W 5 s) := fun W => Lib.run_convert_string_bytes W _ _ _ s Tryd.underlying9 Tryd.underlying22 Tryd.underlying5
  have HCV : Hid (∀ W, RB (Lib.bytesWorld W 5 s) (some ⟨W.heap.size, 0, none⟩) s.size s.data.toList ∧ s.size ≤ grownCap W s.size 0 5 ∧ grownCap W s.size 0 5 ≤ maxLen ∧ Below W.heap.size W (Lib.bytesWorld W 5 s)) := Lib.hid fun W => ⟨rb_bytesWorld W _ s, grownCap_ge W s.size 0 _, grownCap_le_maxLen W s.size 0 _ (by unfold maxLen; omega), below_bytesWorld W _ s⟩
  have HA := Lib.hid (alive10_any w hE ht)
  have HE := Lib.hid hE
  have hb2 : decide (100 < (d.size : Int)) = false := decide_eq_false (by omega)
  have hb3 : decide (100 < (o.size : Int)) = false := decide_eq_false (by omega)
  have hmk := made_32
  have HN := Lib.hid (fun W (hb : Below w.heap.size w W) => New_G (w0 := w) hb)
  obtain ⟨id, hid⟩ : ∃ id : ByteArray, id = ⟨(idL zeroK).toArray⟩ := ⟨_, rfl⟩
  have HADD : Hid (∀ W g, RG w W g [] [] → Calls Tryd.prog 17 #[.pointer (some ⟨g, 0, none⟩), .slice (some ⟨W.heap.size, 0, none⟩) 32 32] (W.alloc (.cells (bcells zeroK).toArray 5)) fun e w' => e = .returned (.tuple #[.string id, .nilIface]) ∧ RG w w' g [(id, zeroK)] []) := Lib.hid fun W g h => by
    rw [hid]
    exact (Add_G (h.below ((Below.refl _ W).alloc (Nat.le_refl _) _)) _ 32 zeroK (RB.alloc rfl) (by omega) (by unfold maxLen; omega) ht rfl).mono fun e w' ⟨h1, h2, _⟩ => ⟨h1, h2⟩
  have HRA : Hid (∀ W r, RR w W r [] [] → Calls Tryd.prog 22 #[.pointer (some ⟨r, 0, none⟩), .slice (some ⟨W.heap.size, 0, none⟩) 32 32] (W.alloc (.cells (bcells zeroK).toArray 5)) fun e w' => e = .returned (.string id) ∧ ∃ k, k.id = id ∧ k.key = zeroK ∧ RR w w' r [k] [] ∧ Fr (fun i => i = r) (W.alloc (.cells (bcells zeroK).toArray 5)) w') := Lib.hid fun W r h => by
    rw [hid]
    exact (RAdd_new (h.below ((Below.refl _ W).alloc (Nat.le_refl _) _)) _ 32 32 zeroK (RB.alloc rfl) (by omega) (by simp) rfl)
  have HFK : Hid (findK id [(id, zeroK)] = some zeroK) := Lib.hid (findK_one _ _)
  have HFR : Hid (∀ k : RK, k.id = id → findR id [k] = some k) := Lib.hid fun k hk => if_pos hk
  have hsl : s.data.toList.length = s.size := by simp
  have hgd : ∀ o : ByteArray, wordBad o.data.toList = false → frameBad o.data.toList [s.data.toList] = false := fun o ho => by
    unfold frameBad partsBad
    rw [ho]
    simp [tooLong]
    omega
  have hrd := hgd d hf
  obtain ⟨fr, hfr⟩ : ∃ fr, fr = frameB d.data.toList [s.data.toList] := ⟨_, rfl⟩
  have HSE := Lib.hid (fun (W : World) g (h : RG w W g [(id, zeroK)] []) => Seal_good h id zeroK HFK.out d s (by omega) hne hrd ht)
  have HOP : Hid (∀ (W : World) g q, RG w W g [(id, zeroK)] (putE id ⟨fr.toArray⟩ []) → RB W (some ⟨q, 0, none⟩) 32 (hmacF zeroK fr) → Calls Tryd.prog 26 #[.pointer (some ⟨g, 0, none⟩), .string id, .agg #[.string d, .string s], .slice (some ⟨q, 0, none⟩) 32 32, .func (.func 24) #[] #[]] W fun e w' => e = .returned .nilIface ∧ Below W.heap.size W w') := Lib.hid fun W g q h hr => by
    have := Open_good h id zeroK HFK.out d s (by omega) hne hrd ht hE (some ⟨q, 0, none⟩) 32 32 _ hr
    rw [← hfr, if_pos ⟨rfl, inE_put_same _ _ _⟩] at this
    exact this
  have HRS := Lib.hid (fun (W : World) r (k : RK) (hk : k.id = id) (hkk : k.key = zeroK) (h : RR w W r [k] []) A c hm hc1 hc2 => RSign_good h id d k (HFR.out k hk) (by simp) (by simp) (by simp) A s.size c s.data.toList hm hc1 hc2 (by omega) (by omega) hf (by rw [hkk]; decide) rfl)
  have HRV : Hid (∀ (W : World) r (k : RK) q, k.id = id → k.key = zeroK → RR w W r [k] [⟨id, d, ⟨s.data.toList.toArray⟩⟩] → RB W (some ⟨q, 0, none⟩) 32 (hmacF zeroK fr) → ∀ A c, RB W A s.size s.data.toList → s.size ≤ c → c ≤ maxLen → Calls Tryd.prog 27 #[.pointer (some ⟨r, 0, none⟩), .string id, .string d, .slice A s.size c, .slice (some ⟨q, 0, none⟩) 32 32] W fun e w' => e = .returned (.int .i64 0) ∧ Below W.heap.size W w') := Lib.hid fun W r k q hk hkk h hr A c hm hc1 hc2 => by
    have := RVerify_good h id d k (HFR.out k hk) (by simp) (by simp) (by simp) A s.size c s.data.toList hm hc1 hc2 (by omega) (by omega) hf (by rw [hkk]; decide) (some ⟨q, 0, none⟩) 32 32 _ hr
    rw [hkk, ← hfr, if_pos ⟨rfl, by simp [eqLn]⟩] at this
    exact this
  have HOO : Hid (∃ x : Nat, 1 ≤ x ∧ (o ≠ d → ∀ (W : World) g q, RG w W g [(id, zeroK)] (putE id ⟨fr.toArray⟩ []) → RB W (some ⟨q, 0, none⟩) 32 (hmacF zeroK fr) → Calls Tryd.prog 26 #[.pointer (some ⟨g, 0, none⟩), .string id, .agg #[.string o, .string s], .slice (some ⟨q, 0, none⟩) 32 32, .func (.func 24) #[] #[]] W fun e w' => e = .returned (.iface 213 (.pointer (some (ea x)))) ∧ Below W.heap.size W w')) := Lib.hid (by
    cases ho : wordBad o.data.toList with
    | true => exact ⟨8, by omega, fun _ W g q h hr => Open_bad h id zeroK HFK.out o s (by omega) hne (by omega) ho hE (.slice (some ⟨q, 0, none⟩) 32 32)⟩
    | false =>
      refine ⟨12, by omega, fun hod W g q h hr => ?_⟩
      have := Open_good h id zeroK HFK.out o s (by omega) hne (hgd o ho) ht hE (some ⟨q, 0, none⟩) 32 32 _ hr
      have hin : inE id ⟨(frameB o.data.toList [s.data.toList]).toArray⟩ (putE id ⟨fr.toArray⟩ []) = false := by
        rw [inE_put_other, inE_nil]
        rintro ⟨_, h2⟩
        rw [hfr] at h2
        have l1 := wordBad_len ho
        have l2 := wordBad_len hf
        have e : frameB o.data.toList [s.data.toList] = frameB d.data.toList [s.data.toList] := by injection h2 with h2; injection h2 with h2
        have := (frameB_prefix o.data.toList d.data.toList [s.data.toList] [s.data.toList] [] (by omega) (by omega) (by simp) (by simp) (fun p hp => by rw [List.mem_singleton.1 hp]; omega) (fun p hp => by rw [List.mem_singleton.1 hp]; omega) (by rw [List.append_nil]; exact e)).1
        refine hod (bytes_inj ?_)
        rw [ByteArray.toList_eq, ByteArray.toList_eq]
        exact this
      rw [if_neg (fun h => by rw [hin] at h; exact absurd h.2 (by decide))] at this
      exact this)
  obtain ⟨x, hx, hoo⟩ := HOO.out
  rw [← hfr] at HSE HRS
  have Hm32 : Hid ((hmacF zeroK fr).length = 32) := Lib.hid (shaB_length _ _ _)
  have hcase : ∃ b, (o.toList == d.toList) = b ∧ (b = false → o ≠ d) := ⟨_, rfl, fun h e => by rw [e, beq_self_eq_true] at h; cases h⟩
  have HRS2 : Hid (∀ (W : World) r (k : RK), k.id = id → k.key = zeroK → RR w W r [k] [] → ∀ A c, RB W A s.size s.data.toList → s.size ≤ c → c ≤ maxLen → Calls Tryd.prog 25 #[.pointer (some ⟨r, 0, none⟩), .string id, .string d, .slice A s.size c] W fun e w' => ∃ v, e = .returned (.tuple #[v, .int .i64 0]) ∧ OB w' W.heap.size v (hmacF zeroK fr) ∧ RR w w' r [k] [⟨id, d, ⟨s.data.toList.toArray⟩⟩] ∧ Fr (fun i => i = r) W w') := Lib.hid fun W r k hk hkk h A c hm hc1 hc2 => by
    have := HRS.out W r k hk hkk h A c hm hc1 hc2
    rw [hkk] at this
    exact this
  clear hid hE ht h1 h2 h3 hne hf HOO hx hgd hrd hfr HRS hsl
  generalize hmacF zeroK fr = mac at *
  obtain ⟨beq, hbeq, hbo⟩ := hcase
  have HO2 := Lib.hid (fun h => hoo (hbo h))
  clear hoo hbo
  have sm := str_list mac
  cases beq
  all_goals
    go_enter Tryd.func5, Tryd.ntmps5
    go_wp2_with (first
      | (go_at_call 10; refine HA.out.mono ?_; rintro e w1 ⟨rfl, hb1⟩; have B1 := Lib.hid hb1; clear hb1)
      | (go_at_call 16; refine (HN.out w1 B1.out).mono ?_; rintro e w2 ⟨rfl, hs2, -⟩; replace hs2 := Lib.hid hs2)
      | (go_at_call 17; refine (HADD.out w2 _ hs2.out).mono ?_; rintro e w3 ⟨rfl, hs3⟩; replace hs3 := Lib.hid hs3; have RN := Lib.hid (RR.new hs3.out.bel); have sz3 := Lib.hid (show (w3.alloc (.cells #[.slice none 0 0, .slice none 0 0] 55)).heap.size = w3.heap.size + 1 by simp))
      | (go_at_call 22; have HX := HRA.out _ _ RN.out; rw [sz3.out] at HX; refine HX.mono ?_; clear HX; rintro e w4 ⟨rfl, k, hki, hkk, hr4, hf4⟩; have BO := Lib.hid (Both.mk ((hs3.out.below (((Below.refl w3.heap.size w3).alloc (Nat.le_refl _) (.cells #[.slice none 0 0, .slice none 0 0] 55)).alloc (by simp) (.cells (bcells zeroK).toArray 5))).frR ((Below.heap_alloc _ _ _ (by simp)).trans (heap_alloc_new w3 _)) (by decide) hs3.out.bel.size hf4) hr4); have HKI := Lib.hid (And.intro hki hkk); clear hki hkk hr4 hf4)
      | (go_at_call 23; refine (HSE.out w4 _ BO.out.g).mono ?_; rintro e w5 ⟨q, rfl, hr5, hg5, hk5⟩; have BO5 := Lib.hid (Both.mk hg5 (BO.out.r.kb hk5 hg5.bel)); have CV5 := Lib.hid (HCV.out w5); have BOc := Lib.hid (BO5.out.below CV5.out.2.2.2); have Q5 := Lib.hid (hr5.keep (Keeps.of_below CV5.out.2.2.2)); clear hr5 hg5 hk5)
      | (go_at_call 25; refine (HRS2.out _ _ k HKI.out.1 HKI.out.2 BOc.out.r _ _ CV5.out.1 CV5.out.2.1 CV5.out.2.2.1).mono ?_; rintro e w6 ⟨v6, rfl, hv6, hr6, hf6⟩; obtain ⟨A6, c6, rfl, hc6, hm6, hrb6⟩ := hv6.form; obtain ⟨vk, vb, hrow, -, -⟩ := BOc.out.r.rows; have BO6 := Lib.hid (Both.mk (BOc.out.g.frR hrow (by decide) BOc.out.r.low hf6) hr6); have Q6 := Lib.hid (Q5.out.frR BOc.out.r hf6); have cx := run_bytes_string (P := Tryd.prog) Tryd.underlying22 Tryd.underlying5 Tryd.underlying9 (c := 32) Q6.out; have cy := run_bytes_string (P := Tryd.prog) Tryd.underlying22 Tryd.underlying5 Tryd.underlying9 (c := c6) hrb6; clear hv6 hr6 hf6 hrow hrb6)
      | (go_at_call 14; (refine (Num_nil _).mono ?_); rintro e w7 ⟨rfl, rfl⟩)
      | (go_at_call 26; (with_reducible refine (HOP.out w6 _ q BO6.out.g Q6.out).mono ?_); rintro e w8 ⟨rfl, hb8⟩; have BO8 := Lib.hid (BO6.out.below hb8); have Q8 := Lib.hid (Q6.out.keep (Keeps.of_below hb8)); have CV9 := Lib.hid (HCV.out w8); have BOd := Lib.hid (BO8.out.below CV9.out.2.2.2); have Qd := Lib.hid (Q8.out.keep (Keeps.of_below CV9.out.2.2.2)); clear hb8)
      | (go_at_call 27; refine (HRV.out _ _ k q HKI.out.1 HKI.out.2 BOd.out.r Qd.out _ _ CV9.out.1 CV9.out.2.1 CV9.out.2.2.1).mono ?_; rintro e w10 ⟨rfl, hb10⟩; have BO10 := Lib.hid (BOd.out.below hb10); have Q10 := Lib.hid (Qd.out.keep (Keeps.of_below hb10)); clear hb10)
      | (go_at_call 26; (with_reducible refine (HO2.out (by trivial) w10 _ q BO10.out.g Q10.out).mono ?_); rintro e w11 ⟨rfl, hb11⟩; have BO11 := Lib.hid (BO10.out.below hb11); clear hb11))
    go_ret
    first
      | exact ⟨rfl, BO11.out.g.bel⟩
      | exact ⟨rfl, BO10.out.g.bel⟩
end Go.Proofs.YtlfeofakggkebaaDoor
