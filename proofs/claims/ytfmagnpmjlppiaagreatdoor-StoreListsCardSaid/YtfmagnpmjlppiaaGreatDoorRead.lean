/- Layer 20 (store): a change's bytes read. -/
import Derived.Test.YtfmagnpmjlppiaaGreatDoorDerR
import Derived.Test.YtfmagnpmjlppiaaGreatDoorStP
import Derived.Test.YtfmagnpmjlppiaaGreatDoorNam
namespace Go.Proofs.YtfmagnpmjlppiaaGreatDoor
open Go.RowKit SO

theorem info_event : (Tryz.prog.info? 61).map (·.size) = some 7 := by kernel_rfl

set_option maxHeartbeats 4000000 in
set_option maxRecDepth 100000 in
theorem read_put (A : Option Addr) (n c : Nat) (o : ObM) (w : World) (hb : RB w A n (evO (false, o))) (hnc : n ≤ c) (hc : c ≤ maxLen) (ho : o.Ok) (hv1 : 1 ≤ o.ver) (hv : o.ver ≤ 1099511627776) :
  Calls Tryz.prog 34 #[.slice A n c] w fun en w' => ∃ A1 c1, en = .returned (.tuple #[.agg #[.int .i64 (o.ver : Int), .bool false, .int .i64 (o.kind : Int), .string o.space, .string o.name, .int .i64 (o.ver : Int), (.slice A1 o.data.length c1)], .nilIface]) ∧ OB w' w.heap.size (.slice A1 o.data.length c1) o.data ∧ Below w.heap.size w w' := by
 obtain ⟨w1, hw1⟩ : ∃ W, W = w.alloc (.cells #[.int .i64 0, .bool false, .int .i64 0, .string ⟨#[]⟩, .string ⟨#[]⟩, .int .i64 0, .slice none 0 0] 61) := ⟨_, rfl⟩
 obtain ⟨B, hB⟩ : ∃ B, B = w.heap.size := ⟨_, rfl⟩
 have hb1 := (Below.refl w.heap.size w).alloc Kj (.cells #[.int .i64 0, .bool false, .int .i64 0, .string ⟨#[]⟩, .string ⟨#[]⟩, .int .i64 0, .slice none 0 0] 61)
 have hr1 := heap_alloc_new w (.cells #[.int .i64 0, .bool false, .int .i64 0, .string ⟨#[]⟩, .string ⟨#[]⟩, .int .i64 0, .slice none 0 0] 61)
 rw [← hw1] at hb1 hr1
 rw [← hB] at hr1
 have hB1 : B < w1.heap.size := (Cz hr1)
 obtain ⟨p1, p2, p3, p4, p5⟩ := ho.parts
 have hp6 := ho.data
 obtain ⟨ks, hks⟩ : ∃ ks : List (Nat × List UInt8), ks = [(10, intB 1), (10, intB o.kind), (4, o.space.data.toList), (4, o.name.data.toList), (2, intB o.ver), (4, o.data)] := ⟨_, rfl⟩
 have hP : Plains ks := by
  rw [hks]
  intro k hk
  have i1 : (intB 1).length ≤ 9 := intB_len (by omega)
  have i2 : (intB o.kind).length ≤ 9 := intB_len (by omega)
  have i3 : (intB o.ver).length ≤ 9 := intB_len (by omega)
  have i4 := size_data o.space
  have i5 := size_data o.name
  simp only [List.mem_cons, List.not_mem_nil, or_false] at hk
  rcases hk with rfl | rfl | rfl | rfl | rfl | rfl
  all_goals refine ⟨by first | exact (by decide : (10 : Int) ∈ plainT) | exact (by decide : (4 : Int) ∈ plainT) | exact (by decide : (2 : Int) ∈ plainT), ?_⟩
  all_goals (dsimp only; omega)
 obtain ⟨body, hbody⟩ : ∃ b, b = elemsB ks := ⟨_, rfl⟩
 have hev : evO (false, o) = elemB 48 body := by
  rw [hbody, hks]; simp [evO, evB, evK, elemsB]
 have hlen : (evO (false, o)).length ≤ 10504 := evO_len (e := (false, o)) ho hv
 have hbl : body.length ≤ 10504 := by
  rw [hev] at hlen
  unfold elemB at hlen
  simp only [List.length_cons, List.length_append] at hlen
  omega
 obtain ⟨x6, hx6⟩ : ∃ x, x = elemB 4 o.data ++ ([] : List UInt8) := ⟨_, rfl⟩
 obtain ⟨x5, hx5⟩ : ∃ x, x = elemB 2 (intB o.ver) ++ x6 := ⟨_, rfl⟩
 obtain ⟨x4, hx4⟩ : ∃ x, x = elemB 4 o.name.data.toList ++ x5 := ⟨_, rfl⟩
 obtain ⟨x3, hx3⟩ : ∃ x, x = elemB 4 o.space.data.toList ++ x4 := ⟨_, rfl⟩
 obtain ⟨x2, hx2⟩ : ∃ x, x = elemB 10 (intB o.kind) ++ x3 := ⟨_, rfl⟩
 have hbx : body = elemB 10 (intB 1) ++ x2 := by
  rw [hbody, hks, hx2, hx3, hx4, hx5, hx6]; simp [elemsB]
 have l2 : x2.length ≤ 1000000 := by have := congrArg List.length hbx; rw [List.length_append] at this; omega
 have l3 : x3.length ≤ 1000000 := by have := congrArg List.length hx2; rw [List.length_append] at this; omega
 have l4 : x4.length ≤ 1000000 := by have := congrArg List.length hx3; rw [List.length_append] at this; omega
 have l5 : x5.length ≤ 1000000 := by have := congrArg List.length hx4; rw [List.length_append] at this; omega
 have l6 : x6.length ≤ 1000000 := by have := congrArg List.length hx5; rw [List.length_append] at this; omega
 have HRead := Hj (Read_der A n c ks w1 hP (by rw [← hbody, ← hev]; exact hb.keep (Kz hb1)) hnc hc (by rw [← hbody]; omega) (by have := hb.1; omega))
 rw [← hbody] at HRead
 have HEnter : Hid (∀ (W : World) (g : Nat) (lv v : Value), Rd w1 W g lv [(elemB 48 body, v)] → Calls Tryz.prog 80 #[.pointer (some ⟨g, 0, none⟩), .int .i64 48] W fun e w' => e = .returned (.bool true) ∧ ∃ lv' v' vb, Rd w1 w' g lv' ([([], v')] ++ [(elemB 10 (intB 1) ++ x2, vb)])) := Hj (by
  intro W g lv v h
  refine (Enter_der body h (by omega)).mono ?_
  rintro e w' ⟨rfl, lv', v', vb, hr⟩
  exact ⟨rfl, lv', v', vb, by rw [← hbx]; exact hr⟩)
 have HEnW : Hid (∀ (W : World) (g : Nat) (lv vp v : Value), Rd w1 W g lv ([([], vp)] ++ [(elemB 10 (intB 1) ++ x2, v)]) → Calls Tryz.prog 81 #[.pointer (some ⟨g, 0, none⟩), .int .i64 1, .int .i64 2] W fun e w' => e = .returned (.int .i64 1) ∧ (∃ v', Rd w1 w' g lv ([([], vp)] ++ [(elemB 10 (intB o.kind) ++ x3, v')])) ∧ Fr (fun k => lv.ownBlock = some k) W w') := Hj (by
  intro W g lv vp v h
  rw [← hx2]
  exact REnum 1 1 2 h (by simp) (by omega) l2 (by omega) (by omega))
 have HEnK : Hid (∀ (W : World) (g : Nat) (lv vp v : Value), Rd w1 W g lv ([([], vp)] ++ [(elemB 10 (intB o.kind) ++ x3, v)]) → Calls Tryz.prog 81 #[.pointer (some ⟨g, 0, none⟩), .int .i64 1, .int .i64 7] W fun e w' => e = .returned (.int .i64 (o.kind : Int)) ∧ (∃ v', Rd w1 w' g lv ([([], vp)] ++ [(elemB 4 o.space.data.toList ++ x4, v')])) ∧ Fr (fun k => lv.ownBlock = some k) W w') := Hj (by
  intro W g lv vp v h
  rw [← hx3]
  exact REnum o.kind 1 7 h (by simp) (by omega) l3 (by omega) (by omega))
 have i4 := size_data o.space
 have i5 := size_data o.name
 have HOcS : Hid (∀ (W : World) (g : Nat) (lv vp v : Value), Rd w1 W g lv ([([], vp)] ++ [(elemB 4 o.space.data.toList ++ x4, v)]) → Calls Tryz.prog 82 #[.pointer (some ⟨g, 0, none⟩), .int .i64 0, .int .i64 24] W fun e w' => ∃ A c, e = .returned (.slice A o.space.data.toList.length c) ∧ OB w' W.heap.size (.slice A o.space.data.toList.length c) o.space.data.toList ∧ (∃ v', Rd w1 w' g lv ([([], vp)] ++ [(elemB 4 o.name.data.toList ++ x5, v')])) ∧ Fr (fun k => lv.ownBlock = some k) W w') := Hj (by
  intro W g lv vp v h
  rw [← hx4]
  exact ROctets _ 0 24 h (by simp) (by omega) l4 (by omega) (by omega))
 have HOcN : Hid (∀ (W : World) (g : Nat) (lv vp v : Value), Rd w1 W g lv ([([], vp)] ++ [(elemB 4 o.name.data.toList ++ x5, v)]) → Calls Tryz.prog 82 #[.pointer (some ⟨g, 0, none⟩), .int .i64 1, .int .i64 24] W fun e w' => ∃ A c, e = .returned (.slice A o.name.data.toList.length c) ∧ OB w' W.heap.size (.slice A o.name.data.toList.length c) o.name.data.toList ∧ (∃ v', Rd w1 w' g lv ([([], vp)] ++ [(elemB 2 (intB o.ver) ++ x6, v')])) ∧ Fr (fun k => lv.ownBlock = some k) W w') := Hj (by
  intro W g lv vp v h
  rw [← hx5]
  exact ROctets _ 1 24 h (by simp) (by omega) l5 (by omega) (by omega))
 have HInt : Hid (∀ (W : World) (g : Nat) (lv vp v : Value), Rd w1 W g lv ([([], vp)] ++ [(elemB 2 (intB o.ver) ++ x6, v)]) → Calls Tryz.prog 83 #[.pointer (some ⟨g, 0, none⟩), .int .i64 1, .int .i64 1099511627776] W fun e w' => e = .returned (.int .i64 (o.ver : Int)) ∧ (∃ v', Rd w1 w' g lv ([([], vp)] ++ [(elemB 4 o.data ++ [], v')])) ∧ Fr (fun k => lv.ownBlock = some k) W w') := Hj (by
  intro W g lv vp v h
  rw [← hx6]
  exact RInt o.ver 1 1099511627776 h (by simp) (by omega) l6 (by omega) (by omega))
 have HOcD : Hid (∀ (W : World) (g : Nat) (lv vp v : Value), Rd w1 W g lv ([([], vp)] ++ [(elemB 4 o.data ++ [], v)]) → Calls Tryz.prog 82 #[.pointer (some ⟨g, 0, none⟩), .int .i64 0, .int .i64 8192] W fun e w' => ∃ A c, e = .returned (.slice A o.data.length c) ∧ OB w' W.heap.size (.slice A o.data.length c) o.data ∧ (∃ v', Rd w1 w' g lv ([([], vp)] ++ [([], v')])) ∧ Fr (fun k => lv.ownBlock = some k) W w') := Hj (by
  intro W g lv vp v h
  exact ROctets _ 0 8192 h (by simp) (by omega) (by simp) (by omega) (by omega))
 have HNam : Hid (∀ (A : Option Addr) (c : Nat) (W : World), Calls Tryz.prog 54 #[.agg #[.int .i64 (o.kind : Int), .string o.space, .string o.name, .int .i64 (o.ver : Int), .slice A o.data.length c]] W fun e w' => e = .returned (.bool true) ∧ Below W.heap.size W w') := Hj fun A c W => by
  have h := named_any ⟨o.kind, o.space, o.name, o.ver, A, o.data.length, c⟩ W
  rw [ho.named] at h
  exact h
 have HCv : Hid (∀ (W : World) (b : Nat) (A : Option Addr) (c : Nat) (s : ByteArray), OB W b (.slice A s.data.toList.length c) s.data.toList → (convert 24 9 (.slice A s.size c)).run Tryz.prog W = .ok (.string s) W) := Hj fun W b A c s h => by
  rw [← size_data]
  obtain ⟨A', c', e', -, -, h3⟩ := OB.form h
  injection e' with e1 e2 e3
  subst e1
  have h4 := run_bytes_string (c := c) Tryz.underlying24 Tryz.underlying5 Tryz.underlying9 h3
  rw [h4]
 skip
 have HB1 := Hj hb1
 have HRow := Hj hr1
 have HBl := Hj hB1
 have HW1 := Hj hw1
 have HBE := Hj hB
 clear hb hnc hc ho hv1 hv hw1 hB hb1 hr1 hB1 p1 p2 p3 p4 p5 hp6 hks hP hbody hev hlen hbl hx6 hx5 hx4 hx3 hx2 hbx l2 l3 l4 l5 l6 i4 i5
 go_enter Tryz.func34, Tryz.ntmps34
 go_wp2_with (first
  | (go_at_call 79; rw [← HW1.out, ← HBE.out]; (with_reducible refine HRead.out.mono ?_); rintro e w2 ⟨g, q2, v2, rfl, hr2⟩; have R2 := Hj hr2; clear hr2)
  | (go_at_call 80; (with_reducible refine (HEnter.out _ _ _ _ R2.out).mono ?_); rintro e w3 ⟨rfl, lv, vp, vb, hr3⟩; have R3 := Hj hr3; clear hr3)
  | (go_at_call 81; (with_reducible refine (HEnW.out _ _ _ _ _ R3.out).mono ?_); rintro e w4 ⟨rfl, ⟨v4, hr4⟩, hf4⟩; have R4 := Hj hr4; clear hr4 hf4)
  | (go_at_call 81; obtain ⟨E, hE⟩ : ∃ E, E = w4.heap.size := ⟨_, rfl⟩; have R5 : Rd w1 (w4.alloc (.cells #[.int .i64 0, .bool false, .int .i64 0, .string ⟨#[]⟩, .string ⟨#[]⟩, .int .i64 0, (.slice none 0 0)] 61)) g lv _ := R4.out.below ((Below.refl _ w4).alloc Kj _); have row5 : (w4.alloc (.cells #[.int .i64 0, .bool false, .int .i64 0, .string ⟨#[]⟩, .string ⟨#[]⟩, .int .i64 0, (.slice none 0 0)] 61)).heap[E]? = some (.cells #[.int .i64 0, .bool false, .int .i64 0, .string ⟨#[]⟩, .string ⟨#[]⟩, .int .i64 0, (.slice none 0 0)] 61 (0, 0)) := (by rw [hE]; exact heap_alloc_new w4 _); have hne : lv.ownBlock ≠ some E := (fun e => by have h := (OwnS.lt R4.out.left E e).2; rw [hE] at h; exact Nat.lt_irrefl _ h); have HNE := Hj hne; have HEup : Hid (w1.heap.size ≤ E) := Hj (by rw [hE]; exact R4.out.bel.size); (with_reducible refine (HEnK.out _ _ _ _ _ R5).mono ?_); rintro e w6 ⟨rfl, ⟨v6, hr6⟩, hf6⟩; have R6 := Hj hr6; have row6 : w6.heap[E]? = some (.cells #[.int .i64 0, .bool false, .int .i64 0, .string ⟨#[]⟩, .string ⟨#[]⟩, .int .i64 0, (.slice none 0 0)] 61 (0, 0)) := (hf6.block E (Cz row5) hne).trans row5; have Row6 := Hj row6; have f6 : ∀ k, w6.frozen? ⟨E, k, none⟩ = false := (fun k => Kx row6); obtain ⟨c6_0, c6_1, c6_2, c6_3, c6_4, c6_5, c6_6⟩ := cells7 row6; clear row6; rw [← hE]; clear hr6 hf6 hne R5 row5; have HE := Hj hE; clear hE)
  | (go_at_call 82; (with_reducible refine (HOcS.out _ _ _ _ _ (Rd.other (b := E) (i := 2) (u := (.int .i64 (o.kind : Int))) R6.out Row6.out (by decide) (by decide) (by decide) HEup.out)).mono ?_); rintro e w7 ⟨A7, c7, rfl, ho7, ⟨v7, hr7⟩, hf7⟩; have R7 := Hj hr7; have row7 : w7.heap[E]? = some (.cells #[.int .i64 0, .bool false, .int .i64 (o.kind : Int), .string ⟨#[]⟩, .string ⟨#[]⟩, .int .i64 0, (.slice none 0 0)] 61 (0, 0)) := (hf7.block E (by have h := (Array.getElem?_eq_some_iff.1 (heap_setCell_same _ _ 2 _ _ (.int .i64 (o.kind : Int)) Row6.out)).1; exact h) HNE.out).trans (heap_setCell_same _ _ 2 _ _ (.int .i64 (o.kind : Int)) Row6.out); have Row7 := Hj row7; have f7 : ∀ k, w7.frozen? ⟨E, k, none⟩ = false := (fun k => Kx row7); obtain ⟨c7_0, c7_1, c7_2, c7_3, c7_4, c7_5, c7_6⟩ := cells7 row7; clear row7; clear f6 c6_0 c6_1 c6_2 c6_3 c6_4 c6_5 c6_6; have hcv7 := HCv.out _ _ _ _ _ ho7; clear ho7; clear hr7 hf7)
  | (go_at_call 82; (with_reducible refine (HOcN.out _ _ _ _ _ (Rd.other (b := E) (i := 3) (u := (.string o.space)) R7.out Row7.out (by decide) (by decide) (by decide) HEup.out)).mono ?_); rintro e w8 ⟨A8, c8, rfl, ho8, ⟨v8, hr8⟩, hf8⟩; have R8 := Hj hr8; have row8 : w8.heap[E]? = some (.cells #[.int .i64 0, .bool false, .int .i64 (o.kind : Int), .string o.space, .string ⟨#[]⟩, .int .i64 0, (.slice none 0 0)] 61 (0, 0)) := (hf8.block E (by have h := (Array.getElem?_eq_some_iff.1 (heap_setCell_same _ _ 3 _ _ (.string o.space) Row7.out)).1; exact h) HNE.out).trans (heap_setCell_same _ _ 3 _ _ (.string o.space) Row7.out); have Row8 := Hj row8; have f8 : ∀ k, w8.frozen? ⟨E, k, none⟩ = false := (fun k => Kx row8); obtain ⟨c8_0, c8_1, c8_2, c8_3, c8_4, c8_5, c8_6⟩ := cells7 row8; clear row8; clear f7 c7_0 c7_1 c7_2 c7_3 c7_4 c7_5 c7_6; have hcv8 := HCv.out _ _ _ _ _ ho8; clear ho8 hcv7; clear hr8 hf8)
  | (go_at_call 83; (with_reducible refine (HInt.out _ _ _ _ _ (Rd.other (b := E) (i := 4) (u := (.string o.name)) R8.out Row8.out (by decide) (by decide) (by decide) HEup.out)).mono ?_); rintro e w9 ⟨rfl, ⟨v9, hr9⟩, hf9⟩; have R9 := Hj hr9; have row9 : w9.heap[E]? = some (.cells #[.int .i64 0, .bool false, .int .i64 (o.kind : Int), .string o.space, .string o.name, .int .i64 0, (.slice none 0 0)] 61 (0, 0)) := (hf9.block E (by have h := (Array.getElem?_eq_some_iff.1 (heap_setCell_same _ _ 4 _ _ (.string o.name) Row8.out)).1; exact h) HNE.out).trans (heap_setCell_same _ _ 4 _ _ (.string o.name) Row8.out); have Row9 := Hj row9; have f9 : ∀ k, w9.frozen? ⟨E, k, none⟩ = false := (fun k => Kx row9); obtain ⟨c9_0, c9_1, c9_2, c9_3, c9_4, c9_5, c9_6⟩ := cells7 row9; clear row9; clear f8 c8_0 c8_1 c8_2 c8_3 c8_4 c8_5 c8_6; clear hcv8; clear hr9 hf9)
  | (go_at_call 82; (with_reducible refine (HOcD.out _ _ _ _ _ (Rd.other (b := E) (i := 0) (u := (.int .i64 (o.ver : Int))) R9.out Row9.out (by decide) (by decide) (by decide) HEup.out)).mono ?_); rintro e w10 ⟨A10, c10, rfl, ho10, ⟨v10, hr10⟩, hf10⟩; have R10 := Hj hr10; have row10 : w10.heap[E]? = some (.cells #[.int .i64 (o.ver : Int), .bool false, .int .i64 (o.kind : Int), .string o.space, .string o.name, .int .i64 0, (.slice none 0 0)] 61 (0, 0)) := (hf10.block E (by have h := (Array.getElem?_eq_some_iff.1 (heap_setCell_same _ _ 0 _ _ (.int .i64 (o.ver : Int)) Row9.out)).1; exact h) HNE.out).trans (heap_setCell_same _ _ 0 _ _ (.int .i64 (o.ver : Int)) Row9.out); have Row10 := Hj row10; have f10 : ∀ k, w10.frozen? ⟨E, k, none⟩ = false := (fun k => Kx row10); obtain ⟨c10_0, c10_1, c10_2, c10_3, c10_4, c10_5, c10_6⟩ := cells7 row10; clear row10; clear f9 c9_0 c9_1 c9_2 c9_3 c9_4 c9_5 c9_6; have HO10 : Hid (OB w10 w1.heap.size (.slice A10 o.data.length c10) o.data) := Hj (OB.mono ho10 (Kv R9.out.bel.size (Nat.le_of_eq (by simp)))); clear ho10; clear hr10 hf10)
  | (go_at_call 84; (with_reducible refine (Leave_der (x := ([], vp)) (Rd.other (b := E) (i := 6) (u := (.slice A10 o.data.length c10)) R10.out Row10.out (by decide) (by decide) (by decide) HEup.out)).mono ?_); rintro e w11 ⟨rfl, lv11, hr11, hf11⟩; have R11 := Hj hr11; have hng : E ≠ g := (fun e => absurd (types_ne Row10.out (by rw [e]; exact R10.out.row)) (by decide)); have row11 : w11.heap[E]? = some (.cells #[.int .i64 (o.ver : Int), .bool false, .int .i64 (o.kind : Int), .string o.space, .string o.name, .int .i64 0, (.slice A10 o.data.length c10)] 61 (0, 0)) := (hf11.block E (by have h := (Array.getElem?_eq_some_iff.1 (heap_setCell_same _ _ 6 _ _ (.slice A10 o.data.length c10) Row10.out)).1; exact h) hng).trans (heap_setCell_same _ _ 6 _ _ (.slice A10 o.data.length c10) Row10.out); have Row11 := Hj row11; have f11 : ∀ k, w11.frozen? ⟨E, k, none⟩ = false := (fun k => Kx row11); obtain ⟨c11_0, c11_1, c11_2, c11_3, c11_4, c11_5, c11_6⟩ := cells7 row11; clear row11; have HO11 : Hid (OB w11 w1.heap.size (.slice A10 o.data.length c10) o.data) := Hj (by
   have h1 := OB.other (i := 6) (u := (.slice A10 o.data.length c10)) HO10.out Row10.out (by decide)
   refine OB.keepB h1 fun k hk => hf11.block k (h1.lt k hk).2 fun e => ?_
   obtain ⟨cur, hcur⟩ := own_type h1 hk
   rw [e] at hcur
   exact absurd (types_ne hcur (Rd.other (b := E) (i := 6) (u := (.slice A10 o.data.length c10)) R10.out Row10.out (by decide) (by decide) (by decide) HEup.out).row) (by decide)); clear f10 c10_0 c10_1 c10_2 c10_3 c10_4 c10_5 c10_6 hr11 hf11 hng)
  | (go_at_call 85; have hrd12 := (Rd.other (b := E) (i := 5) (u := (.int .i64 (o.ver : Int))) R11.out Row11.out (by decide) (by decide) (by decide) HEup.out); (with_reducible refine (End_der hrd12).mono ?_); rintro e w12 ⟨rfl, hw12⟩; rw [hw12] at hrd12; have HR12 := Hj hrd12; have HO12 : Hid (OB w12 w1.heap.size (.slice A10 o.data.length c10) o.data) := Hj (by rw [← hw12]; exact OB.other HO11.out Row11.out (by decide)); have row12 : w12.heap[E]? = some (.cells #[.int .i64 (o.ver : Int), .bool false, .int .i64 (o.kind : Int), .string o.space, .string o.name, .int .i64 (o.ver : Int), (.slice A10 o.data.length c10)] 61 (0, 0)) := (by rw [← hw12]; exact heap_setCell_same _ _ 5 _ _ (.int .i64 (o.ver : Int)) Row11.out); have Row12 := Hj row12; have f12 : ∀ k, w12.frozen? ⟨E, k, none⟩ = false := (fun k => Kx row12); obtain ⟨c12_0, c12_1, c12_2, c12_3, c12_4, c12_5, c12_6⟩ := cells7 row12; clear row12; clear f11 c11_0 c11_1 c11_2 c11_3 c11_4 c11_5 c11_6 hw12 hrd12)
  | (go_at_call 54; (with_reducible refine (HNam.out A10 c10 w12).mono ?_); rintro e w13 ⟨rfl, hb13⟩; have HB13 := Hj hb13; have row13 : w13.heap[E]? = some (.cells #[.int .i64 (o.ver : Int), .bool false, .int .i64 (o.kind : Int), .string o.space, .string o.name, .int .i64 (o.ver : Int), (.slice A10 o.data.length c10)] 61 (0, 0)) := (hb13.block E (Cz Row12.out)).trans Row12.out; have Row13 := Hj row13; have f13 : ∀ k, w13.frozen? ⟨E, k, none⟩ = false := (fun k => Kx row13); obtain ⟨c13_0, c13_1, c13_2, c13_3, c13_4, c13_5, c13_6⟩ := cells7 row13; clear row13; have rowB : w13.heap[B]? = some (.cells #[.int .i64 0, .bool false, .int .i64 0, .string ⟨#[]⟩, .string ⟨#[]⟩, .int .i64 0, .slice none 0 0] 61 (0, 0)) := ((hb13.block B (Nat.lt_of_lt_of_le HBl.out HR12.out.bel.size)).trans (HR12.out.bel.block B HBl.out)).trans HRow.out; have RowB := Hj rowB; have fB : ∀ k, w13.frozen? ⟨B, k, none⟩ = false := (fun k => Kx rowB); obtain ⟨d_0, d_1, d_2, d_3, d_4, d_5, d_6⟩ := cells7 rowB; clear rowB; clear f12 c12_0 c12_1 c12_2 c12_3 c12_4 c12_5 c12_6 hb13))
 have hF : Fr (fun k => k = B) w13 (((((((w13.setCell ⟨B, 0, none⟩ (.int .i64 (o.ver : Int))).setCell ⟨B, 1, none⟩ (.bool false)).setCell ⟨B, 2, none⟩ (.int .i64 (o.kind : Int))).setCell ⟨B, 3, none⟩ (.string o.space)).setCell ⟨B, 4, none⟩ (.string o.name)).setCell ⟨B, 5, none⟩ (.int .i64 (o.ver : Int))).setCell ⟨B, 6, none⟩ (.slice A10 o.data.length c10)) := ((((((((Fr.refl (fun k => k = B) w13).setCell (p := ⟨B, 0, none⟩) (fun _ => rfl) (.int .i64 (o.ver : Int))).setCell (p := ⟨B, 1, none⟩) (fun _ => rfl) (.bool false)).setCell (p := ⟨B, 2, none⟩) (fun _ => rfl) (.int .i64 (o.kind : Int))).setCell (p := ⟨B, 3, none⟩) (fun _ => rfl) (.string o.space)).setCell (p := ⟨B, 4, none⟩) (fun _ => rfl) (.string o.name)).setCell (p := ⟨B, 5, none⟩) (fun _ => rfl) (.int .i64 (o.ver : Int))).setCell (p := ⟨B, 6, none⟩) (fun _ => rfl) (.slice A10 o.data.length c10))
 have HO13 := OB.below HO12.out HB13.out
 have hbw : Below w.heap.size w w13 := (HB1.out.trans (HR12.out.bel.mono HB1.out.size)).trans (HB13.out.mono (Kv HB1.out.size HR12.out.bel.size))
 refine bodyPost_ret (results_cellT _ rfl rfl (st7 RowB.out) Tryz.underlying61 info_event) rfl ⟨A10, c10, rfl, ?_, ?_⟩
 ·refine OB.mono (OB.keepB HO13 fun k hk => hF.block k (HO13.lt k hk).2 fun e => ?_) HB1.out.size
  obtain ⟨cur, hcur⟩ := own_type HO13 hk
  rw [e] at hcur
  exact absurd (types_ne hcur RowB.out) (by decide)
 ·exact hbw.trans (hF.below hbw.size fun i _ e => by rw [e, HBE.out]; exact Nat.le_refl _)

set_option maxHeartbeats 4000000 in
set_option maxRecDepth 100000 in
theorem read_del (A : Option Addr) (n c : Nat) (o : ObM) (w : World) (hb : RB w A n (evO (true, o))) (hnc : n ≤ c) (hc : c ≤ maxLen) (ho : o.Ok) (hv1 : 1 ≤ o.ver) (hv : o.ver ≤ 1099511627776) (hd : o.data = []) :
  Calls Tryz.prog 34 #[.slice A n c] w fun en w' => ∃ A1 c1, en = .returned (.tuple #[.agg #[.int .i64 (o.ver : Int), .bool true, .int .i64 (o.kind : Int), .string o.space, .string o.name, .int .i64 (o.ver : Int), (.slice A1 o.data.length c1)], .nilIface]) ∧ OB w' w.heap.size (.slice A1 o.data.length c1) o.data ∧ Below w.heap.size w w' := by
 obtain ⟨w1, hw1⟩ : ∃ W, W = w.alloc (.cells #[.int .i64 0, .bool false, .int .i64 0, .string ⟨#[]⟩, .string ⟨#[]⟩, .int .i64 0, .slice none 0 0] 61) := ⟨_, rfl⟩
 obtain ⟨B, hB⟩ : ∃ B, B = w.heap.size := ⟨_, rfl⟩
 have hb1 := (Below.refl w.heap.size w).alloc Kj (.cells #[.int .i64 0, .bool false, .int .i64 0, .string ⟨#[]⟩, .string ⟨#[]⟩, .int .i64 0, .slice none 0 0] 61)
 have hr1 := heap_alloc_new w (.cells #[.int .i64 0, .bool false, .int .i64 0, .string ⟨#[]⟩, .string ⟨#[]⟩, .int .i64 0, .slice none 0 0] 61)
 rw [← hw1] at hb1 hr1
 rw [← hB] at hr1
 have hB1 : B < w1.heap.size := (Cz hr1)
 obtain ⟨p1, p2, p3, p4, p5⟩ := ho.parts
 have hp6 := ho.data
 obtain ⟨ks, hks⟩ : ∃ ks : List (Nat × List UInt8), ks = [(10, intB 2), (10, intB o.kind), (4, o.space.data.toList), (4, o.name.data.toList), (2, intB o.ver), (4, ([] : List UInt8))] := ⟨_, rfl⟩
 have hP : Plains ks := by
  rw [hks]
  intro k hk
  have i1 : (intB 2).length ≤ 9 := intB_len (by omega)
  have i2 : (intB o.kind).length ≤ 9 := intB_len (by omega)
  have i3 : (intB o.ver).length ≤ 9 := intB_len (by omega)
  have i4 := size_data o.space
  have i5 := size_data o.name
  simp only [List.mem_cons, List.not_mem_nil, or_false] at hk
  rcases hk with rfl | rfl | rfl | rfl | rfl | rfl
  all_goals refine ⟨by first | exact (by decide : (10 : Int) ∈ plainT) | exact (by decide : (4 : Int) ∈ plainT) | exact (by decide : (2 : Int) ∈ plainT), ?_⟩
  all_goals (dsimp only; first | omega | (simp only [List.length_nil]; omega))
 obtain ⟨body, hbody⟩ : ∃ b, b = elemsB ks := ⟨_, rfl⟩
 have hev : evO (true, o) = elemB 48 body := by
  rw [hbody, hks]; simp [evO, evB, evK, elemsB]
 have hlen : (evO (true, o)).length ≤ 10504 := evO_len (e := (true, o)) ho hv
 have hbl : body.length ≤ 10504 := by
  rw [hev] at hlen
  unfold elemB at hlen
  simp only [List.length_cons, List.length_append] at hlen
  omega
 obtain ⟨x6, hx6⟩ : ∃ x, x = elemB 4 ([] : List UInt8) ++ ([] : List UInt8) := ⟨_, rfl⟩
 obtain ⟨x5, hx5⟩ : ∃ x, x = elemB 2 (intB o.ver) ++ x6 := ⟨_, rfl⟩
 obtain ⟨x4, hx4⟩ : ∃ x, x = elemB 4 o.name.data.toList ++ x5 := ⟨_, rfl⟩
 obtain ⟨x3, hx3⟩ : ∃ x, x = elemB 4 o.space.data.toList ++ x4 := ⟨_, rfl⟩
 obtain ⟨x2, hx2⟩ : ∃ x, x = elemB 10 (intB o.kind) ++ x3 := ⟨_, rfl⟩
 have hbx : body = elemB 10 (intB 2) ++ x2 := by
  rw [hbody, hks, hx2, hx3, hx4, hx5, hx6]; simp [elemsB]
 have l2 : x2.length ≤ 1000000 := by have := congrArg List.length hbx; rw [List.length_append] at this; omega
 have l3 : x3.length ≤ 1000000 := by have := congrArg List.length hx2; rw [List.length_append] at this; omega
 have l4 : x4.length ≤ 1000000 := by have := congrArg List.length hx3; rw [List.length_append] at this; omega
 have l5 : x5.length ≤ 1000000 := by have := congrArg List.length hx4; rw [List.length_append] at this; omega
 have l6 : x6.length ≤ 1000000 := by have := congrArg List.length hx5; rw [List.length_append] at this; omega
 have HRead := Hj (Read_der A n c ks w1 hP (by rw [← hbody, ← hev]; exact hb.keep (Kz hb1)) hnc hc (by rw [← hbody]; omega) (by have := hb.1; omega))
 rw [← hbody] at HRead
 have HEnter : Hid (∀ (W : World) (g : Nat) (lv v : Value), Rd w1 W g lv [(elemB 48 body, v)] → Calls Tryz.prog 80 #[.pointer (some ⟨g, 0, none⟩), .int .i64 48] W fun e w' => e = .returned (.bool true) ∧ ∃ lv' v' vb, Rd w1 w' g lv' ([([], v')] ++ [(elemB 10 (intB 2) ++ x2, vb)])) := Hj (by
  intro W g lv v h
  refine (Enter_der body h (by omega)).mono ?_
  rintro e w' ⟨rfl, lv', v', vb, hr⟩
  exact ⟨rfl, lv', v', vb, by rw [← hbx]; exact hr⟩)
 have HEnW : Hid (∀ (W : World) (g : Nat) (lv vp v : Value), Rd w1 W g lv ([([], vp)] ++ [(elemB 10 (intB 2) ++ x2, v)]) → Calls Tryz.prog 81 #[.pointer (some ⟨g, 0, none⟩), .int .i64 1, .int .i64 2] W fun e w' => e = .returned (.int .i64 2) ∧ (∃ v', Rd w1 w' g lv ([([], vp)] ++ [(elemB 10 (intB o.kind) ++ x3, v')])) ∧ Fr (fun k => lv.ownBlock = some k) W w') := Hj (by
  intro W g lv vp v h
  rw [← hx2]
  exact REnum 2 1 2 h (by simp) (by omega) l2 (by omega) (by omega))
 have HEnK : Hid (∀ (W : World) (g : Nat) (lv vp v : Value), Rd w1 W g lv ([([], vp)] ++ [(elemB 10 (intB o.kind) ++ x3, v)]) → Calls Tryz.prog 81 #[.pointer (some ⟨g, 0, none⟩), .int .i64 1, .int .i64 7] W fun e w' => e = .returned (.int .i64 (o.kind : Int)) ∧ (∃ v', Rd w1 w' g lv ([([], vp)] ++ [(elemB 4 o.space.data.toList ++ x4, v')])) ∧ Fr (fun k => lv.ownBlock = some k) W w') := Hj (by
  intro W g lv vp v h
  rw [← hx3]
  exact REnum o.kind 1 7 h (by simp) (by omega) l3 (by omega) (by omega))
 have i4 := size_data o.space
 have i5 := size_data o.name
 have HOcS : Hid (∀ (W : World) (g : Nat) (lv vp v : Value), Rd w1 W g lv ([([], vp)] ++ [(elemB 4 o.space.data.toList ++ x4, v)]) → Calls Tryz.prog 82 #[.pointer (some ⟨g, 0, none⟩), .int .i64 0, .int .i64 24] W fun e w' => ∃ A c, e = .returned (.slice A o.space.data.toList.length c) ∧ OB w' W.heap.size (.slice A o.space.data.toList.length c) o.space.data.toList ∧ (∃ v', Rd w1 w' g lv ([([], vp)] ++ [(elemB 4 o.name.data.toList ++ x5, v')])) ∧ Fr (fun k => lv.ownBlock = some k) W w') := Hj (by
  intro W g lv vp v h
  rw [← hx4]
  exact ROctets _ 0 24 h (by simp) (by omega) l4 (by omega) (by omega))
 have HOcN : Hid (∀ (W : World) (g : Nat) (lv vp v : Value), Rd w1 W g lv ([([], vp)] ++ [(elemB 4 o.name.data.toList ++ x5, v)]) → Calls Tryz.prog 82 #[.pointer (some ⟨g, 0, none⟩), .int .i64 1, .int .i64 24] W fun e w' => ∃ A c, e = .returned (.slice A o.name.data.toList.length c) ∧ OB w' W.heap.size (.slice A o.name.data.toList.length c) o.name.data.toList ∧ (∃ v', Rd w1 w' g lv ([([], vp)] ++ [(elemB 2 (intB o.ver) ++ x6, v')])) ∧ Fr (fun k => lv.ownBlock = some k) W w') := Hj (by
  intro W g lv vp v h
  rw [← hx5]
  exact ROctets _ 1 24 h (by simp) (by omega) l5 (by omega) (by omega))
 have HInt : Hid (∀ (W : World) (g : Nat) (lv vp v : Value), Rd w1 W g lv ([([], vp)] ++ [(elemB 2 (intB o.ver) ++ x6, v)]) → Calls Tryz.prog 83 #[.pointer (some ⟨g, 0, none⟩), .int .i64 1, .int .i64 1099511627776] W fun e w' => e = .returned (.int .i64 (o.ver : Int)) ∧ (∃ v', Rd w1 w' g lv ([([], vp)] ++ [(elemB 4 ([] : List UInt8) ++ [], v')])) ∧ Fr (fun k => lv.ownBlock = some k) W w') := Hj (by
  intro W g lv vp v h
  rw [← hx6]
  exact RInt o.ver 1 1099511627776 h (by simp) (by omega) l6 (by omega) (by omega))
 have HOcD : Hid (∀ (W : World) (g : Nat) (lv vp v : Value), Rd w1 W g lv ([([], vp)] ++ [(elemB 4 ([] : List UInt8) ++ [], v)]) → Calls Tryz.prog 82 #[.pointer (some ⟨g, 0, none⟩), .int .i64 0, .int .i64 8192] W fun e w' => ∃ A c, e = .returned (.slice A o.data.length c) ∧ OB w' W.heap.size (.slice A o.data.length c) o.data ∧ (∃ v', Rd w1 w' g lv ([([], vp)] ++ [([], v')])) ∧ Fr (fun k => lv.ownBlock = some k) W w') := Hj (by
  intro W g lv vp v h
  rw [hd]; exact ROctets [] 0 8192 h (by simp) (by simp) (by simp) (by simp) (by simp))
 have HNam : Hid (∀ (A : Option Addr) (c : Nat) (W : World), Calls Tryz.prog 54 #[.agg #[.int .i64 (o.kind : Int), .string o.space, .string o.name, .int .i64 (o.ver : Int), .slice A o.data.length c]] W fun e w' => e = .returned (.bool true) ∧ Below W.heap.size W w') := Hj fun A c W => by
  have h := named_any ⟨o.kind, o.space, o.name, o.ver, A, o.data.length, c⟩ W
  rw [ho.named] at h
  exact h
 have HCv : Hid (∀ (W : World) (b : Nat) (A : Option Addr) (c : Nat) (s : ByteArray), OB W b (.slice A s.data.toList.length c) s.data.toList → (convert 24 9 (.slice A s.size c)).run Tryz.prog W = .ok (.string s) W) := Hj fun W b A c s h => by
  rw [← size_data]
  obtain ⟨A', c', e', -, -, h3⟩ := OB.form h
  injection e' with e1 e2 e3
  subst e1
  have h4 := run_bytes_string (c := c) Tryz.underlying24 Tryz.underlying5 Tryz.underlying9 h3
  rw [h4]
 have hd0 : ((o.data.length : Nat) : Int) = 0 := by rw [hd]; rfl
 have HB1 := Hj hb1
 have HRow := Hj hr1
 have HBl := Hj hB1
 have HW1 := Hj hw1
 have HBE := Hj hB
 clear hb hnc hc ho hv1 hv hw1 hB hb1 hr1 hB1 p1 p2 p3 p4 p5 hp6 hks hP hbody hev hlen hbl hx6 hx5 hx4 hx3 hx2 hbx l2 l3 l4 l5 l6 i4 i5 hd
 go_enter Tryz.func34, Tryz.ntmps34
 go_wp2_with (first
  | (go_at_call 79; rw [← HW1.out, ← HBE.out]; (with_reducible refine HRead.out.mono ?_); rintro e w2 ⟨g, q2, v2, rfl, hr2⟩; have R2 := Hj hr2; clear hr2)
  | (go_at_call 80; (with_reducible refine (HEnter.out _ _ _ _ R2.out).mono ?_); rintro e w3 ⟨rfl, lv, vp, vb, hr3⟩; have R3 := Hj hr3; clear hr3)
  | (go_at_call 81; (with_reducible refine (HEnW.out _ _ _ _ _ R3.out).mono ?_); rintro e w4 ⟨rfl, ⟨v4, hr4⟩, hf4⟩; have R4 := Hj hr4; clear hr4 hf4)
  | (go_at_call 81; obtain ⟨E, hE⟩ : ∃ E, E = w4.heap.size := ⟨_, rfl⟩; have R5 : Rd w1 (w4.alloc (.cells #[.int .i64 0, .bool true, .int .i64 0, .string ⟨#[]⟩, .string ⟨#[]⟩, .int .i64 0, (.slice none 0 0)] 61)) g lv _ := R4.out.below ((Below.refl _ w4).alloc Kj _); have row5 : (w4.alloc (.cells #[.int .i64 0, .bool true, .int .i64 0, .string ⟨#[]⟩, .string ⟨#[]⟩, .int .i64 0, (.slice none 0 0)] 61)).heap[E]? = some (.cells #[.int .i64 0, .bool true, .int .i64 0, .string ⟨#[]⟩, .string ⟨#[]⟩, .int .i64 0, (.slice none 0 0)] 61 (0, 0)) := (by rw [hE]; exact heap_alloc_new w4 _); have hne : lv.ownBlock ≠ some E := (fun e => by have h := (OwnS.lt R4.out.left E e).2; rw [hE] at h; exact Nat.lt_irrefl _ h); have HNE := Hj hne; have HEup : Hid (w1.heap.size ≤ E) := Hj (by rw [hE]; exact R4.out.bel.size); (with_reducible refine (HEnK.out _ _ _ _ _ R5).mono ?_); rintro e w6 ⟨rfl, ⟨v6, hr6⟩, hf6⟩; have R6 := Hj hr6; have row6 : w6.heap[E]? = some (.cells #[.int .i64 0, .bool true, .int .i64 0, .string ⟨#[]⟩, .string ⟨#[]⟩, .int .i64 0, (.slice none 0 0)] 61 (0, 0)) := (hf6.block E (Cz row5) hne).trans row5; have Row6 := Hj row6; have f6 : ∀ k, w6.frozen? ⟨E, k, none⟩ = false := (fun k => Kx row6); obtain ⟨c6_0, c6_1, c6_2, c6_3, c6_4, c6_5, c6_6⟩ := cells7 row6; clear row6; rw [← hE]; clear hr6 hf6 hne R5 row5; have HE := Hj hE; clear hE)
  | (go_at_call 82; (with_reducible refine (HOcS.out _ _ _ _ _ (Rd.other (b := E) (i := 2) (u := (.int .i64 (o.kind : Int))) R6.out Row6.out (by decide) (by decide) (by decide) HEup.out)).mono ?_); rintro e w7 ⟨A7, c7, rfl, ho7, ⟨v7, hr7⟩, hf7⟩; have R7 := Hj hr7; have row7 : w7.heap[E]? = some (.cells #[.int .i64 0, .bool true, .int .i64 (o.kind : Int), .string ⟨#[]⟩, .string ⟨#[]⟩, .int .i64 0, (.slice none 0 0)] 61 (0, 0)) := (hf7.block E (by have h := (Array.getElem?_eq_some_iff.1 (heap_setCell_same _ _ 2 _ _ (.int .i64 (o.kind : Int)) Row6.out)).1; exact h) HNE.out).trans (heap_setCell_same _ _ 2 _ _ (.int .i64 (o.kind : Int)) Row6.out); have Row7 := Hj row7; have f7 : ∀ k, w7.frozen? ⟨E, k, none⟩ = false := (fun k => Kx row7); obtain ⟨c7_0, c7_1, c7_2, c7_3, c7_4, c7_5, c7_6⟩ := cells7 row7; clear row7; clear f6 c6_0 c6_1 c6_2 c6_3 c6_4 c6_5 c6_6; have hcv7 := HCv.out _ _ _ _ _ ho7; clear ho7; clear hr7 hf7)
  | (go_at_call 82; (with_reducible refine (HOcN.out _ _ _ _ _ (Rd.other (b := E) (i := 3) (u := (.string o.space)) R7.out Row7.out (by decide) (by decide) (by decide) HEup.out)).mono ?_); rintro e w8 ⟨A8, c8, rfl, ho8, ⟨v8, hr8⟩, hf8⟩; have R8 := Hj hr8; have row8 : w8.heap[E]? = some (.cells #[.int .i64 0, .bool true, .int .i64 (o.kind : Int), .string o.space, .string ⟨#[]⟩, .int .i64 0, (.slice none 0 0)] 61 (0, 0)) := (hf8.block E (by have h := (Array.getElem?_eq_some_iff.1 (heap_setCell_same _ _ 3 _ _ (.string o.space) Row7.out)).1; exact h) HNE.out).trans (heap_setCell_same _ _ 3 _ _ (.string o.space) Row7.out); have Row8 := Hj row8; have f8 : ∀ k, w8.frozen? ⟨E, k, none⟩ = false := (fun k => Kx row8); obtain ⟨c8_0, c8_1, c8_2, c8_3, c8_4, c8_5, c8_6⟩ := cells7 row8; clear row8; clear f7 c7_0 c7_1 c7_2 c7_3 c7_4 c7_5 c7_6; have hcv8 := HCv.out _ _ _ _ _ ho8; clear ho8 hcv7; clear hr8 hf8)
  | (go_at_call 83; (with_reducible refine (HInt.out _ _ _ _ _ (Rd.other (b := E) (i := 4) (u := (.string o.name)) R8.out Row8.out (by decide) (by decide) (by decide) HEup.out)).mono ?_); rintro e w9 ⟨rfl, ⟨v9, hr9⟩, hf9⟩; have R9 := Hj hr9; have row9 : w9.heap[E]? = some (.cells #[.int .i64 0, .bool true, .int .i64 (o.kind : Int), .string o.space, .string o.name, .int .i64 0, (.slice none 0 0)] 61 (0, 0)) := (hf9.block E (by have h := (Array.getElem?_eq_some_iff.1 (heap_setCell_same _ _ 4 _ _ (.string o.name) Row8.out)).1; exact h) HNE.out).trans (heap_setCell_same _ _ 4 _ _ (.string o.name) Row8.out); have Row9 := Hj row9; have f9 : ∀ k, w9.frozen? ⟨E, k, none⟩ = false := (fun k => Kx row9); obtain ⟨c9_0, c9_1, c9_2, c9_3, c9_4, c9_5, c9_6⟩ := cells7 row9; clear row9; clear f8 c8_0 c8_1 c8_2 c8_3 c8_4 c8_5 c8_6; clear hcv8; clear hr9 hf9)
  | (go_at_call 82; (with_reducible refine (HOcD.out _ _ _ _ _ (Rd.other (b := E) (i := 0) (u := (.int .i64 (o.ver : Int))) R9.out Row9.out (by decide) (by decide) (by decide) HEup.out)).mono ?_); rintro e w10 ⟨A10, c10, rfl, ho10, ⟨v10, hr10⟩, hf10⟩; have R10 := Hj hr10; have row10 : w10.heap[E]? = some (.cells #[.int .i64 (o.ver : Int), .bool true, .int .i64 (o.kind : Int), .string o.space, .string o.name, .int .i64 0, (.slice none 0 0)] 61 (0, 0)) := (hf10.block E (by have h := (Array.getElem?_eq_some_iff.1 (heap_setCell_same _ _ 0 _ _ (.int .i64 (o.ver : Int)) Row9.out)).1; exact h) HNE.out).trans (heap_setCell_same _ _ 0 _ _ (.int .i64 (o.ver : Int)) Row9.out); have Row10 := Hj row10; have f10 : ∀ k, w10.frozen? ⟨E, k, none⟩ = false := (fun k => Kx row10); obtain ⟨c10_0, c10_1, c10_2, c10_3, c10_4, c10_5, c10_6⟩ := cells7 row10; clear row10; clear f9 c9_0 c9_1 c9_2 c9_3 c9_4 c9_5 c9_6; have HO10 : Hid (OB w10 w1.heap.size (.slice A10 o.data.length c10) o.data) := Hj (OB.mono ho10 (Kv R9.out.bel.size (Nat.le_of_eq (by simp)))); clear ho10; clear hr10 hf10)
  | (go_at_call 84; (with_reducible refine (Leave_der (x := ([], vp)) (Rd.other (b := E) (i := 6) (u := (.slice A10 o.data.length c10)) R10.out Row10.out (by decide) (by decide) (by decide) HEup.out)).mono ?_); rintro e w11 ⟨rfl, lv11, hr11, hf11⟩; have R11 := Hj hr11; have hng : E ≠ g := (fun e => absurd (types_ne Row10.out (by rw [e]; exact R10.out.row)) (by decide)); have row11 : w11.heap[E]? = some (.cells #[.int .i64 (o.ver : Int), .bool true, .int .i64 (o.kind : Int), .string o.space, .string o.name, .int .i64 0, (.slice A10 o.data.length c10)] 61 (0, 0)) := (hf11.block E (by have h := (Array.getElem?_eq_some_iff.1 (heap_setCell_same _ _ 6 _ _ (.slice A10 o.data.length c10) Row10.out)).1; exact h) hng).trans (heap_setCell_same _ _ 6 _ _ (.slice A10 o.data.length c10) Row10.out); have Row11 := Hj row11; have f11 : ∀ k, w11.frozen? ⟨E, k, none⟩ = false := (fun k => Kx row11); obtain ⟨c11_0, c11_1, c11_2, c11_3, c11_4, c11_5, c11_6⟩ := cells7 row11; clear row11; have HO11 : Hid (OB w11 w1.heap.size (.slice A10 o.data.length c10) o.data) := Hj (by
   have h1 := OB.other (i := 6) (u := (.slice A10 o.data.length c10)) HO10.out Row10.out (by decide)
   refine OB.keepB h1 fun k hk => hf11.block k (h1.lt k hk).2 fun e => ?_
   obtain ⟨cur, hcur⟩ := own_type h1 hk
   rw [e] at hcur
   exact absurd (types_ne hcur (Rd.other (b := E) (i := 6) (u := (.slice A10 o.data.length c10)) R10.out Row10.out (by decide) (by decide) (by decide) HEup.out).row) (by decide)); clear f10 c10_0 c10_1 c10_2 c10_3 c10_4 c10_5 c10_6 hr11 hf11 hng)
  | (go_at_call 85; have hrd12 := (Rd.other (b := E) (i := 5) (u := (.int .i64 (o.ver : Int))) R11.out Row11.out (by decide) (by decide) (by decide) HEup.out); (with_reducible refine (End_der hrd12).mono ?_); rintro e w12 ⟨rfl, hw12⟩; rw [hw12] at hrd12; have HR12 := Hj hrd12; have HO12 : Hid (OB w12 w1.heap.size (.slice A10 o.data.length c10) o.data) := Hj (by rw [← hw12]; exact OB.other HO11.out Row11.out (by decide)); have row12 : w12.heap[E]? = some (.cells #[.int .i64 (o.ver : Int), .bool true, .int .i64 (o.kind : Int), .string o.space, .string o.name, .int .i64 (o.ver : Int), (.slice A10 o.data.length c10)] 61 (0, 0)) := (by rw [← hw12]; exact heap_setCell_same _ _ 5 _ _ (.int .i64 (o.ver : Int)) Row11.out); have Row12 := Hj row12; have f12 : ∀ k, w12.frozen? ⟨E, k, none⟩ = false := (fun k => Kx row12); obtain ⟨c12_0, c12_1, c12_2, c12_3, c12_4, c12_5, c12_6⟩ := cells7 row12; clear row12; clear f11 c11_0 c11_1 c11_2 c11_3 c11_4 c11_5 c11_6 hw12 hrd12)
  | (go_at_call 54; (with_reducible refine (HNam.out A10 c10 w12).mono ?_); rintro e w13 ⟨rfl, hb13⟩; have HB13 := Hj hb13; have row13 : w13.heap[E]? = some (.cells #[.int .i64 (o.ver : Int), .bool true, .int .i64 (o.kind : Int), .string o.space, .string o.name, .int .i64 (o.ver : Int), (.slice A10 o.data.length c10)] 61 (0, 0)) := (hb13.block E (Cz Row12.out)).trans Row12.out; have Row13 := Hj row13; have f13 : ∀ k, w13.frozen? ⟨E, k, none⟩ = false := (fun k => Kx row13); obtain ⟨c13_0, c13_1, c13_2, c13_3, c13_4, c13_5, c13_6⟩ := cells7 row13; clear row13; have rowB : w13.heap[B]? = some (.cells #[.int .i64 0, .bool false, .int .i64 0, .string ⟨#[]⟩, .string ⟨#[]⟩, .int .i64 0, .slice none 0 0] 61 (0, 0)) := ((hb13.block B (Nat.lt_of_lt_of_le HBl.out HR12.out.bel.size)).trans (HR12.out.bel.block B HBl.out)).trans HRow.out; have RowB := Hj rowB; have fB : ∀ k, w13.frozen? ⟨B, k, none⟩ = false := (fun k => Kx rowB); obtain ⟨d_0, d_1, d_2, d_3, d_4, d_5, d_6⟩ := cells7 rowB; clear rowB; clear f12 c12_0 c12_1 c12_2 c12_3 c12_4 c12_5 c12_6 hb13))
 have hF : Fr (fun k => k = B) w13 (((((((w13.setCell ⟨B, 0, none⟩ (.int .i64 (o.ver : Int))).setCell ⟨B, 1, none⟩ (.bool true)).setCell ⟨B, 2, none⟩ (.int .i64 (o.kind : Int))).setCell ⟨B, 3, none⟩ (.string o.space)).setCell ⟨B, 4, none⟩ (.string o.name)).setCell ⟨B, 5, none⟩ (.int .i64 (o.ver : Int))).setCell ⟨B, 6, none⟩ (.slice A10 o.data.length c10)) := ((((((((Fr.refl (fun k => k = B) w13).setCell (p := ⟨B, 0, none⟩) (fun _ => rfl) (.int .i64 (o.ver : Int))).setCell (p := ⟨B, 1, none⟩) (fun _ => rfl) (.bool true)).setCell (p := ⟨B, 2, none⟩) (fun _ => rfl) (.int .i64 (o.kind : Int))).setCell (p := ⟨B, 3, none⟩) (fun _ => rfl) (.string o.space)).setCell (p := ⟨B, 4, none⟩) (fun _ => rfl) (.string o.name)).setCell (p := ⟨B, 5, none⟩) (fun _ => rfl) (.int .i64 (o.ver : Int))).setCell (p := ⟨B, 6, none⟩) (fun _ => rfl) (.slice A10 o.data.length c10))
 have HO13 := OB.below HO12.out HB13.out
 have hbw : Below w.heap.size w w13 := (HB1.out.trans (HR12.out.bel.mono HB1.out.size)).trans (HB13.out.mono (Kv HB1.out.size HR12.out.bel.size))
 refine bodyPost_ret (results_cellT _ rfl rfl (st7 RowB.out) Tryz.underlying61 info_event) rfl ⟨A10, c10, rfl, ?_, ?_⟩
 ·refine OB.mono (OB.keepB HO13 fun k hk => hF.block k (HO13.lt k hk).2 fun e => ?_) HB1.out.size
  obtain ⟨cur, hcur⟩ := own_type HO13 hk
  rw [e] at hcur
  exact absurd (types_ne hcur RowB.out) (by decide)
 ·exact hbw.trans (hF.below hbw.size fun i _ e => by rw [e, HBE.out]; exact Nat.le_refl _)

end Go.Proofs.YtfmagnpmjlppiaaGreatDoor
