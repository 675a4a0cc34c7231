/- DiskKeeps: its frame, its acts. -/
import Derived.Test.YtgiaifglkecdjaaDoorDiskS
import Derived.Test.YtgiaifglkecdjaaDoorDiskK
namespace Go.Proofs.YtgiaifglkecdjaaDoor
open Go.RowKit

set_option maxRecDepth 100000 in
def KF (f : Nat → Value) : Act := ⟨#[f 0, f 1, f 2, f 3, f 4, f 5, f 6, f 7, f 8, f 9, f 10, f 11, f 12, f 13, f 14, f 15, f 16, f 17, f 18, f 19, f 20, f 21, f 22, f 23, f 24, f 25, f 26, f 27, f 28, f 29, f 30, f 31, f 32, f 33, f 34, f 35, f 36, f 37, f 38, f 39, f 40, f 41, f 42, f 43, f 44, f 45, f 46, f 47, f 48, f 49, f 50, f 51, f 52, f 53, f 54, f 55, f 56, f 57, f 58, f 59, f 60, f 61, f 62, f 63, f 64, f 65, f 66, f 67, f 68, f 69, f 70, f 71, f 72, f 73, f 74, f 75, f 76, f 77, f 78, f 79, f 80, f 81, f 82, f 83, f 84, f 85, f 86, f 87, f 88, f 89, f 90, f 91, f 92, f 93, f 94, f 95, f 96, f 97, f 98, f 99, f 100, f 101, f 102, f 103, f 104, f 105, f 106, f 107, f 108, f 109, f 110, f 111, f 112, f 113, f 114, f 115, f 116, f 117, f 118, f 119, f 120, f 121, f 122, f 123, f 124, f 125, f 126, f 127, f 128, f 129, f 130, f 131, f 132, f 133, f 134, f 135, f 136, f 137, f 138, f 139, f 140, f 141, f 142, f 143, f 144, f 145, f 146, f 147, f 148, f 149, f 150, f 151, f 152], []⟩
def slotK (a : Act) (i : Nat) : Value := a.tmps.toList.getD i undef
def IsK (a : Act) : Prop := a = KF (slotK a)

set_option maxHeartbeats 2000000 in
set_option maxRecDepth 100000 in
theorem keep_cut {w0 : World} {g : Nat} {m : DM} {ea : Nat → Addr} (fr : Act) (b o n cw i : Nat) (a : Act17) (w : World) (Q : Exit → Act → World → Prop) (hfr : IsK fr)
    (h8 : slotK fr 8 = .pointer (some ⟨g, 0, none⟩)) (h37 : slotK fr 37 = .slice (some ⟨b, o, none⟩) n cw) (h38 : slotK fr 38 = .int .i64 (n : Int)) (h39 : slotK fr 39 = .int .i64 (i : Int)) (hi : i < n) (hn : n ≤ 60) (hk : a.kind = 1)
    (c0 : w.cell? ⟨b, o + i * 6, none⟩ = some (.int .i64 a.kind)) (c1 : w.cell? ⟨b, o + i * 6 + 1, none⟩ = some (.int .i64 a.area)) (c2 : w.cell? ⟨b, o + i * 6 + 2, none⟩ = some (.int .i64 a.n)) (c3 : w.cell? ⟨b, o + i * 6 + 3, none⟩ = some (.int .i64 a.torn)) (c4 : w.cell? ⟨b, o + i * 6 + 4, none⟩ = some (.int .u64 a.scat)) (c5 : w.cell? ⟨b, o + i * 6 + 5, none⟩ = some a.v)
    (hS : DS w0 w g m) (hG : m.Good i) (hE : DErrs w0 ea) (h26 : 26 ≤ g) (hr : RB w a.A a.bs.length a.bs) (hbl : a.bs.length ≤ 200)
    (hQ : ∀ (fr' : Act) (w' : World), IsK fr' → slotK fr' 5 = slotK fr 5 → slotK fr' 6 = slotK fr 6 → slotK fr' 7 = slotK fr 7 → slotK fr' 8 = .pointer (some ⟨g, 0, none⟩) → slotK fr' 37 = .slice (some ⟨b, o, none⟩) n cw → slotK fr' 38 = .int .i64 (n : Int) → slotK fr' 39 = .int .i64 ((i + 1 : Nat) : Int) →
      DS w0 w' g (actD m a) → Q .normal fr' w') :
    Code.wp Tryd.prog (lpC Tryd.f4.body 0) Q fr w := by
  have HQ := Lib.hid hQ
  have HS := Lib.hid hS
  have HG := Lib.hid hG
  have HE := Lib.hid hE
  have HR := Lib.hid hr
  have HW : Hid (m.waits.length ≤ 1000) := Lib.hid (by have := hG.waits; omega)
  have HBL : Hid (a.bs.length ≤ 1048576) := Lib.hid (by omega)
  have HA : Hid (actD m a = m.cut a.area a.n) := Lib.hid (if_pos hk)
  have q1 : (a.kind == 1) = true := by rw [hk]; rfl
  have hu := And.intro hr hbl
  clear hu
  clear HR HBL
  have D0 := (Below.refl w.heap.size w).alloc (Nat.le_refl _) (.cells #[.int .i64 a.kind, .int .i64 a.area, .int .i64 a.n, .int .i64 a.torn, .int .u64 a.scat, a.v] 38)
  have HD := Lib.hid D0
  unfold Act17.v at c5 HD
  clear hQ hS hG hE hr D0 hbl hk
  unfold IsK at hfr
  generalize slotK fr = f at *
  subst hfr
  unfold KF
  rw [h8, h37, h38, h39]
  conv => arg 2; whnf
  clear h8 h37 h38 h39
  go_wp2_with (go_at_call 22; refine (Cut_S a.area a.n (HS.out.below HD.out) HG.out.ok HE.out h26 HW.out).mono ?_; rintro e w2 ⟨rfl, hs2⟩; replace hs2 := Lib.hid hs2)
  exact HQ.out _ _ rfl rfl rfl rfl rfl rfl rfl rfl (by rw [HA.out]; exact hs2.out)

set_option maxHeartbeats 2000000 in
set_option maxRecDepth 100000 in
theorem keep_write {w0 : World} {g : Nat} {m : DM} {ea : Nat → Addr} (fr : Act) (b o n cw i : Nat) (a : Act17) (w : World) (Q : Exit → Act → World → Prop) (hfr : IsK fr)
    (h8 : slotK fr 8 = .pointer (some ⟨g, 0, none⟩)) (h37 : slotK fr 37 = .slice (some ⟨b, o, none⟩) n cw) (h38 : slotK fr 38 = .int .i64 (n : Int)) (h39 : slotK fr 39 = .int .i64 (i : Int)) (hi : i < n) (hn : n ≤ 60) (hk : a.kind ≠ 1)
    (c0 : w.cell? ⟨b, o + i * 6, none⟩ = some (.int .i64 a.kind)) (c1 : w.cell? ⟨b, o + i * 6 + 1, none⟩ = some (.int .i64 a.area)) (c2 : w.cell? ⟨b, o + i * 6 + 2, none⟩ = some (.int .i64 a.n)) (c3 : w.cell? ⟨b, o + i * 6 + 3, none⟩ = some (.int .i64 a.torn)) (c4 : w.cell? ⟨b, o + i * 6 + 4, none⟩ = some (.int .u64 a.scat)) (c5 : w.cell? ⟨b, o + i * 6 + 5, none⟩ = some a.v)
    (hS : DS w0 w g m) (hG : m.Good i) (hE : DErrs w0 ea) (h26 : 26 ≤ g) (hr : RB w a.A a.bs.length a.bs) (hbl : a.bs.length ≤ 200)
    (hQ : ∀ (fr' : Act) (w' : World), IsK fr' → slotK fr' 5 = slotK fr 5 → slotK fr' 6 = slotK fr 6 → slotK fr' 7 = slotK fr 7 → slotK fr' 8 = .pointer (some ⟨g, 0, none⟩) → slotK fr' 37 = .slice (some ⟨b, o, none⟩) n cw → slotK fr' 38 = .int .i64 (n : Int) → slotK fr' 39 = .int .i64 ((i + 1 : Nat) : Int) →
      DS w0 w' g (actD m a) → Q .normal fr' w') :
    Code.wp Tryd.prog (lpC Tryd.f4.body 0) Q fr w := by
  have HQ := Lib.hid hQ
  have HS := Lib.hid hS
  have HG := Lib.hid hG
  have HE := Lib.hid hE
  have HR := Lib.hid hr
  have HW : Hid (m.waits.length ≤ 1000) := Lib.hid (by have := hG.waits; omega)
  have HBL : Hid (a.bs.length ≤ 1048576) := Lib.hid (by omega)
  have HA : Hid (actD m a = m.write a.area a.n a.bs) := Lib.hid (if_neg hk)
  have q1 : (a.kind == 1) = false := beq_eq_false_iff_ne.2 hk
  have D0 := (Below.refl w.heap.size w).alloc (Nat.le_refl _) (.cells #[.int .i64 a.kind, .int .i64 a.area, .int .i64 a.n, .int .i64 a.torn, .int .u64 a.scat, a.v] 38)
  have HD := Lib.hid D0
  unfold Act17.v at c5 HD
  clear hQ hS hG hE hr D0 hbl hk
  unfold IsK at hfr
  generalize slotK fr = f at *
  subst hfr
  unfold KF
  rw [h8, h37, h38, h39]
  conv => arg 2; whnf
  clear h8 h37 h38 h39
  go_wp2_with (go_at_call 23; refine (Write_S a.area a.n a.A a.bs.length a.c a.bs (HS.out.below HD.out) HG.out.ok HE.out h26 (HR.out.keep (Keeps.of_below HD.out)) HBL.out HW.out).mono ?_; rintro e w2 ⟨rfl, hs2⟩; replace hs2 := Lib.hid hs2)
  exact HQ.out _ _ rfl rfl rfl rfl rfl rfl rfl rfl (by rw [HA.out]; exact hs2.out)

end Go.Proofs.YtgiaifglkecdjaaDoor
