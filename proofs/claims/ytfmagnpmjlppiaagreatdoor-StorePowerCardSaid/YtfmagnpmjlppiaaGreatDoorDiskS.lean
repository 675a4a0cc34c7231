/- The reference's Sum: its frame and its loops, taken out of its body. -/
import Derived.Test.YtfmagnpmjlppiaaGreatDoorTabs
import Derived.Deep.LoopGhost
import Derived.Test.YtfmagnpmjlppiaaGreatDoorDiskOps
import Derived.Deep.RegionHeld3
import Derived.WalkSmall
import Derived.Lib.SlBytesConst
namespace Go.Proofs.YtfmagnpmjlppiaaGreatDoor
open Go.RowKit

/-- All loops' bodies, the outer ones first. -/
def loopsOf : Code → List Code
 | .loop c => c :: loopsOf c
 | .seq a b => loopsOf a ++ loopsOf b
 | .block _ c => loopsOf c
 | .scope c => loopsOf c
 | .cond _ a b => loopsOf a ++ loopsOf b
 | _ => []
set_option maxRecDepth 100000 in
/-- The frame: what the loops need stands in it, all else is f. -/
def FR (f : Nat → Value) (s2 s3 s6 s7 s8 s9 s17 : Value) : Act := ⟨List.toArray (f 0 :: f 1 :: s2 :: s3 :: f 4 :: f 5 :: s6 :: s7 :: s8 :: s9 :: f 10 :: f 11 :: f 12 :: f 13 :: f 14 :: f 15 :: f 16 :: s17 :: f 18 :: f 19 :: f 20 :: f 21 :: f 22 :: f 23 :: f 24 :: f 25 :: f 26 :: f 27 :: f 28 :: f 29 :: f 30 :: f 31 :: f 32 :: f 33 :: f 34 :: f 35 :: f 36 :: f 37 :: f 38 :: f 39 :: f 40 :: f 41 :: f 42 :: f 43 :: f 44 :: f 45 :: f 46 :: f 47 :: f 48 :: f 49 :: f 50 :: f 51 :: f 52 :: f 53 :: f 54 :: f 55 :: f 56 :: f 57 :: f 58 :: f 59 :: f 60 :: f 61 :: f 62 :: f 63 :: f 64 :: f 65 :: f 66 :: f 67 :: f 68 :: f 69 :: f 70 :: f 71 :: f 72 :: f 73 :: f 74 :: f 75 :: f 76 :: f 77 :: f 78 :: f 79 :: f 80 :: f 81 :: f 82 :: f 83 :: f 84 :: f 85 :: f 86 :: f 87 :: f 88 :: f 89 :: f 90 :: f 91 :: f 92 :: f 93 :: f 94 :: f 95 :: f 96 :: f 97 :: f 98 :: f 99 :: f 100 :: f 101 :: f 102 :: f 103 :: f 104 :: f 105 :: f 106 :: f 107 :: f 108 :: f 109 :: f 110 :: f 111 :: f 112 :: f 113 :: f 114 :: f 115 :: f 116 :: f 117 :: f 118 :: f 119 :: f 120 :: f 121 :: f 122 :: f 123 :: f 124 :: f 125 :: f 126 :: f 127 :: f 128 :: f 129 :: f 130 :: f 131 :: f 132 :: f 133 :: f 134 :: f 135 :: f 136 :: f 137 :: f 138 :: f 139 :: f 140 :: f 141 :: f 142 :: f 143 :: f 144 :: f 145 :: f 146 :: f 147 :: f 148 :: f 149 :: f 150 :: f 151 :: f 152 :: f 153 :: f 154 :: f 155 :: f 156 :: f 157 :: f 158 :: f 159 :: f 160 :: f 161 :: f 162 :: f 163 :: f 164 :: f 165 :: f 166 :: f 167 :: f 168 :: f 169 :: f 170 :: f 171 :: f 172 :: f 173 :: f 174 :: f 175 :: f 176 :: f 177 :: f 178 :: f 179 :: f 180 :: f 181 :: f 182 :: f 183 :: f 184 :: f 185 :: f 186 :: f 187 :: f 188 :: f 189 :: f 190 :: f 191 :: f 192 :: f 193 :: f 194 :: f 195 :: f 196 :: f 197 :: f 198 :: f 199 :: f 200 :: f 201 :: f 202 :: f 203 :: f 204 :: f 205 :: f 206 :: f 207 :: f 208 :: f 209 :: f 210 :: f 211 :: f 212 :: f 213 :: f 214 :: f 215 :: f 216 :: f 217 :: f 218 :: f 219 :: f 220 :: f 221 :: f 222 :: f 223 :: f 224 :: f 225 :: f 226 :: f 227 :: f 228 :: f 229 :: f 230 :: f 231 :: f 232 :: f 233 :: f 234 :: f 235 :: f 236 :: f 237 :: f 238 :: f 239 :: f 240 :: f 241 :: f 242 :: f 243 :: f 244 :: f 245 :: f 246 :: f 247 :: f 248 :: f 249 :: f 250 :: f 251 :: f 252 :: f 253 :: f 254 :: f 255 :: f 256 :: f 257 :: f 258 :: f 259 :: f 260 :: f 261 :: f 262 :: f 263 :: f 264 :: f 265 :: f 266 :: f 267 :: f 268 :: f 269 :: f 270 :: f 271 :: f 272 :: f 273 :: f 274 :: f 275 :: f 276 :: f 277 :: f 278 :: f 279 :: f 280 :: f 281 :: f 282 :: f 283 :: f 284 :: f 285 :: f 286 :: f 287 :: f 288 :: f 289 :: f 290 :: f 291 :: f 292 :: f 293 :: f 294 :: f 295 :: f 296 :: f 297 :: f 298 :: f 299 :: f 300 :: f 301 :: f 302 :: f 303 :: f 304 :: f 305 :: f 306 :: f 307 :: f 308 :: f 309 :: f 310 :: f 311 :: f 312 :: f 313 :: f 314 :: f 315 :: f 316 :: f 317 :: f 318 :: f 319 :: f 320 :: []), []⟩
end Go.Proofs.YtfmagnpmjlppiaaGreatDoor

/- disk: one round of Crash's loop. -/
namespace Go.Proofs.YtfmagnpmjlppiaaGreatDoor
open Go.RowKit

set_option maxRecDepth 100000 in
def CF (f : Nat → Value) : Act := ⟨#[f 0, f 1, f 2, f 3, f 4, f 5, f 6, f 7, f 8, f 9, f 10, f 11, f 12, f 13, f 14, f 15, f 16, f 17, f 18, f 19, f 20, f 21, f 22, f 23, f 24, f 25, f 26, f 27, f 28, f 29, f 30, f 31, f 32, f 33, f 34, f 35, f 36, f 37, f 38, f 39, f 40, f 41, f 42, f 43, f 44, f 45, f 46, f 47, f 48, f 49, f 50, f 51, f 52, f 53, f 54, f 55, f 56, f 57, f 58, f 59, f 60, f 61, f 62, f 63, f 64, f 65, f 66, f 67, f 68, f 69, f 70, f 71, f 72, f 73, f 74, f 75, f 76, f 77, f 78, f 79, f 80, f 81, f 82, f 83, f 84, f 85, f 86, f 87, f 88, f 89, f 90, f 91, f 92, f 93, f 94, f 95, f 96, f 97, f 98], []⟩
def slotC (a : Act) (i : Nat) : Value := a.tmps.toList.getD i undef
def IsC (a : Act) : Prop := a = CF (slotC a)
def loopsC : Code → List Code
 | .loop c => c :: loopsC c
 | .seq a b => loopsC a ++ loopsC b
 | .block _ c => loopsC c
 | .scope c => loopsC c
 | .cond _ a b => loopsC a ++ loopsC b
 | _ => []
def lpC (b : Option Code) (i : Nat) : Code := (loopsC (b.getD .skip)).getD i .skip

theorem bit_and {s : Int} (h0 : 0 ≤ s) (h1 : s ≤ 18446744073709551615) (k : Nat) : (bits BinOp.and IntKind.u64 (s / 2 ^ k) 1 == 1) = bitAt s k := by
 have hp : (0 : Int) < 2 ^ k := Int.pow_pos (by decide)
 rw [and_one_u64 _ (Int.ediv_nonneg h0 (Int.le_of_lt hp)) (Int.le_trans (Int.ediv_le_self _ h0) h1)]
 rfl
/-- What stands behind the copy of a change. -/
theorem box_row {w : World} {c0 c1 c2 c3 : Value} : (w.alloc (.cells #[c0, c1, c2, c3] 105)).heap[w.heap.size]? = some (.cells #[c0, c1, c2, c3] 105 (0, 0)) := heap_alloc_new w _

set_option maxHeartbeats 2000000 in
set_option maxRecDepth 100000 in
theorem crash_a1 {O : Nat → Prop} {g : Nat} {m : DM} {bv : Nat → Value} {wv : Value} {ws : List (DChg × Value)} (fr : Act) (b o n cw i first nx kx : Nat) (Ax : Option Addr) (s torn : Int) (c : DChg) (w : World) (Q : Exit → Act → World → Prop) (hfr : IsC fr)
  (h0 : slotC fr 0 = .pointer (some ⟨g, 0, none⟩)) (h1 : slotC fr 1 = .int .i64 (first : Int)) (h2 : slotC fr 2 = .int .u64 s) (h3 : slotC fr 3 = .int .i64 torn) (h22 : slotC fr 22 = .slice (some ⟨b, o, none⟩) n cw) (h23 : slotC fr 23 = .int .i64 (n : Int)) (h24 : slotC fr 24 = .int .i64 (i : Int))
  (hi : i < n) (hn : n ≤ 1000) (hf : first ≤ n) (hs0 : 0 ≤ s) (hs1 : s ≤ 18446744073709551615) (hif : i < first)
  (c0 : w.cell? ⟨b, o + i * 4, none⟩ = some (.int .i64 (c.area : Int))) (c1 : w.cell? ⟨b, o + i * 4 + 1, none⟩ = some (.int .i64 (c.pos : Int))) (c2 : w.cell? ⟨b, o + i * 4 + 2, none⟩ = some (.slice Ax nx kx)) (c3 : w.cell? ⟨b, o + i * 4 + 3, none⟩ = some (.bool c.cuts))
  (h : DiskV w O g m bv wv ws) (hbx : ¬ O w.heap.size) (hok : m.Ok) (hca : c.area < 3) (hp : c.pos + c.bytes.length ≤ 1048576) (hx : OB w 0 (.slice Ax nx kx) c.bytes) (hnx : c.bytes.length = nx) (hxa : ∀ i, i < 6 → ∀ q, (Value.slice Ax nx kx).ownBlock = some q → (bv i).ownBlock ≠ some q)
  (hQ : ∀ (fr' : Act) (w' : World) (bv' : Nat → Value), IsC fr' → slotC fr' 0 = .pointer (some ⟨g, 0, none⟩) → slotC fr' 1 = .int .i64 (first : Int) → slotC fr' 2 = .int .u64 s → slotC fr' 3 = .int .i64 torn → slotC fr' 22 = .slice (some ⟨b, o, none⟩) n cw → slotC fr' 23 = .int .i64 (n : Int) → slotC fr' 24 = .int .i64 ((i + 1 : Nat) : Int) →
   DiskV w' (ext O w w') g { m with b := updB m.b c.area (doB (m.b c.area) c) } bv' wv ws → Fr O w w' → Q .normal fr' w') :
  Code.wp Tryz.prog (lpC Tryz.f16.body 0) Q fr w := by
 have hu := And.intro hs0 (And.intro hs1 (And.intro hnx (And.intro hf (And.intro hca hp))))
 clear hu
 have HQ := Lib.hid hQ
 have HX := Lib.hid hx
 have HXA := Lib.hid hxa
 have HK := Lib.hid hok
 have HBX := Lib.hid hbx
 have HV := Lib.hid h
 have q1 : decide ((i : Int) - (first : Int) < 0) = true := decide_eq_true (by omega)
 have D0 := (Below.refl w.heap.size w).alloc (Nat.le_refl _) (.cells #[.int .i64 (c.area : Int), .int .i64 (c.pos : Int), .slice Ax nx kx, .bool c.cuts] 105)
 have HD := Lib.hid D0
 clear hQ hx hxa hok hbx h D0
 unfold IsC at hfr
 generalize slotC fr = f at *
 subst hfr
 unfold CF
 rw [h0, h1, h2, h3, h22, h23, h24]
 conv => arg 2; whnf
 clear h0 h1 h2 h3 h22 h23 h24
 go_wp2_with fail
 obtain ⟨wB, hwB⟩ : ∃ W, W = w.alloc (.cells #[.int .i64 (c.area : Int), .int .i64 (c.pos : Int), .slice Ax nx kx, .bool c.cuts] 105) := ⟨_, rfl⟩
 rw [← hwB]
 have VB : Hid (DiskV wB O g m bv wv ws) := Lib.hid (by rw [hwB]; exact HV.out.below HD.out)
 have XB : Hid (OB wB 0 (.slice Ax nx kx) c.bytes) := Lib.hid (by rw [hwB]; exact OB.below HX.out HD.out)
 have BB : Hid (Below w.heap.size w wB) := Lib.hid (by rw [hwB]; exact HD.out)
 have SB : Hid (w.heap.size < wB.heap.size) := Lib.hid (by rw [hwB]; simp)
 have t0 : wB.cell? ⟨w.heap.size, 0, none⟩ = some (.int .i64 (c.area : Int)) := by rw [hwB]; exact cell_of_row _ _ 0 _ _ _ box_row
 have t1 : wB.cell? ⟨w.heap.size, 1, none⟩ = some (.int .i64 (c.pos : Int)) := by rw [hwB]; exact cell_of_row _ _ 1 _ _ _ box_row
 have t2 : wB.cell? ⟨w.heap.size, 2, none⟩ = some (.slice Ax nx kx) := by rw [hwB]; exact cell_of_row _ _ 2 _ _ _ box_row
 have t3 : wB.cell? ⟨w.heap.size, 3, none⟩ = some (.bool c.cuts) := by rw [hwB]; exact cell_of_row _ _ 3 _ _ _ box_row
 have HT : Hid (∀ w5, Fr O wB w5 → ∀ j, w5.cell? ⟨w.heap.size, j, none⟩ = wB.cell? ⟨w.heap.size, j, none⟩) := Lib.hid fun w5 hf j => hf.cell (p := ⟨w.heap.size, j, none⟩) SB.out HBX.out
 clear hwB c0 c1 c2 c3
 go_region_held3 (fun w' => w'.cell? ⟨w.heap.size, 0, none⟩ = wB.cell? ⟨w.heap.size, 0, none⟩ ∧ w'.cell? ⟨w.heap.size, 1, none⟩ = wB.cell? ⟨w.heap.size, 1, none⟩ ∧ w'.cell? ⟨w.heap.size, 2, none⟩ = wB.cell? ⟨w.heap.size, 2, none⟩ ∧ w'.cell? ⟨w.heap.size, 3, none⟩ = wB.cell? ⟨w.heap.size, 3, none⟩) (go_keep)
  (first | (go_at_call 47; refine (do_any g 1 c.area c (.slice Ax nx kx) _ HK.out O bv _ _ wB.drew (VB.out.below (below_d1 (Below.refl _ _))) (.inl rfl) rfl hca hp (OwnS.drew XB.out) (HXA.out (1 - 1 + c.area) (by omega))).mono ?_; rintro e w5 ⟨rfl, bv5, hv5, hf5⟩; replace hf5 := Fr.undrew hf5; have k0 := HT.out w5 hf5 0; have k1 := HT.out w5 hf5 1; have k2 := HT.out w5 hf5 2; have k3 := HT.out w5 hf5 3; replace hv5 := Lib.hid hv5; replace hf5 := Lib.hid hf5))
 go_wp2
 have hv6 := hv5.out
 rw [show 1 - 1 + c.area = c.area by omega] at hv6
 exact HQ.out _ _ bv5 rfl rfl rfl rfl rfl rfl rfl rfl (hv6.mono fun q hq ho => ho.imp id fun ho => ⟨Nat.le_trans BB.out.size ho.1, hq⟩) ((Fr.of_below BB.out).trans hf5.out fun _ _ h => h)

set_option maxHeartbeats 2000000 in
set_option maxRecDepth 100000 in
theorem crash_a2 {O : Nat → Prop} {g : Nat} {m : DM} {bv : Nat → Value} {wv : Value} {ws : List (DChg × Value)} (fr : Act) (b o n cw i first nx kx : Nat) (Ax : Option Addr) (s torn : Int) (c : DChg) (w : World) (Q : Exit → Act → World → Prop) (hfr : IsC fr)
  (h0 : slotC fr 0 = .pointer (some ⟨g, 0, none⟩)) (h1 : slotC fr 1 = .int .i64 (first : Int)) (h2 : slotC fr 2 = .int .u64 s) (h3 : slotC fr 3 = .int .i64 torn) (h22 : slotC fr 22 = .slice (some ⟨b, o, none⟩) n cw) (h23 : slotC fr 23 = .int .i64 (n : Int)) (h24 : slotC fr 24 = .int .i64 (i : Int))
  (hi : i < n) (hn : n ≤ 1000) (hf : first ≤ n) (hs0 : 0 ≤ s) (hs1 : s ≤ 18446744073709551615) (hif : first ≤ i) (hi63 : i - first < 63) (hbit : bitAt s (i - first) = true)
  (c0 : w.cell? ⟨b, o + i * 4, none⟩ = some (.int .i64 (c.area : Int))) (c1 : w.cell? ⟨b, o + i * 4 + 1, none⟩ = some (.int .i64 (c.pos : Int))) (c2 : w.cell? ⟨b, o + i * 4 + 2, none⟩ = some (.slice Ax nx kx)) (c3 : w.cell? ⟨b, o + i * 4 + 3, none⟩ = some (.bool c.cuts))
  (h : DiskV w O g m bv wv ws) (hbx : ¬ O w.heap.size) (hok : m.Ok) (hca : c.area < 3) (hp : c.pos + c.bytes.length ≤ 1048576) (hx : OB w 0 (.slice Ax nx kx) c.bytes) (hnx : c.bytes.length = nx) (hxa : ∀ i, i < 6 → ∀ q, (Value.slice Ax nx kx).ownBlock = some q → (bv i).ownBlock ≠ some q)
  (hQ : ∀ (fr' : Act) (w' : World) (bv' : Nat → Value), IsC fr' → slotC fr' 0 = .pointer (some ⟨g, 0, none⟩) → slotC fr' 1 = .int .i64 (first : Int) → slotC fr' 2 = .int .u64 s → slotC fr' 3 = .int .i64 torn → slotC fr' 22 = .slice (some ⟨b, o, none⟩) n cw → slotC fr' 23 = .int .i64 (n : Int) → slotC fr' 24 = .int .i64 ((i + 1 : Nat) : Int) →
   DiskV w' (ext O w w') g { m with b := updB m.b c.area (doB (m.b c.area) c) } bv' wv ws → Fr O w w' → Q .normal fr' w') :
  Code.wp Tryz.prog (lpC Tryz.f16.body 0) Q fr w := by
 have hu := And.intro hs0 (And.intro hs1 (And.intro hnx (And.intro hf (And.intro hca hp))))
 clear hu
 have HQ := Lib.hid hQ
 have HX := Lib.hid hx
 have HXA := Lib.hid hxa
 have HK := Lib.hid hok
 have HBX := Lib.hid hbx
 have HV := Lib.hid h
 have q1 : decide ((i : Int) - (first : Int) < 0) = false := decide_eq_false (by omega)
 have q2 : decide ((i : Int) - (first : Int) < 63) = true := decide_eq_true (by omega)
 have q2a : ((i : Int) - (first : Int)).toNat = i - first := by omega
 have q2b : (0 : Int) ≤ (i : Int) - (first : Int) := by omega
 have q3 : (bits BinOp.and IntKind.u64 (s / 2 ^ (i - first)) 1 == 1) = true := (bit_and hs0 hs1 _).trans hbit
 have D0 := (Below.refl w.heap.size w).alloc (Nat.le_refl _) (.cells #[.int .i64 (c.area : Int), .int .i64 (c.pos : Int), .slice Ax nx kx, .bool c.cuts] 105)
 have HD := Lib.hid D0
 clear hQ hx hxa hok hbx h D0
 unfold IsC at hfr
 generalize slotC fr = f at *
 subst hfr
 unfold CF
 rw [h0, h1, h2, h3, h22, h23, h24]
 conv => arg 2; whnf
 clear h0 h1 h2 h3 h22 h23 h24
 go_wp2_with fail
 obtain ⟨wB, hwB⟩ : ∃ W, W = w.alloc (.cells #[.int .i64 (c.area : Int), .int .i64 (c.pos : Int), .slice Ax nx kx, .bool c.cuts] 105) := ⟨_, rfl⟩
 rw [← hwB]
 have VB : Hid (DiskV wB O g m bv wv ws) := Lib.hid (by rw [hwB]; exact HV.out.below HD.out)
 have XB : Hid (OB wB 0 (.slice Ax nx kx) c.bytes) := Lib.hid (by rw [hwB]; exact OB.below HX.out HD.out)
 have BB : Hid (Below w.heap.size w wB) := Lib.hid (by rw [hwB]; exact HD.out)
 have SB : Hid (w.heap.size < wB.heap.size) := Lib.hid (by rw [hwB]; simp)
 have t0 : wB.cell? ⟨w.heap.size, 0, none⟩ = some (.int .i64 (c.area : Int)) := by rw [hwB]; exact cell_of_row _ _ 0 _ _ _ box_row
 have t1 : wB.cell? ⟨w.heap.size, 1, none⟩ = some (.int .i64 (c.pos : Int)) := by rw [hwB]; exact cell_of_row _ _ 1 _ _ _ box_row
 have t2 : wB.cell? ⟨w.heap.size, 2, none⟩ = some (.slice Ax nx kx) := by rw [hwB]; exact cell_of_row _ _ 2 _ _ _ box_row
 have t3 : wB.cell? ⟨w.heap.size, 3, none⟩ = some (.bool c.cuts) := by rw [hwB]; exact cell_of_row _ _ 3 _ _ _ box_row
 have HT : Hid (∀ w5, Fr O wB w5 → ∀ j, w5.cell? ⟨w.heap.size, j, none⟩ = wB.cell? ⟨w.heap.size, j, none⟩) := Lib.hid fun w5 hf j => hf.cell (p := ⟨w.heap.size, j, none⟩) SB.out HBX.out
 clear hwB c0 c1 c2 c3
 go_region_held3 (fun w' => w'.cell? ⟨w.heap.size, 0, none⟩ = wB.cell? ⟨w.heap.size, 0, none⟩ ∧ w'.cell? ⟨w.heap.size, 1, none⟩ = wB.cell? ⟨w.heap.size, 1, none⟩ ∧ w'.cell? ⟨w.heap.size, 2, none⟩ = wB.cell? ⟨w.heap.size, 2, none⟩ ∧ w'.cell? ⟨w.heap.size, 3, none⟩ = wB.cell? ⟨w.heap.size, 3, none⟩) (go_keep)
  (first | (go_at_call 47; refine (do_any g 1 c.area c (.slice Ax nx kx) _ HK.out O bv _ _ wB.drew (VB.out.below (below_d1 (Below.refl _ _))) (.inl rfl) rfl hca hp (OwnS.drew XB.out) (HXA.out (1 - 1 + c.area) (by omega))).mono ?_; rintro e w5 ⟨rfl, bv5, hv5, hf5⟩; replace hf5 := Fr.undrew hf5; have k0 := HT.out w5 hf5 0; have k1 := HT.out w5 hf5 1; have k2 := HT.out w5 hf5 2; have k3 := HT.out w5 hf5 3; replace hv5 := Lib.hid hv5; replace hf5 := Lib.hid hf5))
 go_wp2
 have hv6 := hv5.out
 rw [show 1 - 1 + c.area = c.area by omega] at hv6
 exact HQ.out _ _ bv5 rfl rfl rfl rfl rfl rfl rfl rfl (hv6.mono fun q hq ho => ho.imp id fun ho => ⟨Nat.le_trans BB.out.size ho.1, hq⟩) ((Fr.of_below BB.out).trans hf5.out fun _ _ h => h)

set_option maxHeartbeats 2000000 in
set_option maxRecDepth 100000 in
theorem crash_c1 {O : Nat → Prop} {g : Nat} {m : DM} {bv : Nat → Value} {wv : Value} {ws : List (DChg × Value)} (fr : Act) (b o n cw i first nx kx : Nat) (Ax : Option Addr) (s torn : Int) (c : DChg) (w : World) (Q : Exit → Act → World → Prop) (hfr : IsC fr)
  (h0 : slotC fr 0 = .pointer (some ⟨g, 0, none⟩)) (h1 : slotC fr 1 = .int .i64 (first : Int)) (h2 : slotC fr 2 = .int .u64 s) (h3 : slotC fr 3 = .int .i64 torn) (h22 : slotC fr 22 = .slice (some ⟨b, o, none⟩) n cw) (h23 : slotC fr 23 = .int .i64 (n : Int)) (h24 : slotC fr 24 = .int .i64 (i : Int))
  (hi : i < n) (hn : n ≤ 1000) (hf : first ≤ n) (hs0 : 0 ≤ s) (hs1 : s ≤ 18446744073709551615) (hif : first < i) (hi63 : i - first < 63) (hbit : bitAt s (i - first) = false)
  (c0 : w.cell? ⟨b, o + i * 4, none⟩ = some (.int .i64 (c.area : Int))) (c1 : w.cell? ⟨b, o + i * 4 + 1, none⟩ = some (.int .i64 (c.pos : Int))) (c2 : w.cell? ⟨b, o + i * 4 + 2, none⟩ = some (.slice Ax nx kx)) (c3 : w.cell? ⟨b, o + i * 4 + 3, none⟩ = some (.bool c.cuts))
  (h : DiskV w O g m bv wv ws) (hbx : ¬ O w.heap.size) (hok : m.Ok) (hca : c.area < 3) (hp : c.pos + c.bytes.length ≤ 1048576) (hx : OB w 0 (.slice Ax nx kx) c.bytes) (hnx : c.bytes.length = nx) (hxa : ∀ i, i < 6 → ∀ q, (Value.slice Ax nx kx).ownBlock = some q → (bv i).ownBlock ≠ some q)
  (hQ : ∀ (fr' : Act) (w' : World) (bv' : Nat → Value), IsC fr' → slotC fr' 0 = .pointer (some ⟨g, 0, none⟩) → slotC fr' 1 = .int .i64 (first : Int) → slotC fr' 2 = .int .u64 s → slotC fr' 3 = .int .i64 torn → slotC fr' 22 = .slice (some ⟨b, o, none⟩) n cw → slotC fr' 23 = .int .i64 (n : Int) → slotC fr' 24 = .int .i64 ((i + 1 : Nat) : Int) →
   DiskV w' (ext O w w') g { m with b := m.b } bv' wv ws → Fr O w w' → Q .normal fr' w') :
  Code.wp Tryz.prog (lpC Tryz.f16.body 0) Q fr w := by
 have hu := And.intro hs0 (And.intro hs1 (And.intro hnx (And.intro hf (And.intro hca hp))))
 clear hu
 have HQ := Lib.hid hQ
 have HX := Lib.hid hx
 have HXA := Lib.hid hxa
 have HK := Lib.hid hok
 have HBX := Lib.hid hbx
 have HV := Lib.hid h
 have q1 : decide ((i : Int) - (first : Int) < 0) = false := decide_eq_false (by omega)
 have q2 : decide ((i : Int) - (first : Int) < 63) = true := decide_eq_true (by omega)
 have q2a : ((i : Int) - (first : Int)).toNat = i - first := by omega
 have q2b : (0 : Int) ≤ (i : Int) - (first : Int) := by omega
 have q3 : (bits BinOp.and IntKind.u64 (s / 2 ^ (i - first)) 1 == 1) = false := (bit_and hs0 hs1 _).trans hbit
 have q4 : ((i : Int) - (first : Int) == 0) = false := beq_eq_false_iff_ne.2 (by omega)
 have D0 := (Below.refl w.heap.size w).alloc (Nat.le_refl _) (.cells #[.int .i64 (c.area : Int), .int .i64 (c.pos : Int), .slice Ax nx kx, .bool c.cuts] 105)
 have HD := Lib.hid D0
 clear hQ hx hxa hok hbx h D0
 unfold IsC at hfr
 generalize slotC fr = f at *
 subst hfr
 unfold CF
 rw [h0, h1, h2, h3, h22, h23, h24]
 conv => arg 2; whnf
 clear h0 h1 h2 h3 h22 h23 h24
 go_wp2_with fail
 exact HQ.out _ _ bv rfl rfl rfl rfl rfl rfl rfl rfl ((HV.out.below HD.out).mono fun _ _ ho => .inl ho) (Fr.of_below HD.out)

set_option maxHeartbeats 2000000 in
set_option maxRecDepth 100000 in
theorem crash_c2 {O : Nat → Prop} {g : Nat} {m : DM} {bv : Nat → Value} {wv : Value} {ws : List (DChg × Value)} (fr : Act) (b o n cw i first nx kx : Nat) (Ax : Option Addr) (s torn : Int) (c : DChg) (w : World) (Q : Exit → Act → World → Prop) (hfr : IsC fr)
  (h0 : slotC fr 0 = .pointer (some ⟨g, 0, none⟩)) (h1 : slotC fr 1 = .int .i64 (first : Int)) (h2 : slotC fr 2 = .int .u64 s) (h3 : slotC fr 3 = .int .i64 torn) (h22 : slotC fr 22 = .slice (some ⟨b, o, none⟩) n cw) (h23 : slotC fr 23 = .int .i64 (n : Int)) (h24 : slotC fr 24 = .int .i64 (i : Int))
  (hi : i < n) (hn : n ≤ 1000) (hf : first ≤ n) (hs0 : 0 ≤ s) (hs1 : s ≤ 18446744073709551615) (hif : first + 63 ≤ i)
  (c0 : w.cell? ⟨b, o + i * 4, none⟩ = some (.int .i64 (c.area : Int))) (c1 : w.cell? ⟨b, o + i * 4 + 1, none⟩ = some (.int .i64 (c.pos : Int))) (c2 : w.cell? ⟨b, o + i * 4 + 2, none⟩ = some (.slice Ax nx kx)) (c3 : w.cell? ⟨b, o + i * 4 + 3, none⟩ = some (.bool c.cuts))
  (h : DiskV w O g m bv wv ws) (hbx : ¬ O w.heap.size) (hok : m.Ok) (hca : c.area < 3) (hp : c.pos + c.bytes.length ≤ 1048576) (hx : OB w 0 (.slice Ax nx kx) c.bytes) (hnx : c.bytes.length = nx) (hxa : ∀ i, i < 6 → ∀ q, (Value.slice Ax nx kx).ownBlock = some q → (bv i).ownBlock ≠ some q)
  (hQ : ∀ (fr' : Act) (w' : World) (bv' : Nat → Value), IsC fr' → slotC fr' 0 = .pointer (some ⟨g, 0, none⟩) → slotC fr' 1 = .int .i64 (first : Int) → slotC fr' 2 = .int .u64 s → slotC fr' 3 = .int .i64 torn → slotC fr' 22 = .slice (some ⟨b, o, none⟩) n cw → slotC fr' 23 = .int .i64 (n : Int) → slotC fr' 24 = .int .i64 ((i + 1 : Nat) : Int) →
   DiskV w' (ext O w w') g { m with b := m.b } bv' wv ws → Fr O w w' → Q .normal fr' w') :
  Code.wp Tryz.prog (lpC Tryz.f16.body 0) Q fr w := by
 have hu := And.intro hs0 (And.intro hs1 (And.intro hnx (And.intro hf (And.intro hca hp))))
 clear hu
 have HQ := Lib.hid hQ
 have HX := Lib.hid hx
 have HXA := Lib.hid hxa
 have HK := Lib.hid hok
 have HBX := Lib.hid hbx
 have HV := Lib.hid h
 have q1 : decide ((i : Int) - (first : Int) < 0) = false := decide_eq_false (by omega)
 have q2 : decide ((i : Int) - (first : Int) < 63) = false := decide_eq_false (by omega)
 have q4 : ((i : Int) - (first : Int) == 0) = false := beq_eq_false_iff_ne.2 (by omega)
 have D0 := (Below.refl w.heap.size w).alloc (Nat.le_refl _) (.cells #[.int .i64 (c.area : Int), .int .i64 (c.pos : Int), .slice Ax nx kx, .bool c.cuts] 105)
 have HD := Lib.hid D0
 clear hQ hx hxa hok hbx h D0
 unfold IsC at hfr
 generalize slotC fr = f at *
 subst hfr
 unfold CF
 rw [h0, h1, h2, h3, h22, h23, h24]
 conv => arg 2; whnf
 clear h0 h1 h2 h3 h22 h23 h24
 go_wp2_with fail
 exact HQ.out _ _ bv rfl rfl rfl rfl rfl rfl rfl rfl ((HV.out.below HD.out).mono fun _ _ ho => .inl ho) (Fr.of_below HD.out)

set_option maxHeartbeats 2000000 in
set_option maxRecDepth 100000 in
theorem crash_c3 {O : Nat → Prop} {g : Nat} {m : DM} {bv : Nat → Value} {wv : Value} {ws : List (DChg × Value)} (fr : Act) (b o n cw i first nx kx : Nat) (Ax : Option Addr) (s torn : Int) (c : DChg) (w : World) (Q : Exit → Act → World → Prop) (hfr : IsC fr)
  (h0 : slotC fr 0 = .pointer (some ⟨g, 0, none⟩)) (h1 : slotC fr 1 = .int .i64 (first : Int)) (h2 : slotC fr 2 = .int .u64 s) (h3 : slotC fr 3 = .int .i64 torn) (h22 : slotC fr 22 = .slice (some ⟨b, o, none⟩) n cw) (h23 : slotC fr 23 = .int .i64 (n : Int)) (h24 : slotC fr 24 = .int .i64 (i : Int))
  (hi : i < n) (hn : n ≤ 1000) (hf : first ≤ n) (hs0 : 0 ≤ s) (hs1 : s ≤ 18446744073709551615) (hif : i = first) (hbit : bitAt s 0 = false) (hcut : c.cuts = true)
  (c0 : w.cell? ⟨b, o + i * 4, none⟩ = some (.int .i64 (c.area : Int))) (c1 : w.cell? ⟨b, o + i * 4 + 1, none⟩ = some (.int .i64 (c.pos : Int))) (c2 : w.cell? ⟨b, o + i * 4 + 2, none⟩ = some (.slice Ax nx kx)) (c3 : w.cell? ⟨b, o + i * 4 + 3, none⟩ = some (.bool c.cuts))
  (h : DiskV w O g m bv wv ws) (hbx : ¬ O w.heap.size) (hok : m.Ok) (hca : c.area < 3) (hp : c.pos + c.bytes.length ≤ 1048576) (hx : OB w 0 (.slice Ax nx kx) c.bytes) (hnx : c.bytes.length = nx) (hxa : ∀ i, i < 6 → ∀ q, (Value.slice Ax nx kx).ownBlock = some q → (bv i).ownBlock ≠ some q)
  (hQ : ∀ (fr' : Act) (w' : World) (bv' : Nat → Value), IsC fr' → slotC fr' 0 = .pointer (some ⟨g, 0, none⟩) → slotC fr' 1 = .int .i64 (first : Int) → slotC fr' 2 = .int .u64 s → slotC fr' 3 = .int .i64 torn → slotC fr' 22 = .slice (some ⟨b, o, none⟩) n cw → slotC fr' 23 = .int .i64 (n : Int) → slotC fr' 24 = .int .i64 ((i + 1 : Nat) : Int) →
   DiskV w' (ext O w w') g { m with b := m.b } bv' wv ws → Fr O w w' → Q .normal fr' w') :
  Code.wp Tryz.prog (lpC Tryz.f16.body 0) Q fr w := by
 have hu := And.intro hs0 (And.intro hs1 (And.intro hnx (And.intro hf (And.intro hca hp))))
 clear hu
 have HQ := Lib.hid hQ
 have HX := Lib.hid hx
 have HXA := Lib.hid hxa
 have HK := Lib.hid hok
 have HBX := Lib.hid hbx
 have HV := Lib.hid h
 obtain ⟨ca, cpos, cb, cc⟩ := c
 dsimp only at hcut hca hp hnx c0 c1 c2 c3 HX HQ
 subst hcut
 subst hif
 have q3 : (bits BinOp.and IntKind.u64 s 1 == 1) = false := by have := bit_and hs0 hs1 0; rw [hbit] at this; simpa using this
 obtain ⟨_, _, e9, hkx, hkm, _⟩ := OB.form HX.out
 injection e9 with e9a e9b e9c
 subst e9c
 rw [hnx] at hkx
 clear e9a e9b
 have D0 := (Below.refl w.heap.size w).alloc (Nat.le_refl _) (.cells #[.int .i64 (ca : Int), .int .i64 (cpos : Int), .slice Ax nx kx, .bool true] 105)
 have HD := Lib.hid D0
 clear hQ hx hxa hok hbx h D0
 unfold IsC at hfr
 generalize slotC fr = f at *
 subst hfr
 unfold CF
 rw [h0, h1, h2, h3, h22, h23, h24]
 conv => arg 2; whnf
 clear h0 h1 h2 h3 h22 h23 h24
 go_wp2_with fail
 exact HQ.out _ _ bv rfl rfl rfl rfl rfl rfl rfl rfl ((HV.out.below HD.out).mono fun _ _ ho => .inl ho) (Fr.of_below HD.out)

set_option maxHeartbeats 2000000 in
set_option maxRecDepth 100000 in
theorem crash_c4 {O : Nat → Prop} {g : Nat} {m : DM} {bv : Nat → Value} {wv : Value} {ws : List (DChg × Value)} (fr : Act) (b o n cw i first nx kx : Nat) (Ax : Option Addr) (s torn : Int) (c : DChg) (w : World) (Q : Exit → Act → World → Prop) (hfr : IsC fr)
  (h0 : slotC fr 0 = .pointer (some ⟨g, 0, none⟩)) (h1 : slotC fr 1 = .int .i64 (first : Int)) (h2 : slotC fr 2 = .int .u64 s) (h3 : slotC fr 3 = .int .i64 torn) (h22 : slotC fr 22 = .slice (some ⟨b, o, none⟩) n cw) (h23 : slotC fr 23 = .int .i64 (n : Int)) (h24 : slotC fr 24 = .int .i64 (i : Int))
  (hi : i < n) (hn : n ≤ 1000) (hf : first ≤ n) (hs0 : 0 ≤ s) (hs1 : s ≤ 18446744073709551615) (hif : i = first) (hbit : bitAt s 0 = false) (hcut : c.cuts = false) (ht : torn ≤ 0)
  (c0 : w.cell? ⟨b, o + i * 4, none⟩ = some (.int .i64 (c.area : Int))) (c1 : w.cell? ⟨b, o + i * 4 + 1, none⟩ = some (.int .i64 (c.pos : Int))) (c2 : w.cell? ⟨b, o + i * 4 + 2, none⟩ = some (.slice Ax nx kx)) (c3 : w.cell? ⟨b, o + i * 4 + 3, none⟩ = some (.bool c.cuts))
  (h : DiskV w O g m bv wv ws) (hbx : ¬ O w.heap.size) (hok : m.Ok) (hca : c.area < 3) (hp : c.pos + c.bytes.length ≤ 1048576) (hx : OB w 0 (.slice Ax nx kx) c.bytes) (hnx : c.bytes.length = nx) (hxa : ∀ i, i < 6 → ∀ q, (Value.slice Ax nx kx).ownBlock = some q → (bv i).ownBlock ≠ some q)
  (hQ : ∀ (fr' : Act) (w' : World) (bv' : Nat → Value), IsC fr' → slotC fr' 0 = .pointer (some ⟨g, 0, none⟩) → slotC fr' 1 = .int .i64 (first : Int) → slotC fr' 2 = .int .u64 s → slotC fr' 3 = .int .i64 torn → slotC fr' 22 = .slice (some ⟨b, o, none⟩) n cw → slotC fr' 23 = .int .i64 (n : Int) → slotC fr' 24 = .int .i64 ((i + 1 : Nat) : Int) →
   DiskV w' (ext O w w') g { m with b := m.b } bv' wv ws → Fr O w w' → Q .normal fr' w') :
  Code.wp Tryz.prog (lpC Tryz.f16.body 0) Q fr w := by
 have hu := And.intro hs0 (And.intro hs1 (And.intro hnx (And.intro hf (And.intro hca hp))))
 clear hu
 have HQ := Lib.hid hQ
 have HX := Lib.hid hx
 have HXA := Lib.hid hxa
 have HK := Lib.hid hok
 have HBX := Lib.hid hbx
 have HV := Lib.hid h
 obtain ⟨ca, cpos, cb, cc⟩ := c
 dsimp only at hcut hca hp hnx c0 c1 c2 c3 HX HQ
 subst hcut
 subst hif
 have q3 : (bits BinOp.and IntKind.u64 s 1 == 1) = false := by have := bit_and hs0 hs1 0; rw [hbit] at this; simpa using this
 obtain ⟨_, _, e9, hkx, hkm, _⟩ := OB.form HX.out
 injection e9 with e9a e9b e9c
 subst e9c
 rw [hnx] at hkx
 clear e9a e9b
 have qa : ((nx : Int) < torn) = False := eq_false (by omega)
 have qb : (0 < torn) = False := eq_false (by omega)
 have D0 := (Below.refl w.heap.size w).alloc (Nat.le_refl _) (.cells #[.int .i64 (ca : Int), .int .i64 (cpos : Int), .slice Ax 0 kx, .bool false] 105)
 have HD := Lib.hid D0
 clear hQ hx hxa hok hbx h D0
 unfold IsC at hfr
 generalize slotC fr = f at *
 subst hfr
 unfold CF
 rw [h0, h1, h2, h3, h22, h23, h24]
 conv => arg 2; whnf
 clear h0 h1 h2 h3 h22 h23 h24
 go_wp2_with fail
 exact HQ.out _ _ bv rfl rfl rfl rfl rfl rfl rfl rfl ((HV.out.below HD.out).mono fun _ _ ho => .inl ho) (Fr.of_below HD.out)

set_option maxHeartbeats 2000000 in
set_option maxRecDepth 100000 in
theorem crash_c5 {O : Nat → Prop} {g : Nat} {m : DM} {bv : Nat → Value} {wv : Value} {ws : List (DChg × Value)} (fr : Act) (b o n cw i first nx kx : Nat) (Ax : Option Addr) (s torn : Int) (c : DChg) (w : World) (Q : Exit → Act → World → Prop) (hfr : IsC fr)
  (h0 : slotC fr 0 = .pointer (some ⟨g, 0, none⟩)) (h1 : slotC fr 1 = .int .i64 (first : Int)) (h2 : slotC fr 2 = .int .u64 s) (h3 : slotC fr 3 = .int .i64 torn) (h22 : slotC fr 22 = .slice (some ⟨b, o, none⟩) n cw) (h23 : slotC fr 23 = .int .i64 (n : Int)) (h24 : slotC fr 24 = .int .i64 (i : Int))
  (hi : i < n) (hn : n ≤ 1000) (hf : first ≤ n) (hs0 : 0 ≤ s) (hs1 : s ≤ 18446744073709551615) (hif : i = first) (hbit : bitAt s 0 = false) (hcut : c.cuts = false) (ht : 0 < torn) (hz : nx = 0)
  (c0 : w.cell? ⟨b, o + i * 4, none⟩ = some (.int .i64 (c.area : Int))) (c1 : w.cell? ⟨b, o + i * 4 + 1, none⟩ = some (.int .i64 (c.pos : Int))) (c2 : w.cell? ⟨b, o + i * 4 + 2, none⟩ = some (.slice Ax nx kx)) (c3 : w.cell? ⟨b, o + i * 4 + 3, none⟩ = some (.bool c.cuts))
  (h : DiskV w O g m bv wv ws) (hbx : ¬ O w.heap.size) (hok : m.Ok) (hca : c.area < 3) (hp : c.pos + c.bytes.length ≤ 1048576) (hx : OB w 0 (.slice Ax nx kx) c.bytes) (hnx : c.bytes.length = nx) (hxa : ∀ i, i < 6 → ∀ q, (Value.slice Ax nx kx).ownBlock = some q → (bv i).ownBlock ≠ some q)
  (hQ : ∀ (fr' : Act) (w' : World) (bv' : Nat → Value), IsC fr' → slotC fr' 0 = .pointer (some ⟨g, 0, none⟩) → slotC fr' 1 = .int .i64 (first : Int) → slotC fr' 2 = .int .u64 s → slotC fr' 3 = .int .i64 torn → slotC fr' 22 = .slice (some ⟨b, o, none⟩) n cw → slotC fr' 23 = .int .i64 (n : Int) → slotC fr' 24 = .int .i64 ((i + 1 : Nat) : Int) →
   DiskV w' (ext O w w') g { m with b := m.b } bv' wv ws → Fr O w w' → Q .normal fr' w') :
  Code.wp Tryz.prog (lpC Tryz.f16.body 0) Q fr w := by
 have hu := And.intro hs0 (And.intro hs1 (And.intro hnx (And.intro hf (And.intro hca hp))))
 clear hu
 have HQ := Lib.hid hQ
 have HX := Lib.hid hx
 have HXA := Lib.hid hxa
 have HK := Lib.hid hok
 have HBX := Lib.hid hbx
 have HV := Lib.hid h
 obtain ⟨ca, cpos, cb, cc⟩ := c
 dsimp only at hcut hca hp hnx c0 c1 c2 c3 HX HQ
 subst hcut
 subst hif
 have q3 : (bits BinOp.and IntKind.u64 s 1 == 1) = false := by have := bit_and hs0 hs1 0; rw [hbit] at this; simpa using this
 obtain ⟨_, _, e9, hkx, hkm, _⟩ := OB.form HX.out
 injection e9 with e9a e9b e9c
 subst e9c
 rw [hnx] at hkx
 clear e9a e9b
 subst hz
 have qa : ((0 : Int) < torn) = True := eq_true (by omega)
 have D0 := (Below.refl w.heap.size w).alloc (Nat.le_refl _) (.cells #[.int .i64 (ca : Int), .int .i64 (cpos : Int), .slice Ax 0 kx, .bool false] 105)
 have HD := Lib.hid D0
 clear hQ hx hxa hok hbx h D0
 unfold IsC at hfr
 generalize slotC fr = f at *
 subst hfr
 unfold CF
 rw [h0, h1, h2, h3, h22, h23, h24]
 conv => arg 2; whnf
 clear h0 h1 h2 h3 h22 h23 h24
 go_wp2_with fail
 exact HQ.out _ _ bv rfl rfl rfl rfl rfl rfl rfl rfl ((HV.out.below HD.out).mono fun _ _ ho => .inl ho) (Fr.of_below HD.out)

set_option maxHeartbeats 2000000 in
set_option maxRecDepth 100000 in
theorem crash_b1 {O : Nat → Prop} {g : Nat} {m : DM} {bv : Nat → Value} {wv : Value} {ws : List (DChg × Value)} (fr : Act) (b o n cw i first nx kx : Nat) (Ax : Option Addr) (s torn : Int) (c : DChg) (w : World) (Q : Exit → Act → World → Prop) (hfr : IsC fr)
  (h0 : slotC fr 0 = .pointer (some ⟨g, 0, none⟩)) (h1 : slotC fr 1 = .int .i64 (first : Int)) (h2 : slotC fr 2 = .int .u64 s) (h3 : slotC fr 3 = .int .i64 torn) (h22 : slotC fr 22 = .slice (some ⟨b, o, none⟩) n cw) (h23 : slotC fr 23 = .int .i64 (n : Int)) (h24 : slotC fr 24 = .int .i64 (i : Int))
  (hi : i < n) (hn : n ≤ 1000) (hf : first ≤ n) (hs0 : 0 ≤ s) (hs1 : s ≤ 18446744073709551615) (tn : Nat) (htn : torn = (tn : Int)) (hif : i = first) (hbit : bitAt s 0 = false) (hcut : c.cuts = false) (ht : 0 < tn) (hz : tn ≤ nx)
  (c0 : w.cell? ⟨b, o + i * 4, none⟩ = some (.int .i64 (c.area : Int))) (c1 : w.cell? ⟨b, o + i * 4 + 1, none⟩ = some (.int .i64 (c.pos : Int))) (c2 : w.cell? ⟨b, o + i * 4 + 2, none⟩ = some (.slice Ax nx kx)) (c3 : w.cell? ⟨b, o + i * 4 + 3, none⟩ = some (.bool c.cuts))
  (h : DiskV w O g m bv wv ws) (hbx : ¬ O w.heap.size) (hok : m.Ok) (hca : c.area < 3) (hp : c.pos + c.bytes.length ≤ 1048576) (hx : OB w 0 (.slice Ax nx kx) c.bytes) (hnx : c.bytes.length = nx) (hxa : ∀ i, i < 6 → ∀ q, (Value.slice Ax nx kx).ownBlock = some q → (bv i).ownBlock ≠ some q)
  (hQ : ∀ (fr' : Act) (w' : World) (bv' : Nat → Value), IsC fr' → slotC fr' 0 = .pointer (some ⟨g, 0, none⟩) → slotC fr' 1 = .int .i64 (first : Int) → slotC fr' 2 = .int .u64 s → slotC fr' 3 = .int .i64 torn → slotC fr' 22 = .slice (some ⟨b, o, none⟩) n cw → slotC fr' 23 = .int .i64 (n : Int) → slotC fr' 24 = .int .i64 ((i + 1 : Nat) : Int) →
   DiskV w' (ext O w w') g { m with b := updB m.b c.area (doB (m.b c.area) { c with bytes := c.bytes.take tn }) } bv' wv ws → Fr O w w' → Q .normal fr' w') :
  Code.wp Tryz.prog (lpC Tryz.f16.body 0) Q fr w := by
 have hu := And.intro hs0 (And.intro hs1 (And.intro hnx (And.intro hf (And.intro hca hp))))
 clear hu
 have HQ := Lib.hid hQ
 have HX := Lib.hid hx
 have HXA := Lib.hid hxa
 have HK := Lib.hid hok
 have HBX := Lib.hid hbx
 have HV := Lib.hid h
 obtain ⟨ca, cpos, cb, cc⟩ := c
 dsimp only at hcut hca hp hnx c0 c1 c2 c3 HX HQ
 subst hcut
 subst hif
 have q3 : (bits BinOp.and IntKind.u64 s 1 == 1) = false := by have := bit_and hs0 hs1 0; rw [hbit] at this; simpa using this
 obtain ⟨_, _, e9, hkx, hkm, _⟩ := OB.form HX.out
 injection e9 with e9a e9b e9c
 subst e9c
 rw [hnx] at hkx
 clear e9a e9b
 subst htn
 have qa : ((nx : Int) < (tn : Int)) = False := eq_false (by omega)
 have qb : ((0 : Int) < (tn : Int)) = True := eq_true (by omega)
 have D0 := (Below.refl w.heap.size w).alloc (Nat.le_refl _) (.cells #[.int .i64 (ca : Int), .int .i64 (cpos : Int), .slice Ax tn kx, .bool false] 105)
 have HD := Lib.hid D0
 clear hQ hx hxa hok hbx h D0
 unfold IsC at hfr
 generalize slotC fr = f at *
 subst hfr
 unfold CF
 rw [h0, h1, h2, h3, h22, h23, h24]
 conv => arg 2; whnf
 clear h0 h1 h2 h3 h22 h23 h24
 go_wp2_with fail
 obtain ⟨wB, hwB⟩ : ∃ W, W = w.alloc (.cells #[.int .i64 (ca : Int), .int .i64 (cpos : Int), .slice Ax tn kx, .bool false] 105) := ⟨_, rfl⟩
 rw [← hwB]
 have VB : Hid (DiskV wB O g m bv wv ws) := Lib.hid (by rw [hwB]; exact HV.out.below HD.out)
 have XB : Hid (OB wB 0 (.slice Ax tn kx) (cb.take tn)) := Lib.hid (by rw [hwB]; exact OB.cutTo (OB.below HX.out HD.out) tn (by omega))
 have BB : Hid (Below w.heap.size w wB) := Lib.hid (by rw [hwB]; exact HD.out)
 have SB : Hid (w.heap.size < wB.heap.size) := Lib.hid (by rw [hwB]; simp)
 have t0 : wB.cell? ⟨w.heap.size, 0, none⟩ = some (.int .i64 (ca : Int)) := by rw [hwB]; exact cell_of_row _ _ 0 _ _ _ box_row
 have t1 : wB.cell? ⟨w.heap.size, 1, none⟩ = some (.int .i64 (cpos : Int)) := by rw [hwB]; exact cell_of_row _ _ 1 _ _ _ box_row
 have t2 : wB.cell? ⟨w.heap.size, 2, none⟩ = some (.slice Ax tn kx) := by rw [hwB]; exact cell_of_row _ _ 2 _ _ _ box_row
 have t3 : wB.cell? ⟨w.heap.size, 3, none⟩ = some (.bool false) := by rw [hwB]; exact cell_of_row _ _ 3 _ _ _ box_row
 have HT : Hid (∀ w5, Fr O wB w5 → ∀ j, w5.cell? ⟨w.heap.size, j, none⟩ = wB.cell? ⟨w.heap.size, j, none⟩) := Lib.hid fun w5 hf j => hf.cell (p := ⟨w.heap.size, j, none⟩) SB.out HBX.out
 clear hwB c0 c1 c2 c3
 go_region_held3 (fun w' => w'.cell? ⟨w.heap.size, 0, none⟩ = wB.cell? ⟨w.heap.size, 0, none⟩ ∧ w'.cell? ⟨w.heap.size, 1, none⟩ = wB.cell? ⟨w.heap.size, 1, none⟩ ∧ w'.cell? ⟨w.heap.size, 2, none⟩ = wB.cell? ⟨w.heap.size, 2, none⟩ ∧ w'.cell? ⟨w.heap.size, 3, none⟩ = wB.cell? ⟨w.heap.size, 3, none⟩) (go_keep)
  (first | (go_at_call 47; refine (do_any g 1 ca ⟨ca, cpos, cb.take tn, false⟩ (.slice Ax tn kx) _ HK.out O bv _ _ wB.drew (VB.out.below (below_d1 (Below.refl _ _))) (.inl rfl) rfl hca (by show cpos + (cb.take tn).length ≤ _; rw [List.length_take]; omega) (OwnS.drew XB.out) (fun q hq => HXA.out (1 - 1 + ca) (by omega) q (by rw [← hq] <;> (rcases Ax with _ | Ax <;> rfl)))).mono ?_; rintro e w5 ⟨rfl, bv5, hv5, hf5⟩; replace hf5 := Fr.undrew hf5; have k0 := HT.out w5 hf5 0; have k1 := HT.out w5 hf5 1; have k2 := HT.out w5 hf5 2; have k3 := HT.out w5 hf5 3; replace hv5 := Lib.hid hv5; replace hf5 := Lib.hid hf5))
 go_wp2
 have hv6 := hv5.out
 rw [show 1 - 1 + ca = ca by omega] at hv6
 exact HQ.out _ _ bv5 rfl rfl rfl rfl rfl rfl rfl rfl (hv6.mono fun q hq ho => ho.imp id fun ho => ⟨Nat.le_trans BB.out.size ho.1, hq⟩) ((Fr.of_below BB.out).trans hf5.out fun _ _ h => h)

set_option maxHeartbeats 2000000 in
set_option maxRecDepth 100000 in
theorem crash_b2 {O : Nat → Prop} {g : Nat} {m : DM} {bv : Nat → Value} {wv : Value} {ws : List (DChg × Value)} (fr : Act) (b o n cw i first nx kx : Nat) (Ax : Option Addr) (s torn : Int) (c : DChg) (w : World) (Q : Exit → Act → World → Prop) (hfr : IsC fr)
  (h0 : slotC fr 0 = .pointer (some ⟨g, 0, none⟩)) (h1 : slotC fr 1 = .int .i64 (first : Int)) (h2 : slotC fr 2 = .int .u64 s) (h3 : slotC fr 3 = .int .i64 torn) (h22 : slotC fr 22 = .slice (some ⟨b, o, none⟩) n cw) (h23 : slotC fr 23 = .int .i64 (n : Int)) (h24 : slotC fr 24 = .int .i64 (i : Int))
  (hi : i < n) (hn : n ≤ 1000) (hf : first ≤ n) (hs0 : 0 ≤ s) (hs1 : s ≤ 18446744073709551615) (tn : Nat) (htn : tn = nx) (hif : i = first) (hbit : bitAt s 0 = false) (hcut : c.cuts = false) (ht : (nx : Int) < torn) (hz : 0 < nx)
  (c0 : w.cell? ⟨b, o + i * 4, none⟩ = some (.int .i64 (c.area : Int))) (c1 : w.cell? ⟨b, o + i * 4 + 1, none⟩ = some (.int .i64 (c.pos : Int))) (c2 : w.cell? ⟨b, o + i * 4 + 2, none⟩ = some (.slice Ax nx kx)) (c3 : w.cell? ⟨b, o + i * 4 + 3, none⟩ = some (.bool c.cuts))
  (h : DiskV w O g m bv wv ws) (hbx : ¬ O w.heap.size) (hok : m.Ok) (hca : c.area < 3) (hp : c.pos + c.bytes.length ≤ 1048576) (hx : OB w 0 (.slice Ax nx kx) c.bytes) (hnx : c.bytes.length = nx) (hxa : ∀ i, i < 6 → ∀ q, (Value.slice Ax nx kx).ownBlock = some q → (bv i).ownBlock ≠ some q)
  (hQ : ∀ (fr' : Act) (w' : World) (bv' : Nat → Value), IsC fr' → slotC fr' 0 = .pointer (some ⟨g, 0, none⟩) → slotC fr' 1 = .int .i64 (first : Int) → slotC fr' 2 = .int .u64 s → slotC fr' 3 = .int .i64 torn → slotC fr' 22 = .slice (some ⟨b, o, none⟩) n cw → slotC fr' 23 = .int .i64 (n : Int) → slotC fr' 24 = .int .i64 ((i + 1 : Nat) : Int) →
   DiskV w' (ext O w w') g { m with b := updB m.b c.area (doB (m.b c.area) { c with bytes := c.bytes.take tn }) } bv' wv ws → Fr O w w' → Q .normal fr' w') :
  Code.wp Tryz.prog (lpC Tryz.f16.body 0) Q fr w := by
 have hu := And.intro hs0 (And.intro hs1 (And.intro hnx (And.intro hf (And.intro hca hp))))
 clear hu
 have HQ := Lib.hid hQ
 have HX := Lib.hid hx
 have HXA := Lib.hid hxa
 have HK := Lib.hid hok
 have HBX := Lib.hid hbx
 have HV := Lib.hid h
 obtain ⟨ca, cpos, cb, cc⟩ := c
 dsimp only at hcut hca hp hnx c0 c1 c2 c3 HX HQ
 subst hcut
 subst hif
 have q3 : (bits BinOp.and IntKind.u64 s 1 == 1) = false := by have := bit_and hs0 hs1 0; rw [hbit] at this; simpa using this
 obtain ⟨_, _, e9, hkx, hkm, _⟩ := OB.form HX.out
 injection e9 with e9a e9b e9c
 subst e9c
 rw [hnx] at hkx
 clear e9a e9b
 subst htn
 have qa : ((tn : Int) < torn) = True := eq_true ht
 have qb : ((0 : Int) < (tn : Int)) = True := eq_true (by omega)
 have D0 := (Below.refl w.heap.size w).alloc (Nat.le_refl _) (.cells #[.int .i64 (ca : Int), .int .i64 (cpos : Int), .slice Ax tn kx, .bool false] 105)
 have HD := Lib.hid D0
 clear hQ hx hxa hok hbx h D0
 unfold IsC at hfr
 generalize slotC fr = f at *
 subst hfr
 unfold CF
 rw [h0, h1, h2, h3, h22, h23, h24]
 conv => arg 2; whnf
 clear h0 h1 h2 h3 h22 h23 h24
 go_wp2_with fail
 obtain ⟨wB, hwB⟩ : ∃ W, W = w.alloc (.cells #[.int .i64 (ca : Int), .int .i64 (cpos : Int), .slice Ax tn kx, .bool false] 105) := ⟨_, rfl⟩
 rw [← hwB]
 have VB : Hid (DiskV wB O g m bv wv ws) := Lib.hid (by rw [hwB]; exact HV.out.below HD.out)
 have XB : Hid (OB wB 0 (.slice Ax tn kx) (cb.take tn)) := Lib.hid (by rw [hwB]; exact OB.cutTo (OB.below HX.out HD.out) tn (by omega))
 have BB : Hid (Below w.heap.size w wB) := Lib.hid (by rw [hwB]; exact HD.out)
 have SB : Hid (w.heap.size < wB.heap.size) := Lib.hid (by rw [hwB]; simp)
 have t0 : wB.cell? ⟨w.heap.size, 0, none⟩ = some (.int .i64 (ca : Int)) := by rw [hwB]; exact cell_of_row _ _ 0 _ _ _ box_row
 have t1 : wB.cell? ⟨w.heap.size, 1, none⟩ = some (.int .i64 (cpos : Int)) := by rw [hwB]; exact cell_of_row _ _ 1 _ _ _ box_row
 have t2 : wB.cell? ⟨w.heap.size, 2, none⟩ = some (.slice Ax tn kx) := by rw [hwB]; exact cell_of_row _ _ 2 _ _ _ box_row
 have t3 : wB.cell? ⟨w.heap.size, 3, none⟩ = some (.bool false) := by rw [hwB]; exact cell_of_row _ _ 3 _ _ _ box_row
 have HT : Hid (∀ w5, Fr O wB w5 → ∀ j, w5.cell? ⟨w.heap.size, j, none⟩ = wB.cell? ⟨w.heap.size, j, none⟩) := Lib.hid fun w5 hf j => hf.cell (p := ⟨w.heap.size, j, none⟩) SB.out HBX.out
 clear hwB c0 c1 c2 c3
 go_region_held3 (fun w' => w'.cell? ⟨w.heap.size, 0, none⟩ = wB.cell? ⟨w.heap.size, 0, none⟩ ∧ w'.cell? ⟨w.heap.size, 1, none⟩ = wB.cell? ⟨w.heap.size, 1, none⟩ ∧ w'.cell? ⟨w.heap.size, 2, none⟩ = wB.cell? ⟨w.heap.size, 2, none⟩ ∧ w'.cell? ⟨w.heap.size, 3, none⟩ = wB.cell? ⟨w.heap.size, 3, none⟩) (go_keep)
  (first | (go_at_call 47; refine (do_any g 1 ca ⟨ca, cpos, cb.take tn, false⟩ (.slice Ax tn kx) _ HK.out O bv _ _ wB.drew (VB.out.below (below_d1 (Below.refl _ _))) (.inl rfl) rfl hca (by show cpos + (cb.take tn).length ≤ _; rw [List.length_take]; omega) (OwnS.drew XB.out) (fun q hq => HXA.out (1 - 1 + ca) (by omega) q (by rw [← hq] <;> (rcases Ax with _ | Ax <;> rfl)))).mono ?_; rintro e w5 ⟨rfl, bv5, hv5, hf5⟩; replace hf5 := Fr.undrew hf5; have k0 := HT.out w5 hf5 0; have k1 := HT.out w5 hf5 1; have k2 := HT.out w5 hf5 2; have k3 := HT.out w5 hf5 3; replace hv5 := Lib.hid hv5; replace hf5 := Lib.hid hf5))
 go_wp2
 have hv6 := hv5.out
 rw [show 1 - 1 + ca = ca by omega] at hv6
 exact HQ.out _ _ bv5 rfl rfl rfl rfl rfl rfl rfl rfl (hv6.mono fun q hq ho => ho.imp id fun ho => ⟨Nat.le_trans BB.out.size ho.1, hq⟩) ((Fr.of_below BB.out).trans hf5.out fun _ _ h => h)

end Go.Proofs.YtfmagnpmjlppiaaGreatDoor

/- disk: Crash. -/
namespace Go.Proofs.YtfmagnpmjlppiaaGreatDoor
open Go.RowKit
section
variable {w w1 w' : World} {O O' : Nat → Prop} {g : Nat} {m m' : DM} {bv bv' : Nat → Value} {wv : Value} {ws : List (DChg × Value)} {ea : Nat → Addr}

set_option maxHeartbeats 2000000 in
set_option maxRecDepth 100000 in
theorem crash_exit (fr : Act) (n : Nat) (w : World) (Q : Exit → Act → World → Prop) (hfr : IsC fr) (h23 : slotC fr 23 = .int .i64 (n : Int)) (h24 : slotC fr 24 = .int .i64 (n : Int))
  (hQ : ∀ fr' : Act, IsC fr' → slotC fr' 0 = slotC fr 0 → Q (.exit 0) fr' w) : Code.wp Tryz.prog (lpC Tryz.f16.body 0) Q fr w := by
 have HQ := Lib.hid hQ
 clear hQ
 unfold IsC at hfr
 generalize slotC fr = f at *
 subst hfr
 unfold CF
 rw [h23, h24]
 conv => arg 2; whnf
 clear h23 h24
 go_wp2
 exact HQ.out _ rfl rfl

/-- A change of a row of them, in memory. -/
theorem DiskV.wait_cell (h : DiskV w O g m bv wv ws) {A : Option Addr} {n c : Nat} (he : wv = .slice A n c) {i : Nat} (hi : i < ws.length) : ∃ b o, A = some ⟨b, o, none⟩ ∧ ∃ x : DChg × Value, ws[i]? = some x ∧ x ∈ ws ∧ m.waits[i]? = some x.1 ∧ w.cell? ⟨b, o + i * 4, none⟩ = some (.int .i64 (x.1.area : Int)) ∧ w.cell? ⟨b, o + i * 4 + 1, none⟩ = some (.int .i64 (x.1.pos : Int)) ∧ w.cell? ⟨b, o + i * 4 + 2, none⟩ = some x.2 ∧ w.cell? ⟨b, o + i * 4 + 3, none⟩ = some (.bool x.1.cuts) := by
 subst he
 obtain ⟨b, o, cap, hv, _, _, hc⟩ := OwnS.cells h.wts (by rw [wcells_length]; omega)
 injection hv with hv _ _
 subst hv
 have hx := List.getElem?_eq_getElem hi
 obtain ⟨g0, g1, g2, g3⟩ := wcells_get ws i _ hx
 refine ⟨b, o, rfl, ws[i], hx, List.getElem_mem hi, by rw [← h.eq, List.getElem?_map, hx]; rfl, hc _ _ g0, ?_, ?_, ?_⟩
 ·rw [Nat.add_assoc]; exact hc _ _ g1
 ·rw [Nat.add_assoc]; exact hc _ _ g2
 ·rw [Nat.add_assoc]; exact hc _ _ g3

theorem crash1_full {first : Nat} {s torn : Int} {i : Nat} {c : DChg} {f : Nat → List UInt8} (h : i < first ∨ (i - first < 63 ∧ bitAt s (i - first) = true)) : crash1 first s torn i c f = updB f c.area (doB (f c.area) c) := if_pos h
theorem crash1_torn {first : Nat} {s torn : Int} {i : Nat} {c : DChg} {f : Nat → List UInt8} (h : ¬ (i < first ∨ (i - first < 63 ∧ bitAt s (i - first) = true))) (h2 : i = first ∧ c.cuts = false ∧ 0 < torn ∧ c.bytes ≠ []) : crash1 first s torn i c f = updB f c.area (doB (f c.area) { c with bytes := c.bytes.take torn.toNat }) := (if_neg h).trans (if_pos h2)
theorem crash1_none {first : Nat} {s torn : Int} {i : Nat} {c : DChg} {f : Nat → List UInt8} (h : ¬ (i < first ∨ (i - first < 63 ∧ bitAt s (i - first) = true))) (h2 : ¬ (i = first ∧ c.cuts = false ∧ 0 < torn ∧ c.bytes ≠ [])) : crash1 first s torn i c f = f := (if_neg h).trans (if_neg h2)

set_option maxRecDepth 100000 in
/-- One round of the loop. -/
theorem crash_round (fr : Act) (A : Option Addr) (n cw i first : Nat) (s torn : Int) (w : World) (Q : Exit → Act → World → Prop) (hfr : IsC fr)
  (h0 : slotC fr 0 = .pointer (some ⟨g, 0, none⟩)) (h1 : slotC fr 1 = .int .i64 (first : Int)) (h2 : slotC fr 2 = .int .u64 s) (h3 : slotC fr 3 = .int .i64 torn) (h22 : slotC fr 22 = .slice A n cw) (h23 : slotC fr 23 = .int .i64 (n : Int)) (h24 : slotC fr 24 = .int .i64 (i : Int))
  (hi : i < n) (hn : n ≤ 1000) (hf : first ≤ n) (hs0 : 0 ≤ s) (hs1 : s ≤ 18446744073709551615) (h : DiskV w O g m bv (.slice A n cw) ws) (hln : ws.length = n) (hbx : ¬ O w.heap.size) (hok : m.Ok)
  (hQ : ∀ (fr' : Act) (w' : World) (bv' : Nat → Value) (c : DChg), m.waits[i]? = some c → IsC fr' → slotC fr' 0 = .pointer (some ⟨g, 0, none⟩) → slotC fr' 1 = .int .i64 (first : Int) → slotC fr' 2 = .int .u64 s → slotC fr' 3 = .int .i64 torn → slotC fr' 22 = .slice A n cw → slotC fr' 23 = .int .i64 (n : Int) → slotC fr' 24 = .int .i64 ((i + 1 : Nat) : Int) →
   DiskV w' (ext O w w') g { m with b := crash1 first s torn i c m.b } bv' (.slice A n cw) ws → Fr O w w' → Q .normal fr' w') :
  Code.wp Tryz.prog (lpC Tryz.f16.body 0) Q fr w := by
 obtain ⟨b, o, rfl, ⟨c, xv⟩, hx, hxm, hmw, c0, c1, c2, c3⟩ := h.wait_cell rfl (i := i) (by omega)
 dsimp only at hmw c0 c1 c2 c3
 have hby : OB w 0 xv c.bytes := h.bytes _ hxm
 obtain ⟨Ax, kx, e0, _, _, _⟩ := hby.form
 subst e0
 have hwt := hok.wait c (List.mem_of_getElem? hmw)
 have hxa : ∀ i, i < 6 → ∀ q, (Value.slice Ax c.bytes.length kx).ownBlock = some q → (bv i).ownBlock ≠ some q := fun i hi q hq => h.apartW _ hxm i hi q hq
 by_cases hA : i < first ∨ (i - first < 63 ∧ bitAt s (i - first) = true)
 ·have hE := crash1_full (torn := torn) (c := c) (f := m.b) hA
  rcases hA with hA | ⟨hA, hB⟩
  ·exact crash_a1 fr b o n cw i first _ kx Ax s torn c w Q hfr h0 h1 h2 h3 h22 h23 h24 hi hn hf hs0 hs1 hA c0 c1 c2 c3 h hbx hok hwt.1 hwt.2 (h.bytes _ hxm) rfl hxa fun fr' w' bv' => by rw [← hE]; exact hQ fr' w' bv' c hmw
  ·by_cases hA' : i < first
   ·exact crash_a1 fr b o n cw i first _ kx Ax s torn c w Q hfr h0 h1 h2 h3 h22 h23 h24 hi hn hf hs0 hs1 hA' c0 c1 c2 c3 h hbx hok hwt.1 hwt.2 (h.bytes _ hxm) rfl hxa fun fr' w' bv' => by rw [← hE]; exact hQ fr' w' bv' c hmw
   ·exact crash_a2 fr b o n cw i first _ kx Ax s torn c w Q hfr h0 h1 h2 h3 h22 h23 h24 hi hn hf hs0 hs1 (by omega) hA hB c0 c1 c2 c3 h hbx hok hwt.1 hwt.2 (h.bytes _ hxm) rfl hxa fun fr' w' bv' => by rw [← hE]; exact hQ fr' w' bv' c hmw
 ·by_cases hi1 : i = first
  ·have hbit : bitAt s 0 = false := by
    cases hb : bitAt s 0 with
    | false => rfl
    | true => exact absurd (.inr ⟨by omega, by rw [show i - first = 0 by omega]; exact hb⟩) hA
   cases hcut : c.cuts with
   | true =>
    have hE := crash1_none (torn := torn) (c := c) (f := m.b) hA (fun h => by rw [hcut] at h; cases h.2.1)
    exact crash_c3 fr b o n cw i first _ kx Ax s torn c w Q hfr h0 h1 h2 h3 h22 h23 h24 hi hn hf hs0 hs1 hi1 hbit hcut c0 c1 c2 c3 h hbx hok hwt.1 hwt.2 (h.bytes _ hxm) rfl hxa fun fr' w' bv' => by have := hQ fr' w' bv' c hmw; rw [hE] at this; exact this
   | false =>
    by_cases ht : torn ≤ 0
    ·have hE := crash1_none (torn := torn) (c := c) (f := m.b) hA (fun h => by have := h.2.2.1; omega)
     exact crash_c4 fr b o n cw i first _ kx Ax s torn c w Q hfr h0 h1 h2 h3 h22 h23 h24 hi hn hf hs0 hs1 hi1 hbit hcut ht c0 c1 c2 c3 h hbx hok hwt.1 hwt.2 (h.bytes _ hxm) rfl hxa fun fr' w' bv' => by have := hQ fr' w' bv' c hmw; rw [hE] at this; exact this
    ·by_cases hz : c.bytes.length = 0
     ·have hE := crash1_none (torn := torn) (c := c) (f := m.b) hA (fun h => h.2.2.2 (List.eq_nil_of_length_eq_zero hz))
      exact crash_c5 fr b o n cw i first _ kx Ax s torn c w Q hfr h0 h1 h2 h3 h22 h23 h24 hi hn hf hs0 hs1 hi1 hbit hcut (by omega) hz c0 c1 c2 c3 h hbx hok hwt.1 hwt.2 (h.bytes _ hxm) rfl hxa fun fr' w' bv' => by have := hQ fr' w' bv' c hmw; rw [hE] at this; exact this
     ·have hE := crash1_torn (torn := torn) (c := c) (f := m.b) hA ⟨hi1, hcut, by omega, fun e => hz (by rw [e]; rfl)⟩
      by_cases htl : torn.toNat ≤ c.bytes.length
      ·exact crash_b1 fr b o n cw i first _ kx Ax s torn c w Q hfr h0 h1 h2 h3 h22 h23 h24 hi hn hf hs0 hs1 torn.toNat (by omega) hi1 hbit hcut (by omega) htl c0 c1 c2 c3 h hbx hok hwt.1 hwt.2 (h.bytes _ hxm) rfl hxa fun fr' w' bv' => by have := hQ fr' w' bv' c hmw; rw [hE] at this; exact this
      ·rw [List.take_of_length_le (by omega)] at hE
       exact crash_b2 fr b o n cw i first _ kx Ax s torn c w Q hfr h0 h1 h2 h3 h22 h23 h24 hi hn hf hs0 hs1 c.bytes.length rfl hi1 hbit hcut (by omega) (by omega) c0 c1 c2 c3 h hbx hok hwt.1 hwt.2 (h.bytes _ hxm) rfl hxa fun fr' w' bv' => by have := hQ fr' w' bv' c hmw; rw [hE] at this; rw [List.take_of_length_le (Nat.le_refl _)]; exact this
  ·have hi2 : first < i := by omega
   have hE := crash1_none (torn := torn) (c := c) (f := m.b) hA (fun h => hi1 h.1)
   by_cases h63 : i - first < 63
   ·exact crash_c1 fr b o n cw i first _ kx Ax s torn c w Q hfr h0 h1 h2 h3 h22 h23 h24 hi hn hf hs0 hs1 hi2 h63 (by cases hb : bitAt s (i - first) with | false => rfl | true => exact absurd (.inr ⟨h63, hb⟩) hA) c0 c1 c2 c3 h hbx hok hwt.1 hwt.2 (h.bytes _ hxm) rfl hxa fun fr' w' bv' => by have := hQ fr' w' bv' c hmw; rw [hE] at this; exact this
   ·exact crash_c2 fr b o n cw i first _ kx Ax s torn c w Q hfr h0 h1 h2 h3 h22 h23 h24 hi hn hf hs0 hs1 (by omega) c0 c1 c2 c3 h hbx hok hwt.1 hwt.2 (h.bytes _ hxm) rfl hxa fun fr' w' bv' => by have := hQ fr' w' bv' c hmw; rw [hE] at this; exact this

/-- Behind k changes. -/
def DM.mid (m : DM) (first : Nat) (s torn : Int) (k : Nat) : DM := { m with b := crashTo first s torn m.waits m.b k }
theorem DM.Ok.mid {m : DM} (h : m.Ok) (first : Nat) (s torn : Int) (k : Nat) : (m.mid first s torn k).Ok := ⟨h.room0, h.room1, fun j hj => crashTo_len h.wait h.len k j hj, h.wait, h.left0, h.left1⟩

set_option maxRecDepth 100000 in
theorem crash_loop (fr : Act) (A : Option Addr) (n cw first : Nat) (s torn : Int) (w : World) (Q : Exit → Act → World → Prop) (hfr : IsC fr)
  (h0 : slotC fr 0 = .pointer (some ⟨g, 0, none⟩)) (h1 : slotC fr 1 = .int .i64 (first : Int)) (h2 : slotC fr 2 = .int .u64 s) (h3 : slotC fr 3 = .int .i64 torn) (h22 : slotC fr 22 = .slice A n cw) (h23 : slotC fr 23 = .int .i64 (n : Int)) (h24 : slotC fr 24 = .int .i64 0)
  (hn : n ≤ 1000) (hf : first ≤ n) (hs0 : 0 ≤ s) (hs1 : s ≤ 18446744073709551615) (h : DiskV w O g m bv (.slice A n cw) ws) (hln : ws.length = n) (hok : m.Ok)
  (hQ : ∀ (fr' : Act) (w' : World) (bv' : Nat → Value), IsC fr' → slotC fr' 0 = .pointer (some ⟨g, 0, none⟩) → DiskV w' (ext O w w') g (m.mid first s torn n) bv' (.slice A n cw) ws → Fr O w w' → Q (.exit 0) fr' w') :
  Code.wp Tryz.prog (.loop (lpC Tryz.f16.body 0)) Q fr w := by
 obtain ⟨O0, hO0⟩ : ∃ O0 : Nat → Prop, O0 = fun q => O q ∧ q < w.heap.size := ⟨_, rfl⟩
 refine wp_loop_ghost (fun N a w' => ∃ (i : Nat) (bv' : Nat → Value), i + N = n ∧ IsC a ∧ slotC a 0 = .pointer (some ⟨g, 0, none⟩) ∧ slotC a 1 = .int .i64 (first : Int) ∧ slotC a 2 = .int .u64 s ∧ slotC a 3 = .int .i64 torn ∧ slotC a 22 = .slice A n cw ∧ slotC a 23 = .int .i64 (n : Int) ∧ slotC a 24 = .int .i64 (i : Int) ∧
  DiskV w' (ext O0 w w') g (m.mid first s torn i) bv' (.slice A n cw) ws ∧ Fr O0 w w') n ⟨0, bv, by omega, hfr, h0, h1, h2, h3, h22, h23, h24, h.mono fun q hq ho => .inl (by rw [hO0]; exact ⟨ho, hq⟩), Fr.refl _ _⟩ ?_
 rintro N a w1 ⟨i, bv1, hiN, a0, b0, b1, b2, b3, b22, b23, b24, hv, hfr1⟩
 by_cases hi : i < n
 ·refine crash_round a A n cw i first s torn w1 _ a0 b0 b1 b2 b3 b22 b23 b24 hi hn hf hs0 hs1 hv hln ?_ (hok.mid _ _ _ _) ?_
  ·rintro (ho | ho)
   ·rw [hO0] at ho
    have := ho.2
    have := hfr1.size
    omega
   ·exact absurd ho.2 (Nat.lt_irrefl _)
  ·intro fr' w2 bv2 c hc d0 e0 e1 e2 e3 e22 e23 e24 hv2 hf2
   have z1 := hfr1.size
   have z2 := hf2.size
   refine ⟨N - 1, by omega, i + 1, bv2, by omega, d0, e0, e1, e2, e3, e22, e23, e24, ?_, hfr1.trans hf2 fun q hq ho => ?_⟩
   ·have hE : m.mid first s torn (i + 1) = { m.mid first s torn i with b := crash1 first s torn i c (m.mid first s torn i).b } := by
     unfold DM.mid
     have hc : m.waits[i]? = some c := hc
     simp only [crashTo, hc]
    rw [hE]
    refine hv2.mono fun q hq ho => ?_
    rcases ho with (ho | ho) | ho
    ·exact .inl ho
    ·exact .inr ⟨ho.1, hq⟩
    ·exact .inr ⟨Nat.le_trans z1 ho.1, hq⟩
   ·rcases ho with ho | ho
    ·exact ho
    ·omega
 ·obtain rfl : i = n := by omega
  refine crash_exit a i w1 _ a0 b23 b24 fun fr' d0 e0 => hQ fr' w1 bv1 d0 (e0.trans b0) (hv.mono fun q _ ho => ho.imp (fun ho => by rw [hO0] at ho; exact ho.1) id) (hfr1.mono fun q _ ho => by rw [hO0] at ho; exact ho.1)
end
end Go.Proofs.YtfmagnpmjlppiaaGreatDoor

/- disk: Crash, whole. -/
namespace Go.Proofs.YtfmagnpmjlppiaaGreatDoor
open Go.RowKit
section
variable {w w1 w' : World} {O O' : Nat → Prop} {g : Nat} {m m' : DM} {bv bv' : Nat → Value} {wv : Value} {ws : List (DChg × Value)} {ea : Nat → Addr}

theorem DM.crash_eq (m : DM) (kept s torn : Int) (n first : Nat) (hn : m.waits.length = n) (hf : firstOf kept n = first) : m.crash kept s torn = { room := m.room, b := fun i => if i < 3 then (m.mid first s torn n).b i else (m.mid first s torn n).b (i - 3), waits := [], armed := false, left := 0, gone := false } := by
 subst hn
 subst hf
 rfl

theorem crash_cells (M : DM) (bv : Nat → Value) (wv v0 v1 v2 : Value) (f : Nat → List UInt8) : (((((((dcells M bv wv).setIfInBounds 4 v0).setIfInBounds 5 v1).setIfInBounds 6 v2).setIfInBounds 7 (.slice none 0 0)).setIfInBounds 8 (.bool false)).setIfInBounds 9 (.int .i64 0)).setIfInBounds 10 (.bool false) = dcells { room := M.room, b := f, waits := [], armed := false, left := 0, gone := false } (Go.Proofs.YtfmagnpmjlppiaaGreatDoor.putV 3 bv v0 v1 v2) (.slice none 0 0) := by
 simp [dcells, Go.Proofs.YtfmagnpmjlppiaaGreatDoor.putV]

/-- All that is sure is seen, nothing waits. -/
theorem crash_fin {W w2 : World} {M : DM} {v0 v1 v2 : Value} (h : DiskV w1 O g M bv wv ws) (hb : Below w1.heap.size w1 w2) (hrow : w2.heap[g]? = some (.cells (dcells M bv wv) 78 (0, 0)))
  (o0 : OB w2 w1.heap.size v0 (M.b 0)) (o1 : OB w2 w1.heap.size v1 (M.b 1)) (o2 : OB w2 w1.heap.size v2 (M.b 2)) (a0 : ∀ q, v0.ownBlock = some q → v1.ownBlock ≠ some q ∧ v2.ownBlock ≠ some q) (a1 : ∀ q, v1.ownBlock = some q → v2.ownBlock ≠ some q) (hW : W = ((((((w2.setCell ⟨g, 4, none⟩ v0).setCell ⟨g, 5, none⟩ v1).setCell ⟨g, 6, none⟩ v2).setCell ⟨g, 7, none⟩ (.slice none 0 0)).setCell ⟨g, 8, none⟩ (.bool false)).setCell ⟨g, 9, none⟩ (.int .i64 0)).setCell ⟨g, 10, none⟩ (.bool false)) :
  DiskV W (ext O w1 W) g { room := M.room, b := fun i => if i < 3 then M.b i else M.b (i - 3), waits := [], armed := false, left := 0, gone := false } (Go.Proofs.YtfmagnpmjlppiaaGreatDoor.putV 3 bv v0 v1 v2) (.slice none 0 0) [] ∧ Fr (fun k => k = g) w2 W := by
 subst hW
 have HFr := ((((((Fr.refl (fun k => k = g) w2).setCell (p := ⟨g, 4, none⟩) (fun _ => rfl) v0).setCell (p := ⟨g, 5, none⟩) (fun _ => rfl) v1).setCell (p := ⟨g, 6, none⟩) (fun _ => rfl) v2).setCell (p := ⟨g, 7, none⟩) (fun _ => rfl) (.slice none 0 0)).setCell (p := ⟨g, 8, none⟩) (fun _ => rfl) (.bool false)).setCell (p := ⟨g, 9, none⟩) (fun _ => rfl) (.int .i64 0)
 have HFr := HFr.setCell (p := ⟨g, 10, none⟩) (fun _ => rfl) (.bool false)
 have hc := heap_setCell_same _ g 10 _ _ (.bool false) (heap_setCell_same _ g 9 _ _ (.int .i64 0) (heap_setCell_same _ g 8 _ _ (.bool false) (heap_setCell_same _ g 7 _ _ (.slice none 0 0) (heap_setCell_same _ g 6 _ _ v2 (heap_setCell_same _ g 5 _ _ v1 (heap_setCell_same _ g 4 _ _ v0 hrow))))))
 rw [crash_cells M bv wv v0 v1 v2 (fun i => if i < 3 then M.b i else M.b (i - 3))] at hc
 exact ⟨h.putV (m' := { room := M.room, b := fun i => if i < 3 then M.b i else M.b (i - 3), waits := [], armed := false, left := 0, gone := false }) (off := 3) hb HFr hc o0 o1 o2 a0 a1
   (fun i h6 hi => by show (if i < 3 then M.b i else M.b (i - 3)) = M.b i; rw [if_pos (by omega)]) rfl, HFr⟩

set_option maxHeartbeats 2000000 in
set_option maxRecDepth 100000 in
theorem Crash_any (hV : DiskAt w O g m) (hok : m.Ok) (hw : m.waits.length ≤ 1000) (kept s torn : Int) (hs0 : 0 ≤ s) (hs1 : s ≤ 18446744073709551615) :
  Calls Tryz.prog 16 #[.pointer (some ⟨g, 0, none⟩), .int .i64 kept, .int .u64 s, .int .i64 torn] w fun e w' => e = .returned (.tuple #[]) ∧ DiskAt w' (ext O w w') g (m.crash kept s torn) ∧ Fr O w w' := by
 obtain ⟨bv, wv, ws, h⟩ := hV
 obtain ⟨A7, cw, e7, _, _⟩ := OwnS.form h.wts
 subst e7
 obtain ⟨n, hn⟩ : ∃ n, n = ws.length := ⟨_, rfl⟩
 have hnw : m.waits.length = n := by rw [← h.eq, List.length_map, hn]
 rw [← hn] at h
 have hn1 : n ≤ 1000 := by omega
 have c7 : w.cell? ⟨g, 7, none⟩ = some (.slice A7 n cw) := h.cell 7
 have H := Lib.hid h
 have HOK := Lib.hid hok
 have HN := Lib.hid hn
 have HNW := Lib.hid hnw
 clear h hok hw hn hnw
 have key : (((n : Int) < kept) = False ∧ ((0 : Int) < kept) = False ∧ Hid (firstOf kept n = 0)) ∨ (∃ k : Nat, kept = k ∧ (n < k) = False ∧ (0 < k) = True ∧ Hid (k ≤ n) ∧ Hid (firstOf kept n = k)) ∨ (((n : Int) < kept) = True ∧ (0 < n) = True ∧ Hid (firstOf kept n = n)) ∨ (((0 : Int) < kept) = True ∧ n = 0 ∧ Hid (firstOf kept n = 0)) := by
  by_cases k0 : kept ≤ 0
  ·exact .inl ⟨eq_false (by omega), eq_false (by omega), Lib.hid (by unfold firstOf; omega)⟩
  ·by_cases k1 : kept ≤ n
   ·exact .inr (.inl ⟨kept.toNat, by omega, eq_false (by omega), eq_true (by omega), Lib.hid (by omega), Lib.hid (by unfold firstOf; omega)⟩)
   ·by_cases k2 : n = 0
    ·exact .inr (.inr (.inr ⟨eq_true (by omega), k2, Lib.hid (by unfold firstOf; omega)⟩))
    ·exact .inr (.inr (.inl ⟨eq_true (by omega), eq_true (by omega), Lib.hid (by unfold firstOf; omega)⟩))
 have HFL : Hid (firstOf kept n ≤ n) := Lib.hid (by unfold firstOf; omega)
 have HCE := Lib.hid (m.crash_eq kept s torn n _ HNW.out rfl)
 rcases key with ⟨qa, qb, HF⟩ | ⟨k, rfl, qa, qb, HK, HF⟩ | ⟨qa, qb, HF⟩ | ⟨qa, rfl, HF⟩
 all_goals
  go_enter Tryz.func16, Tryz.ntmps16
  go_wp2
  refine crash_loop _ A7 _ cw (firstOf _ _) s torn w _ rfl rfl (by rw [HF.out]; rfl) rfl rfl rfl rfl rfl hn1 HFL.out hs0 hs1 H.out HN.out.symm HOK.out ?_
  intro fr1 w1 bv1 d0 e0 hv1 hf1
  clear qa
  have hh : ∃ M : DM, DiskV w1 (ext O w w1) g M bv1 _ ws ∧ M.Ok ∧ m.crash _ s torn = { room := M.room, b := fun i => if i < 3 then M.b i else M.b (i - 3), waits := [], armed := false, left := 0, gone := false } := ⟨_, hv1, HOK.out.mid _ _ _ _, HCE.out⟩
  obtain ⟨M, hv2, hMok, hMe⟩ := hh
  clear hv1 HCE
  have HME := Lib.hid hMe
  have l0 := hMok.len 0 (by omega)
  have l1 := hMok.len 1 (by omega)
  have l2 := hMok.len 2 (by omega)
  obtain ⟨A0, k0, z0, _, _⟩ := hv2.lenB (i := 0) (by omega)
  obtain ⟨A1, k1, z1, _, _⟩ := hv2.lenB (i := 1) (by omega)
  obtain ⟨A2, k2, z2, _, _⟩ := hv2.lenB (i := 2) (by omega)
  have c1 : w1.cell? ⟨g, 1, none⟩ = some (.slice A0 (M.b 0).length k0) := (hv2.cell 1).trans (congrArg some z0)
  have c2 : w1.cell? ⟨g, 2, none⟩ = some (.slice A1 (M.b 1).length k1) := (hv2.cell 2).trans (congrArg some z1)
  have c3 : w1.cell? ⟨g, 3, none⟩ = some (.slice A2 (M.b 2).length k2) := (hv2.cell 3).trans (congrArg some z2)
  have hr0 : RB w1 A0 (M.b 0).length (M.b 0) := by have := hv2.areas 0 (by omega); rw [z0] at this; exact RB.of_ownS this
  have hr1 : RB w1 A1 (M.b 1).length (M.b 1) := by have := hv2.areas 1 (by omega); rw [z1] at this; exact RB.of_ownS this
  have hr2 : RB w1 A2 (M.b 2).length (M.b 2) := by have := hv2.areas 2 (by omega); rw [z2] at this; exact RB.of_ownS this
  have HC := Lib.hid (copied_any A0 A1 A2 k0 k1 k2 _ _ _ w1 hr0 hr1 hr2 l0 l1 l2)
  have HV2 := Lib.hid hv2
  have HF1 := Lib.hid hf1
  have HOG := Lib.hid H.out.ownG
  have HGL := Lib.hid H.out.lt
  clear hr0 hr1 hr2 hMe hMok z0 z1 z2 hv2 hf1
  unfold IsC at d0
  generalize slotC fr1 = f at *
  subst d0
  unfold CF
  rw [e0]
  clear e0
  go_wp2_with (go_at_call 48; refine HC.out.mono ?_; rintro e w2 ⟨B0, B1, B2, d0, d1, d2, rfl, o0, o1, o2, a0, a1, hb2⟩; have hrow := row_below HV2.out.cells hb2; have m4 : w2.cell? ⟨g, 4, none⟩ = some (bv1 3) := cell_of_row _ _ 4 _ _ _ hrow; have m5 : w2.cell? ⟨g, 5, none⟩ = some (bv1 4) := cell_of_row _ _ 5 _ _ _ hrow; have m6 : w2.cell? ⟨g, 6, none⟩ = some (bv1 5) := cell_of_row _ _ 6 _ _ _ hrow; have m7 : w2.cell? ⟨g, 7, none⟩ = some _ := cell_of_row _ _ 7 _ _ _ hrow; have m8 : w2.cell? ⟨g, 8, none⟩ = some (.bool M.armed) := cell_of_row _ _ 8 _ _ _ hrow; have m9 : w2.cell? ⟨g, 9, none⟩ = some (.int .i64 M.left) := cell_of_row _ _ 9 _ _ _ hrow; have m10 : w2.cell? ⟨g, 10, none⟩ = some (.bool M.gone) := cell_of_row _ _ 10 _ _ _ hrow; have f4 : ∀ j, w2.frozen? ⟨g, j, none⟩ = false := fun j => frozen_of_row _ _ _ _ _ hrow; replace hrow := Lib.hid hrow; replace o0 := Lib.hid o0; replace o1 := Lib.hid o1; replace o2 := Lib.hid o2; replace a0 := Lib.hid a0; replace a1 := Lib.hid a1; replace hb2 := Lib.hid hb2)
  refine bodyPost_end (results_none rfl _ _ _) rfl ?_
  obtain ⟨hV, HFr⟩ := crash_fin HV2.out hb2.out hrow.out o0.out o1.out o2.out a0.out a1.out rfl
  have z1 := HF1.out.size
  have z2 := hb2.out.size
  have z3 := HFr.size
  rw [HME.out]
  refine ⟨rfl, ⟨_, _, _, hV.mono fun q hq ho => ?_⟩, ?_⟩
  ·rcases ho with (ho | ho) | ho
   ·exact .inl ho
   ·exact .inr ⟨ho.1, hq⟩
   ·exact .inr ⟨Nat.le_trans z1 ho.1, hq⟩
  ·exact (HF1.out.trans (Fr.of_below (S := O) hb2.out) fun _ _ h => h).trans HFr fun q _ e => by subst e; exact HOG.out
end
end Go.Proofs.YtfmagnpmjlppiaaGreatDoor

/- The disk's calls, as a law meets them. -/
namespace Go.Proofs.YtfmagnpmjlppiaaGreatDoor
open Go.RowKit

/-- A disk that a call made. -/
def DS (w0 w : World) (g : Nat) (m : DM) : Prop := ∃ O, DiskAt w O g m ∧ (∀ k, O k → w0.heap.size ≤ k) ∧ Below w0.heap.size w0 w
section
variable {w0 w w' : World} {g : Nat} {m m' : DM} {ea : Nat → Addr}
theorem New_S (room : Int) (hb : Below w0.heap.size w0 w) (h0 : 0 ≤ room) (h1 : room ≤ 1048576) : Calls Tryz.prog 8 #[.int .i64 room] w fun e w' => e = .returned (.tuple #[.pointer (some ⟨w.heap.size, 0, none⟩), .nilIface]) ∧ DS w0 w' w.heap.size ⟨room, fun _ => [], [], false, 0, false⟩ := by
 refine (DNew_any room w h0 h1).mono ?_
 rintro e w' ⟨rfl, hd, hb'⟩
 exact ⟨rfl, _, hd, fun k hk => by rw [hk]; exact hb.size, hb.trans (hb'.mono hb.size)⟩
end

theorem dErr_zero (ea : Nat → Addr) : dErr ea 0 = .nilIface := rfl
end Go.Proofs.YtfmagnpmjlppiaaGreatDoor

/- disk: Arm, Down, Waits; on a disk alone and beside a log. -/
namespace Go.Proofs.YtfmagnpmjlppiaaGreatDoor
open Go.RowKit

def DM.arm (m : DM) (n : Int) : DM := { m with armed := true, left := n }
theorem DM.Ok.arm {m : DM} (h : m.Ok) {n : Int} (h0 : 0 ≤ n) (h1 : n ≤ 9223372036854775807) : (m.arm n).Ok := ⟨h.room0, h.room1, h.len, h.wait, h0, h1⟩

section
variable {w w0 : World} {O : Nat → Prop} {g : Nat} {m : DM} {bv : Nat → Value} {wv : Value} {ws : List (DChg × Value)} {ea : Nat → Addr}

theorem Arm_at (units : Int) (h : DiskV w O g m bv wv ws) (h0 : 0 ≤ units) : Calls Tryz.prog 10 #[.pointer (some ⟨g, 0, none⟩), .int .i64 units] w fun e w' => e = .returned .nilIface ∧ DiskV w' O g (m.arm units) bv wv ws ∧ Fr (fun k => k = g) w w' := by
 have H := Lib.hid h
 have f8 := h.free 8
 have f9 := h.free 9
 have c8 : w.cell? ⟨g, 8, none⟩ = some (.bool m.armed) := h.cell 8
 have c9 : w.cell? ⟨g, 9, none⟩ = some (.int .i64 m.left) := h.cell 9
 have q : decide (units < 0) = false := decide_eq_false (by omega)
 have HF : Hid (Fr (fun k => k = g) w ((w.setCell ⟨g, 8, none⟩ (.bool true)).setCell ⟨g, 9, none⟩ (.int .i64 units))) := Lib.hid (((Fr.refl (fun k => k = g) w).setCell (p := ⟨g, 8, none⟩) (fun _ => rfl) _).setCell (p := ⟨g, 9, none⟩) (fun _ => rfl) _)
 have HV : Hid (DiskV ((w.setCell ⟨g, 8, none⟩ (.bool true)).setCell ⟨g, 9, none⟩ (.int .i64 units)) O g (m.arm units) bv wv ws) := Lib.hid (h.turn HF.out (heap_setCell_same _ _ _ _ _ _ (heap_setCell_same _ _ _ _ _ _ h.cells)) rfl rfl)
 clear h
 go_enter Tryz.func10, Tryz.ntmps10
 go_wp2
 go_ret
 exact ⟨rfl, HV.out, HF.out⟩

end
end Go.Proofs.YtfmagnpmjlppiaaGreatDoor
