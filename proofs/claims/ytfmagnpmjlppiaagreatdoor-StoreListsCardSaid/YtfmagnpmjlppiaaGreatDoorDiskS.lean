/- The reference's Sum: its frame and its loops, taken out of its body. -/
import Derived.Test.YtfmagnpmjlppiaaGreatDoorTabs
import Derived.Deep.LoopGhost
import Derived.Test.YtfmagnpmjlppiaaGreatDoorDiskOps
import Derived.Deep.RegionHeld3
import Derived.WalkSmall
import Derived.Lib.SlBytesConst
namespace Go.Proofs.YtfmagnpmjlppiaaGreatDoor
open Go.RowKit

/-- All loops' bodies, the outer ones first. -/
def loopsOf : Code → List Code
 | .loop c => c :: loopsOf c
 | .seq a b => loopsOf a ++ loopsOf b
 | .block _ c => loopsOf c
 | .scope c => loopsOf c
 | .cond _ a b => loopsOf a ++ loopsOf b
 | _ => []
set_option maxRecDepth 100000 in
/-- The frame: what the loops need stands in it, all else is f. -/
def FR (f : Nat → Value) (s2 s3 s6 s7 s8 s9 s17 : Value) : Act := ⟨List.toArray (f 0 :: f 1 :: s2 :: s3 :: f 4 :: f 5 :: s6 :: s7 :: s8 :: s9 :: f 10 :: f 11 :: f 12 :: f 13 :: f 14 :: f 15 :: f 16 :: s17 :: f 18 :: f 19 :: f 20 :: f 21 :: f 22 :: f 23 :: f 24 :: f 25 :: f 26 :: f 27 :: f 28 :: f 29 :: f 30 :: f 31 :: f 32 :: f 33 :: f 34 :: f 35 :: f 36 :: f 37 :: f 38 :: f 39 :: f 40 :: f 41 :: f 42 :: f 43 :: f 44 :: f 45 :: f 46 :: f 47 :: f 48 :: f 49 :: f 50 :: f 51 :: f 52 :: f 53 :: f 54 :: f 55 :: f 56 :: f 57 :: f 58 :: f 59 :: f 60 :: f 61 :: f 62 :: f 63 :: f 64 :: f 65 :: f 66 :: f 67 :: f 68 :: f 69 :: f 70 :: f 71 :: f 72 :: f 73 :: f 74 :: f 75 :: f 76 :: f 77 :: f 78 :: f 79 :: f 80 :: f 81 :: f 82 :: f 83 :: f 84 :: f 85 :: f 86 :: f 87 :: f 88 :: f 89 :: f 90 :: f 91 :: f 92 :: f 93 :: f 94 :: f 95 :: f 96 :: f 97 :: f 98 :: f 99 :: f 100 :: f 101 :: f 102 :: f 103 :: f 104 :: f 105 :: f 106 :: f 107 :: f 108 :: f 109 :: f 110 :: f 111 :: f 112 :: f 113 :: f 114 :: f 115 :: f 116 :: f 117 :: f 118 :: f 119 :: f 120 :: f 121 :: f 122 :: f 123 :: f 124 :: f 125 :: f 126 :: f 127 :: f 128 :: f 129 :: f 130 :: f 131 :: f 132 :: f 133 :: f 134 :: f 135 :: f 136 :: f 137 :: f 138 :: f 139 :: f 140 :: f 141 :: f 142 :: f 143 :: f 144 :: f 145 :: f 146 :: f 147 :: f 148 :: f 149 :: f 150 :: f 151 :: f 152 :: f 153 :: f 154 :: f 155 :: f 156 :: f 157 :: f 158 :: f 159 :: f 160 :: f 161 :: f 162 :: f 163 :: f 164 :: f 165 :: f 166 :: f 167 :: f 168 :: f 169 :: f 170 :: f 171 :: f 172 :: f 173 :: f 174 :: f 175 :: f 176 :: f 177 :: f 178 :: f 179 :: f 180 :: f 181 :: f 182 :: f 183 :: f 184 :: f 185 :: f 186 :: f 187 :: f 188 :: f 189 :: f 190 :: f 191 :: f 192 :: f 193 :: f 194 :: f 195 :: f 196 :: f 197 :: f 198 :: f 199 :: f 200 :: f 201 :: f 202 :: f 203 :: f 204 :: f 205 :: f 206 :: f 207 :: f 208 :: f 209 :: f 210 :: f 211 :: f 212 :: f 213 :: f 214 :: f 215 :: f 216 :: f 217 :: f 218 :: f 219 :: f 220 :: f 221 :: f 222 :: f 223 :: f 224 :: f 225 :: f 226 :: f 227 :: f 228 :: f 229 :: f 230 :: f 231 :: f 232 :: f 233 :: f 234 :: f 235 :: f 236 :: f 237 :: f 238 :: f 239 :: f 240 :: f 241 :: f 242 :: f 243 :: f 244 :: f 245 :: f 246 :: f 247 :: f 248 :: f 249 :: f 250 :: f 251 :: f 252 :: f 253 :: f 254 :: f 255 :: f 256 :: f 257 :: f 258 :: f 259 :: f 260 :: f 261 :: f 262 :: f 263 :: f 264 :: f 265 :: f 266 :: f 267 :: f 268 :: f 269 :: f 270 :: f 271 :: f 272 :: f 273 :: f 274 :: f 275 :: f 276 :: f 277 :: f 278 :: f 279 :: f 280 :: f 281 :: f 282 :: f 283 :: f 284 :: f 285 :: f 286 :: f 287 :: f 288 :: f 289 :: f 290 :: f 291 :: f 292 :: f 293 :: f 294 :: f 295 :: f 296 :: f 297 :: f 298 :: f 299 :: f 300 :: f 301 :: f 302 :: f 303 :: f 304 :: f 305 :: f 306 :: f 307 :: f 308 :: f 309 :: f 310 :: f 311 :: f 312 :: f 313 :: f 314 :: f 315 :: f 316 :: f 317 :: f 318 :: f 319 :: f 320 :: []), []⟩
end Go.Proofs.YtfmagnpmjlppiaaGreatDoor

/- disk: one round of Crash's loop. -/
namespace Go.Proofs.YtfmagnpmjlppiaaGreatDoor
open Go.RowKit

def loopsC : Code → List Code
 | .loop c => c :: loopsC c
 | .seq a b => loopsC a ++ loopsC b
 | .block _ c => loopsC c
 | .scope c => loopsC c
 | .cond _ a b => loopsC a ++ loopsC b
 | _ => []
def lpC (b : Option Code) (i : Nat) : Code := (loopsC (b.getD .skip)).getD i .skip

end Go.Proofs.YtfmagnpmjlppiaaGreatDoor

/- disk: Crash. -/
namespace Go.Proofs.YtfmagnpmjlppiaaGreatDoor
open Go.RowKit
section
variable {w w1 w' : World} {O O' : Nat → Prop} {g : Nat} {m m' : DM} {bv bv' : Nat → Value} {wv : Value} {ws : List (DChg × Value)} {ea : Nat → Addr}

end
end Go.Proofs.YtfmagnpmjlppiaaGreatDoor

/- disk: Crash, whole. -/
namespace Go.Proofs.YtfmagnpmjlppiaaGreatDoor
open Go.RowKit
section
variable {w w1 w' : World} {O O' : Nat → Prop} {g : Nat} {m m' : DM} {bv bv' : Nat → Value} {wv : Value} {ws : List (DChg × Value)} {ea : Nat → Addr}

end
end Go.Proofs.YtfmagnpmjlppiaaGreatDoor

/- The disk's calls, as a law meets them. -/
namespace Go.Proofs.YtfmagnpmjlppiaaGreatDoor
open Go.RowKit

/-- A disk that a call made. -/
def DS (w0 w : World) (g : Nat) (m : DM) : Prop := ∃ O, DiskAt w O g m ∧ (∀ k, O k → w0.heap.size ≤ k) ∧ Below w0.heap.size w0 w
section
variable {w0 w w' : World} {g : Nat} {m m' : DM} {ea : Nat → Addr}
theorem New_S (room : Int) (hb : Below w0.heap.size w0 w) (h0 : 0 ≤ room) (h1 : room ≤ 1048576) : Calls Tryz.prog 8 #[.int .i64 room] w fun e w' => e = .returned (.tuple #[.pointer (some ⟨w.heap.size, 0, none⟩), .nilIface]) ∧ DS w0 w' w.heap.size ⟨room, fun _ => [], [], false, 0, false⟩ := by
 refine (DNew_any room w h0 h1).mono ?_
 rintro e w' ⟨rfl, hd, hb'⟩
 exact ⟨rfl, _, hd, fun k hk => by rw [hk]; exact hb.size, hb.trans (hb'.mono hb.size)⟩
end

theorem dErr_zero (ea : Nat → Addr) : dErr ea 0 = .nilIface := rfl
end Go.Proofs.YtfmagnpmjlppiaaGreatDoor

/- disk: Arm, Down, Waits; on a disk alone and beside a log. -/
namespace Go.Proofs.YtfmagnpmjlppiaaGreatDoor
open Go.RowKit

section
variable {w w0 : World} {O : Nat → Prop} {g : Nat} {m : DM} {bv : Nat → Value} {wv : Value} {ws : List (DChg × Value)} {ea : Nat → Addr}

end
end Go.Proofs.YtfmagnpmjlppiaaGreatDoor
