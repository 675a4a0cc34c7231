/- The reference's tables. -/
import Derived.Test.YtjodehdmafagoaaDoorInts
namespace Go.Proofs.YtjodehdmafagoaaDoor
open Go.RowKit

/-- The standard's constants and first words. -/
def ktab : List UInt32 := [1116352408, 1899447441, 3049323471, 3921009573, 961987163, 1508970993, 2453635748, 2870763221, 3624381080, 310598401, 607225278, 1426881987, 1925078388, 2162078206, 2614888103, 3248222580, 3835390401, 4022224774, 264347078, 604807628, 770255983, 1249150122, 1555081692, 1996064986, 2554220882, 2821834349, 2952996808, 3210313671, 3336571891, 3584528711, 113926993, 338241895, 666307205, 773529912, 1294757372, 1396182291, 1695183700, 1986661051, 2177026350, 2456956037, 2730485921, 2820302411, 3259730800, 3345764771, 3516065817, 3600352804, 4094571909, 275423344, 430227734, 506948616, 659060556, 883997877, 958139571, 1322822218, 1537002063, 1747873779, 1955562222, 2024104815, 2227730452, 2361852424, 2428436474, 2756734187, 3204031479, 3329325298]
def htab : W8 := ⟨1779033703, 3144134277, 1013904242, 2773480762, 1359893119, 2600822924, 528734635, 1541459225⟩
def kfun (k : Nat) : UInt32 := ktab.getD k 0

set_option maxRecDepth 100000 in
theorem Table_any (w : World) : Calls Tryd.prog 84 #[] w fun e w' => e = .returned (.slice (some ⟨w.heap.size, 0, none⟩) 64 64) ∧ OI w' w.heap.size (.slice (some ⟨w.heap.size, 0, none⟩) 64 64) ktab ∧ Below w.heap.size w w' := by
  have h := Lib.hid (OI.lit w w.heap.size (Nat.le_refl _) ktab 64 rfl (by decide))
  go_enter Tryd.func84, Tryd.ntmps84
  go_wp2
  go_ret
  exact ⟨rfl, h.out, (Below.refl _ w).alloc (Nat.le_refl _) _⟩

set_option maxRecDepth 100000 in
theorem First_any (w : World) : Calls Tryd.prog 85 #[] w fun e w' => e = .returned (.slice (some ⟨w.heap.size, 0, none⟩) 8 8) ∧ w' = w.alloc (.cells (icells htab.list).toArray 3) := by
  go_enter Tryd.func85, Tryd.ntmps85
  go_wp2
  go_ret
  exact ⟨rfl, rfl⟩
end Go.Proofs.YtjodehdmafagoaaDoor
