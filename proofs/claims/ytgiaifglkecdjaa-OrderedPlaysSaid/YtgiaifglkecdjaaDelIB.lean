/- Layer 16, tables of int to bool: least, del, find. -/
import Derived.Test.YtgiaifglkecdjaaPutIB
import Derived.Deep.LoopGhost
namespace Go.Proofs.Ytgiaifglkecdjaa.IB
open Go.RowKit

theorem T.none {w : World} {s : Code} {l : List (Int × Bool)} (a : T w s none l) : s = .skip ∧ l = [] := by
  rcases Tr.open a with ⟨h0, _, h1⟩ | ⟨b, k, v, pl, pr, ll, lr, sl, sr, h1, _⟩
  · exact ⟨h0, h1⟩
  · cases h1
theorem T.some {w : World} {s : Code} {q : Addr} {l : List (Int × Bool)} (a : T w s (some q) l) : ∃ e r x y, l = e :: r ∧ s = .seq x y := by
  rcases Tr.open a with ⟨_, h0, _⟩ | ⟨b, k, v, pl, pr, ll, lr, sl, sr, h1, _, rfl, rfl, _⟩
  · cases h0
  · cases ll with
    | nil => exact ⟨_, _, _, _, rfl, rfl⟩
    | cons e ll => exact ⟨_, _, _, _, rfl, rfl⟩

end Go.Proofs.Ytgiaifglkecdjaa.IB
