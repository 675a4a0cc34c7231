/- The reference's Sum: its frame and its loops, taken out of its body. -/
import Derived.Test.YtdhbpajamlfacaaGreatDoorTabs
import Derived.Test.YtdhbpajamlfacaaGreatDoorDiskOps
import Derived.Deep.LoopGhost
import Derived.Deep.RegionHeld3
import Derived.WalkSmall
import Derived.Lib.SlBytesConst
namespace Go.Proofs.YtdhbpajamlfacaaGreatDoor
open Go.RowKit
section
variable {w w1 w':World} {O O':Nat→Prop} {g:Nat} {m m':DM} {bv JO:Nat→Value} {wv:Value} {ws:List (fC×Value)} {ea:Nat→Addr}
end
section
variable {w w1 w':World} {O O':Nat→Prop} {g:Nat} {m m':DM} {bv JO:Nat→Value} {wv:Value} {ws:List (fC×Value)} {ea:Nat→Addr}
end
/-- A disk that a call made. -/
def DS (w0 w:World) (g:Nat) (m:DM):Prop:=∃O,gI w O g m∧(∀k,O k→w0.heap.size≤k)∧Below w0.heap.size w0 w
section
variable {w0 w w':World} {g:Nat} {m m':DM} {ea:Nat→Addr}
theorem YN (room:Int) (hb:Below w0.heap.size w0 w) (h0:0≤room) (h1:room≤1048576):Calls Tryz.prog 24 #[.int .i64 room] w fun e w'=>e=.returned (.tuple #[.pointer (some ⟨w.heap.size,0,none⟩),.nilIface])∧DS w0 w' w.heap.size ⟨room,fun _=>[],[],false,0,false⟩:=by
 refine(NQ room w h0 h1).mono ?_
 rintro e w' ⟨rfl,hd,hb'⟩
 exact⟨rfl,_,hd,fun k hk=>by rw[hk];exact hb.size,hb.trans (hb'.mono hb.size)⟩
end
theorem bQ (ea:Nat→Addr):bK ea 0=.nilIface:=rfl
section
variable {w w0:World} {O:Nat→Prop} {g:Nat} {m:DM} {bv:Nat→Value} {wv:Value} {ws:List (fC×Value)} {ea:Nat→Addr}
end
end Go.Proofs.YtdhbpajamlfacaaGreatDoor
