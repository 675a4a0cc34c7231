/-
  DERIVED. GIVEN WITH THE SEED: THE CARDS: each row of YtdhbpajamlfacaaGreatDoorRows.lean that lists a variable, with what it lists TIED to the program's text (the seventh form; the later family's looks); each row that meets fmt, with fmt's text TOLD by the authors' own Lean function (tested against real Go, not proved from fmt's source: count such statements apart). THE CARD IS WHAT COUNTS. Prove the row's statement (the work); the ties are given (YtdhbpajamlfacaaGreatDoorTie.lean); close each card by the builder's one call (the guide's Derived/Test/ToyasCard.lean, 'card_holds'). Laid BY PROGRAM, IN A SANDBOX (cutbox-door.mjs). By AI agents, Wed Nov 11 2026. No macro, syntax, notation, axiom, sorry.
-/
import Derived.Test.YtdhbpajamlfacaaGreatDoorRows
import GoSem.ClaimSeven
namespace Go.Proofs.YtdhbpajamlfacaaGreatDoor
namespace Rows

/-- THE TIED CARD OF 'bullalaw21.WatchBehind'. -/
def watchBehindCard : Claim7 := { stood := { row := watchBehindRow, standIns := [], harness := (true, "a78897a31a0e58643ab4a7c39a727e3614d6bdeafd23d2aae5e2b9d472092c3a"), looks := true }, kinds := [], alts := [], laidByText := true, laidKinds := [.sentinel, .sentinel, .sentinel, .sentinel, .sentinel, .sentinel, .sentinel, .sentinel, .sentinel, .sentinel, .sentinel, .sentinel, .sentinel, .sentinel, .sentinel, .sentinel, .sentinel, .sentinel, .sentinel, .sentinel, .sentinel, .sentinel, .sentinel, .sentinel, .sentinel, .sentinel, .sentinel, .sentinel, .data, .data], laidTests := true, laidLooks := .later }
def WatchBehindCardSaid : Prop := Claim7.holds Tryz.pinned (.plain (OpenSpec.ofChange watchBehindSpec)) watchBehindCard

/-- THE TIED CARD OF 'bullalaw21.WatchKnows'. -/
def watchKnowsCard : Claim7 := { stood := { row := watchKnowsRow, standIns := [], harness := (true, "a78897a31a0e58643ab4a7c39a727e3614d6bdeafd23d2aae5e2b9d472092c3a"), looks := true }, kinds := [], alts := [], laidByText := true, laidKinds := [.sentinel, .sentinel, .sentinel, .sentinel, .sentinel, .sentinel, .sentinel, .sentinel, .sentinel, .sentinel, .sentinel, .sentinel, .sentinel, .sentinel, .sentinel, .sentinel, .sentinel, .sentinel, .sentinel, .sentinel, .sentinel, .sentinel, .sentinel, .sentinel, .sentinel, .sentinel, .sentinel, .sentinel, .data, .data], laidTests := true, laidLooks := .later }
def WatchKnowsCardSaid : Prop := Claim7.holds Tryz.pinned (.plain (OpenSpec.ofChange watchKnowsSpec)) watchKnowsCard

/-- THE TIED CARD OF 'bullalaw21.WatchPlays'. -/
def watchPlaysCard : Claim7 := { stood := { row := watchPlaysRow, standIns := [], harness := (true, "a78897a31a0e58643ab4a7c39a727e3614d6bdeafd23d2aae5e2b9d472092c3a"), looks := true }, kinds := [], alts := [], laidByText := true, laidKinds := [.sentinel, .sentinel, .sentinel, .sentinel, .sentinel, .sentinel, .sentinel, .sentinel, .sentinel, .sentinel, .sentinel, .sentinel, .sentinel, .sentinel, .sentinel, .sentinel, .sentinel, .sentinel, .sentinel, .sentinel, .sentinel, .sentinel, .sentinel, .sentinel, .sentinel, .sentinel, .sentinel, .sentinel, .data, .data], laidTests := true, laidLooks := .later }
def WatchPlaysCardSaid : Prop := Claim7.holds Tryz.pinned (.plain (OpenSpec.ofChange watchPlaysSpec)) watchPlaysCard

/-- THE SECOND FORM's CARD OF 'bullalaw21.WatchBehind'. -/
def watchBehindUptoCard : Claim7 := { stood := { row := watchBehindUptoRow, standIns := [], harness := (true, "a78897a31a0e58643ab4a7c39a727e3614d6bdeafd23d2aae5e2b9d472092c3a"), looks := true }, kinds := [], alts := [], laidByText := true, laidKinds := [.sentinel, .sentinel, .sentinel, .sentinel, .sentinel, .sentinel, .sentinel, .sentinel, .sentinel, .sentinel, .sentinel, .sentinel, .sentinel, .sentinel, .sentinel, .sentinel, .sentinel, .sentinel, .sentinel, .sentinel, .sentinel, .sentinel, .sentinel, .sentinel, .sentinel, .sentinel, .sentinel, .sentinel, .data, .data], laidTests := true, laidLooks := .later }
def WatchBehindUptoCardSaid : Prop := Claim7.holds Tryz.pinned (.plain (OpenSpec.upto watchBehindSpec)) watchBehindUptoCard

/-- THE SECOND FORM's CARD OF 'bullalaw21.WatchKnows'. -/
def watchKnowsUptoCard : Claim7 := { stood := { row := watchKnowsUptoRow, standIns := [], harness := (true, "a78897a31a0e58643ab4a7c39a727e3614d6bdeafd23d2aae5e2b9d472092c3a"), looks := true }, kinds := [], alts := [], laidByText := true, laidKinds := [.sentinel, .sentinel, .sentinel, .sentinel, .sentinel, .sentinel, .sentinel, .sentinel, .sentinel, .sentinel, .sentinel, .sentinel, .sentinel, .sentinel, .sentinel, .sentinel, .sentinel, .sentinel, .sentinel, .sentinel, .sentinel, .sentinel, .sentinel, .sentinel, .sentinel, .sentinel, .sentinel, .sentinel, .data, .data], laidTests := true, laidLooks := .later }
def WatchKnowsUptoCardSaid : Prop := Claim7.holds Tryz.pinned (.plain (OpenSpec.upto watchKnowsSpec)) watchKnowsUptoCard

/-- THE SECOND FORM's CARD OF 'bullalaw21.WatchPlays'. -/
def watchPlaysUptoCard : Claim7 := { stood := { row := watchPlaysUptoRow, standIns := [], harness := (true, "a78897a31a0e58643ab4a7c39a727e3614d6bdeafd23d2aae5e2b9d472092c3a"), looks := true }, kinds := [], alts := [], laidByText := true, laidKinds := [.sentinel, .sentinel, .sentinel, .sentinel, .sentinel, .sentinel, .sentinel, .sentinel, .sentinel, .sentinel, .sentinel, .sentinel, .sentinel, .sentinel, .sentinel, .sentinel, .sentinel, .sentinel, .sentinel, .sentinel, .sentinel, .sentinel, .sentinel, .sentinel, .sentinel, .sentinel, .sentinel, .sentinel, .data, .data], laidTests := true, laidLooks := .later }
def WatchPlaysUptoCardSaid : Prop := Claim7.holds Tryz.pinned (.plain (OpenSpec.upto watchPlaysSpec)) watchPlaysUptoCard
end Rows
end Go.Proofs.YtdhbpajamlfacaaGreatDoor
