/-
  DERIVED. GIVEN WITH THE SEED: THE CARDS: each row of YtfmagnpmjlppiaaGreatDoorRows.lean that lists a variable, with what it lists TIED to the program's text (the seventh form; the later family's looks); each row that meets fmt, with fmt's text TOLD by the authors' own Lean function (tested against real Go, not proved from fmt's source: count such statements apart). THE CARD IS WHAT COUNTS. Prove the row's statement (the work); the ties are given (YtfmagnpmjlppiaaGreatDoorTie.lean); close each card by the builder's one call (the guide's Derived/Test/ToyasCard.lean, 'card_holds'). Laid BY PROGRAM, IN A SANDBOX (cutbox-door.mjs). By AI agents, Wed Nov 11 2026. No macro, syntax, notation, axiom, sorry.
-/
import Derived.Test.YtfmagnpmjlppiaaGreatDoorRows
import GoSem.ClaimSeven
namespace Go.Proofs.YtfmagnpmjlppiaaGreatDoor
namespace Rows

/-- THE TIED CARD OF 'bullalaw20.StorePower'. -/
def storePowerCard : Claim7 := { stood := { row := storePowerRow, standIns := [], harness := (true, "df9827a095c99a365cc4487efac6f6a1643dab0f2e25f5d53052d6bc2e6b3e1d"), looks := true }, kinds := [], alts := [], laidByText := true, laidKinds := [.sentinel, .sentinel, .sentinel, .sentinel, .sentinel, .sentinel, .sentinel, .sentinel, .sentinel, .sentinel, .sentinel, .sentinel, .sentinel, .sentinel, .sentinel, .sentinel, .sentinel, .sentinel, .sentinel, .sentinel, .sentinel, .sentinel, .sentinel, .sentinel, .sentinel, .sentinel, .sentinel, .sentinel, .data, .data], laidTests := true, laidLooks := .later }
def StorePowerCardSaid : Prop := Claim7.holds Tryz.pinned (.plain (OpenSpec.ofChange storePowerSpec)) storePowerCard

/-- THE TIED CARD OF 'bullalaw20.StoreLists'. -/
def storeListsCard : Claim7 := { stood := { row := storeListsRow, standIns := [], harness := (true, "df9827a095c99a365cc4487efac6f6a1643dab0f2e25f5d53052d6bc2e6b3e1d"), looks := true }, kinds := [], alts := [], laidByText := true, laidKinds := [.sentinel, .sentinel, .sentinel, .sentinel, .sentinel, .sentinel, .sentinel, .sentinel, .sentinel, .sentinel, .sentinel, .sentinel, .sentinel, .sentinel, .sentinel, .sentinel, .sentinel, .sentinel, .sentinel, .sentinel, .sentinel, .sentinel, .sentinel, .sentinel, .sentinel, .sentinel, .sentinel, .sentinel, .data, .data], laidTests := true, laidLooks := .later }
def StoreListsCardSaid : Prop := Claim7.holds Tryz.pinned (.plain (OpenSpec.ofChange storeListsSpec)) storeListsCard

/-- THE TIED CARD OF 'bullalaw20.StorePlays'. -/
def storePlaysCard : Claim7 := { stood := { row := storePlaysRow, standIns := [], harness := (true, "df9827a095c99a365cc4487efac6f6a1643dab0f2e25f5d53052d6bc2e6b3e1d"), looks := true }, kinds := [], alts := [], laidByText := true, laidKinds := [.sentinel, .sentinel, .sentinel, .sentinel, .sentinel, .sentinel, .sentinel, .sentinel, .sentinel, .sentinel, .sentinel, .sentinel, .sentinel, .sentinel, .sentinel, .sentinel, .sentinel, .sentinel, .sentinel, .sentinel, .sentinel, .sentinel, .sentinel, .sentinel, .sentinel, .sentinel, .sentinel, .sentinel, .data, .data], laidTests := true, laidLooks := .later }
def StorePlaysCardSaid : Prop := Claim7.holds Tryz.pinned (.plain (OpenSpec.ofChange storePlaysSpec)) storePlaysCard

/-- THE SECOND FORM's CARD OF 'bullalaw20.StorePower'. -/
def storePowerUptoCard : Claim7 := { stood := { row := storePowerUptoRow, standIns := [], harness := (true, "df9827a095c99a365cc4487efac6f6a1643dab0f2e25f5d53052d6bc2e6b3e1d"), looks := true }, kinds := [], alts := [], laidByText := true, laidKinds := [.sentinel, .sentinel, .sentinel, .sentinel, .sentinel, .sentinel, .sentinel, .sentinel, .sentinel, .sentinel, .sentinel, .sentinel, .sentinel, .sentinel, .sentinel, .sentinel, .sentinel, .sentinel, .sentinel, .sentinel, .sentinel, .sentinel, .sentinel, .sentinel, .sentinel, .sentinel, .sentinel, .sentinel, .data, .data], laidTests := true, laidLooks := .later }
def StorePowerUptoCardSaid : Prop := Claim7.holds Tryz.pinned (.plain (OpenSpec.upto storePowerSpec)) storePowerUptoCard

/-- THE SECOND FORM's CARD OF 'bullalaw20.StoreLists'. -/
def storeListsUptoCard : Claim7 := { stood := { row := storeListsUptoRow, standIns := [], harness := (true, "df9827a095c99a365cc4487efac6f6a1643dab0f2e25f5d53052d6bc2e6b3e1d"), looks := true }, kinds := [], alts := [], laidByText := true, laidKinds := [.sentinel, .sentinel, .sentinel, .sentinel, .sentinel, .sentinel, .sentinel, .sentinel, .sentinel, .sentinel, .sentinel, .sentinel, .sentinel, .sentinel, .sentinel, .sentinel, .sentinel, .sentinel, .sentinel, .sentinel, .sentinel, .sentinel, .sentinel, .sentinel, .sentinel, .sentinel, .sentinel, .sentinel, .data, .data], laidTests := true, laidLooks := .later }
def StoreListsUptoCardSaid : Prop := Claim7.holds Tryz.pinned (.plain (OpenSpec.upto storeListsSpec)) storeListsUptoCard

/-- THE SECOND FORM's CARD OF 'bullalaw20.StorePlays'. -/
def storePlaysUptoCard : Claim7 := { stood := { row := storePlaysUptoRow, standIns := [], harness := (true, "df9827a095c99a365cc4487efac6f6a1643dab0f2e25f5d53052d6bc2e6b3e1d"), looks := true }, kinds := [], alts := [], laidByText := true, laidKinds := [.sentinel, .sentinel, .sentinel, .sentinel, .sentinel, .sentinel, .sentinel, .sentinel, .sentinel, .sentinel, .sentinel, .sentinel, .sentinel, .sentinel, .sentinel, .sentinel, .sentinel, .sentinel, .sentinel, .sentinel, .sentinel, .sentinel, .sentinel, .sentinel, .sentinel, .sentinel, .sentinel, .sentinel, .data, .data], laidTests := true, laidLooks := .later }
def StorePlaysUptoCardSaid : Prop := Claim7.holds Tryz.pinned (.plain (OpenSpec.upto storePlaysSpec)) storePlaysUptoCard
end Rows
end Go.Proofs.YtfmagnpmjlppiaaGreatDoor
