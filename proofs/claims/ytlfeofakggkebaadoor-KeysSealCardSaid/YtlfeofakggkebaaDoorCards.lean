/-
  DERIVED. GIVEN WITH THE SEED: THE CARDS: each row of YtlfeofakggkebaaDoorRows.lean that lists a variable, with what it lists TIED to the program's text (the seventh form; the later family's looks); each row that meets fmt, with fmt's text TOLD by the authors' own Lean function (tested against real Go, not proved from fmt's source: count such statements apart). THE CARD IS WHAT COUNTS. Prove the row's statement (the work); the ties are given (YtlfeofakggkebaaDoorTie.lean); close each card by the builder's one call (the guide's Derived/Test/ToyasCard.lean, 'card_holds'). Laid BY PROGRAM, IN A SANDBOX (cutbox-door.mjs). By AI agents, Wed Nov 11 2026. No macro, syntax, notation, axiom, sorry.
-/
import Derived.Test.YtlfeofakggkebaaDoorRows
import GoSem.ClaimSeven
namespace Go.Proofs.YtlfeofakggkebaaDoor
namespace Rows

/-- THE TIED CARD OF 'bullalaw10.KeysMake'. -/
def keysMakeCard : Claim7 := { stood := { row := keysMakeRow, standIns := [], harness := (true, "a148f8ddfc37ecf8b00fcf7a1b5d8f3d823a137acd6ef2d69243b9e57708657f"), looks := true }, kinds := [], alts := [], laidByText := true, laidKinds := [.sentinel, .sentinel, .sentinel, .sentinel, .sentinel, .sentinel, .sentinel, .sentinel, .sentinel, .sentinel, .sentinel, .sentinel, .sentinel, .sentinel, .sentinel, .sentinel, .sentinel, .sentinel, .sentinel, .sentinel, .sentinel, .sentinel, .sentinel, .sentinel, .sentinel, .sentinel, .sentinel, .sentinel, .data, .data], laidTests := true, laidLooks := .later }
def KeysMakeCardSaid : Prop := Claim7.holds Tryd.pinned (.plain (OpenSpec.ofChange keysMakeSpec)) keysMakeCard

/-- THE TIED CARD OF 'bullalaw10.KeysCount'. -/
def keysCountCard : Claim7 := { stood := { row := keysCountRow, standIns := [], harness := (true, "a148f8ddfc37ecf8b00fcf7a1b5d8f3d823a137acd6ef2d69243b9e57708657f"), looks := true }, kinds := [], alts := [], laidByText := true, laidKinds := [.sentinel, .sentinel, .sentinel, .sentinel, .sentinel, .sentinel, .sentinel, .sentinel, .sentinel, .sentinel, .sentinel, .sentinel, .sentinel, .sentinel, .sentinel, .sentinel, .sentinel, .sentinel, .sentinel, .sentinel, .sentinel, .sentinel, .sentinel, .sentinel, .sentinel, .sentinel, .sentinel, .sentinel, .data, .data], laidTests := true, laidLooks := .later }
def KeysCountCardSaid : Prop := Claim7.holds Tryd.pinned (.plain (OpenSpec.ofChange keysCountSpec)) keysCountCard

/-- THE TIED CARD OF 'bullalaw10.KeysSeal'. -/
def keysSealCard : Claim7 := { stood := { row := keysSealRow, standIns := [], harness := (true, "a148f8ddfc37ecf8b00fcf7a1b5d8f3d823a137acd6ef2d69243b9e57708657f"), looks := true }, kinds := [], alts := [], laidByText := true, laidKinds := [.sentinel, .sentinel, .sentinel, .sentinel, .sentinel, .sentinel, .sentinel, .sentinel, .sentinel, .sentinel, .sentinel, .sentinel, .sentinel, .sentinel, .sentinel, .sentinel, .sentinel, .sentinel, .sentinel, .sentinel, .sentinel, .sentinel, .sentinel, .sentinel, .sentinel, .sentinel, .sentinel, .sentinel, .data, .data], laidTests := true, laidLooks := .later }
def KeysSealCardSaid : Prop := Claim7.holds Tryd.pinned (.plain (OpenSpec.ofChange keysSealSpec)) keysSealCard

/-- THE TIED CARD OF 'bullalaw10.KeysPlays'. -/
def keysPlaysCard : Claim7 := { stood := { row := keysPlaysRow, standIns := [], harness := (true, "a148f8ddfc37ecf8b00fcf7a1b5d8f3d823a137acd6ef2d69243b9e57708657f"), looks := true }, kinds := [], alts := [], laidByText := true, laidKinds := [.sentinel, .sentinel, .sentinel, .sentinel, .sentinel, .sentinel, .sentinel, .sentinel, .sentinel, .sentinel, .sentinel, .sentinel, .sentinel, .sentinel, .sentinel, .sentinel, .sentinel, .sentinel, .sentinel, .sentinel, .sentinel, .sentinel, .sentinel, .sentinel, .sentinel, .sentinel, .sentinel, .sentinel, .data, .data], laidTests := true, laidLooks := .later }
def KeysPlaysCardSaid : Prop := Claim7.holds Tryd.pinned (.plain (OpenSpec.ofChange keysPlaysSpec)) keysPlaysCard

/-- THE TIED CARD OF 'bullalaw18.WalAgain'. -/
def walAgainCard : Claim7 := { stood := { row := walAgainRow, standIns := [], harness := (true, "a148f8ddfc37ecf8b00fcf7a1b5d8f3d823a137acd6ef2d69243b9e57708657f"), looks := true }, kinds := [], alts := [], laidByText := true, laidKinds := [.sentinel, .sentinel, .sentinel, .sentinel, .sentinel, .data, .data], laidTests := true, laidLooks := .later }
def WalAgainCardSaid : Prop := Claim7.holds Tryd.pinned (.plain (OpenSpec.ofChange walAgainSpec)) walAgainCard

/-- THE TIED CARD OF 'bullalaw18.WalPower'. -/
def walPowerCard : Claim7 := { stood := { row := walPowerRow, standIns := [], harness := (true, "a148f8ddfc37ecf8b00fcf7a1b5d8f3d823a137acd6ef2d69243b9e57708657f"), looks := true }, kinds := [], alts := [], laidByText := true, laidKinds := [.sentinel, .sentinel, .sentinel, .sentinel, .sentinel, .sentinel, .sentinel, .sentinel, .sentinel, .sentinel, .sentinel, .sentinel, .sentinel, .sentinel, .sentinel, .sentinel, .sentinel, .sentinel, .sentinel, .sentinel, .sentinel, .sentinel, .sentinel, .sentinel, .sentinel, .sentinel, .sentinel, .sentinel, .data, .data], laidTests := true, laidLooks := .later }
def WalPowerCardSaid : Prop := Claim7.holds Tryd.pinned (.plain (OpenSpec.ofChange walPowerSpec)) walPowerCard

/-- THE TIED CARD OF 'bullalaw18.WalPlays'. -/
def walPlaysCard : Claim7 := { stood := { row := walPlaysRow, standIns := [], harness := (true, "a148f8ddfc37ecf8b00fcf7a1b5d8f3d823a137acd6ef2d69243b9e57708657f"), looks := true }, kinds := [], alts := [], laidByText := true, laidKinds := [.sentinel, .sentinel, .sentinel, .sentinel, .sentinel, .sentinel, .sentinel, .sentinel, .sentinel, .sentinel, .sentinel, .sentinel, .sentinel, .sentinel, .sentinel, .sentinel, .sentinel, .sentinel, .sentinel, .sentinel, .sentinel, .sentinel, .sentinel, .sentinel, .sentinel, .sentinel, .sentinel, .sentinel, .data, .data], laidTests := true, laidLooks := .later }
def WalPlaysCardSaid : Prop := Claim7.holds Tryd.pinned (.plain (OpenSpec.ofChange walPlaysSpec)) walPlaysCard

/-- THE SECOND FORM's CARD OF 'bullalaw10.KeysMake'. -/
def keysMakeUptoCard : Claim7 := { stood := { row := keysMakeUptoRow, standIns := [], harness := (true, "a148f8ddfc37ecf8b00fcf7a1b5d8f3d823a137acd6ef2d69243b9e57708657f"), looks := true }, kinds := [], alts := [], laidByText := true, laidKinds := [.sentinel, .sentinel, .sentinel, .sentinel, .sentinel, .sentinel, .sentinel, .sentinel, .sentinel, .sentinel, .sentinel, .sentinel, .sentinel, .sentinel, .sentinel, .sentinel, .sentinel, .sentinel, .sentinel, .sentinel, .sentinel, .sentinel, .sentinel, .sentinel, .sentinel, .sentinel, .sentinel, .sentinel, .data, .data], laidTests := true, laidLooks := .later }
def KeysMakeUptoCardSaid : Prop := Claim7.holds Tryd.pinned (.plain (OpenSpec.upto keysMakeSpec)) keysMakeUptoCard

/-- THE SECOND FORM's CARD OF 'bullalaw10.KeysCount'. -/
def keysCountUptoCard : Claim7 := { stood := { row := keysCountUptoRow, standIns := [], harness := (true, "a148f8ddfc37ecf8b00fcf7a1b5d8f3d823a137acd6ef2d69243b9e57708657f"), looks := true }, kinds := [], alts := [], laidByText := true, laidKinds := [.sentinel, .sentinel, .sentinel, .sentinel, .sentinel, .sentinel, .sentinel, .sentinel, .sentinel, .sentinel, .sentinel, .sentinel, .sentinel, .sentinel, .sentinel, .sentinel, .sentinel, .sentinel, .sentinel, .sentinel, .sentinel, .sentinel, .sentinel, .sentinel, .sentinel, .sentinel, .sentinel, .sentinel, .data, .data], laidTests := true, laidLooks := .later }
def KeysCountUptoCardSaid : Prop := Claim7.holds Tryd.pinned (.plain (OpenSpec.upto keysCountSpec)) keysCountUptoCard

/-- THE SECOND FORM's CARD OF 'bullalaw10.KeysSeal'. -/
def keysSealUptoCard : Claim7 := { stood := { row := keysSealUptoRow, standIns := [], harness := (true, "a148f8ddfc37ecf8b00fcf7a1b5d8f3d823a137acd6ef2d69243b9e57708657f"), looks := true }, kinds := [], alts := [], laidByText := true, laidKinds := [.sentinel, .sentinel, .sentinel, .sentinel, .sentinel, .sentinel, .sentinel, .sentinel, .sentinel, .sentinel, .sentinel, .sentinel, .sentinel, .sentinel, .sentinel, .sentinel, .sentinel, .sentinel, .sentinel, .sentinel, .sentinel, .sentinel, .sentinel, .sentinel, .sentinel, .sentinel, .sentinel, .sentinel, .data, .data], laidTests := true, laidLooks := .later }
def KeysSealUptoCardSaid : Prop := Claim7.holds Tryd.pinned (.plain (OpenSpec.upto keysSealSpec)) keysSealUptoCard

/-- THE SECOND FORM's CARD OF 'bullalaw10.KeysPlays'. -/
def keysPlaysUptoCard : Claim7 := { stood := { row := keysPlaysUptoRow, standIns := [], harness := (true, "a148f8ddfc37ecf8b00fcf7a1b5d8f3d823a137acd6ef2d69243b9e57708657f"), looks := true }, kinds := [], alts := [], laidByText := true, laidKinds := [.sentinel, .sentinel, .sentinel, .sentinel, .sentinel, .sentinel, .sentinel, .sentinel, .sentinel, .sentinel, .sentinel, .sentinel, .sentinel, .sentinel, .sentinel, .sentinel, .sentinel, .sentinel, .sentinel, .sentinel, .sentinel, .sentinel, .sentinel, .sentinel, .sentinel, .sentinel, .sentinel, .sentinel, .data, .data], laidTests := true, laidLooks := .later }
def KeysPlaysUptoCardSaid : Prop := Claim7.holds Tryd.pinned (.plain (OpenSpec.upto keysPlaysSpec)) keysPlaysUptoCard

/-- THE SECOND FORM's CARD OF 'bullalaw18.WalAgain'. -/
def walAgainUptoCard : Claim7 := { stood := { row := walAgainUptoRow, standIns := [], harness := (true, "a148f8ddfc37ecf8b00fcf7a1b5d8f3d823a137acd6ef2d69243b9e57708657f"), looks := true }, kinds := [], alts := [], laidByText := true, laidKinds := [.sentinel, .sentinel, .sentinel, .sentinel, .sentinel, .data, .data], laidTests := true, laidLooks := .later }
def WalAgainUptoCardSaid : Prop := Claim7.holds Tryd.pinned (.plain (OpenSpec.upto walAgainSpec)) walAgainUptoCard

/-- THE SECOND FORM's CARD OF 'bullalaw18.WalPower'. -/
def walPowerUptoCard : Claim7 := { stood := { row := walPowerUptoRow, standIns := [], harness := (true, "a148f8ddfc37ecf8b00fcf7a1b5d8f3d823a137acd6ef2d69243b9e57708657f"), looks := true }, kinds := [], alts := [], laidByText := true, laidKinds := [.sentinel, .sentinel, .sentinel, .sentinel, .sentinel, .sentinel, .sentinel, .sentinel, .sentinel, .sentinel, .sentinel, .sentinel, .sentinel, .sentinel, .sentinel, .sentinel, .sentinel, .sentinel, .sentinel, .sentinel, .sentinel, .sentinel, .sentinel, .sentinel, .sentinel, .sentinel, .sentinel, .sentinel, .data, .data], laidTests := true, laidLooks := .later }
def WalPowerUptoCardSaid : Prop := Claim7.holds Tryd.pinned (.plain (OpenSpec.upto walPowerSpec)) walPowerUptoCard

/-- THE SECOND FORM's CARD OF 'bullalaw18.WalPlays'. -/
def walPlaysUptoCard : Claim7 := { stood := { row := walPlaysUptoRow, standIns := [], harness := (true, "a148f8ddfc37ecf8b00fcf7a1b5d8f3d823a137acd6ef2d69243b9e57708657f"), looks := true }, kinds := [], alts := [], laidByText := true, laidKinds := [.sentinel, .sentinel, .sentinel, .sentinel, .sentinel, .sentinel, .sentinel, .sentinel, .sentinel, .sentinel, .sentinel, .sentinel, .sentinel, .sentinel, .sentinel, .sentinel, .sentinel, .sentinel, .sentinel, .sentinel, .sentinel, .sentinel, .sentinel, .sentinel, .sentinel, .sentinel, .sentinel, .sentinel, .data, .data], laidTests := true, laidLooks := .later }
def WalPlaysUptoCardSaid : Prop := Claim7.holds Tryd.pinned (.plain (OpenSpec.upto walPlaysSpec)) walPlaysUptoCard
end Rows
end Go.Proofs.YtlfeofakggkebaaDoor
