/-
  DERIVED. GIVEN WITH THE SEED: THE CARDS: each row of YtgiaifglkecdjaaDoorRows.lean that lists a variable, with what it lists TIED to the program's text (the seventh form; the later family's looks); each row that meets fmt, with fmt's text TOLD by the authors' own Lean function (tested against real Go, not proved from fmt's source: count such statements apart). THE CARD IS WHAT COUNTS. Prove the row's statement (the work); the ties are given (YtgiaifglkecdjaaDoorTie.lean); close each card by the builder's one call (the guide's Derived/Test/ToyasCard.lean, 'card_holds'). Laid BY PROGRAM, IN A SANDBOX (cutbox-door.mjs). By AI agents, Wed Nov 11 2026. No macro, syntax, notation, axiom, sorry.
-/
import Derived.Test.YtgiaifglkecdjaaDoorRows
import GoSem.ClaimSeven
namespace Go.Proofs.YtgiaifglkecdjaaDoor
namespace Rows

/-- THE TIED CARD OF 'bullalaw02.MacNumbers'. -/
def macNumbersCard : Claim7 := { stood := { row := macNumbersRow, standIns := [], harness := (true, "cfa54e4e6d67a0a9df1452d55ffe588a17a8cb2733a2abe24805fc1fd125c960"), looks := true }, kinds := [], alts := [], laidByText := true, laidKinds := [.sentinel, .sentinel, .sentinel, .sentinel, .sentinel, .sentinel, .sentinel, .sentinel, .sentinel, .sentinel, .sentinel, .sentinel, .sentinel, .sentinel, .sentinel, .sentinel, .sentinel, .sentinel, .sentinel, .sentinel, .sentinel, .sentinel, .sentinel, .sentinel, .sentinel, .sentinel, .sentinel, .sentinel], laidTests := true, laidLooks := .later }
def MacNumbersCardSaid : Prop := Claim7.holds Tryd.pinned (.plain (OpenSpec.ofChange macNumbersSpec)) macNumbersCard

/-- THE TIED CARD OF 'bullalaw17.DiskKeeps'. -/
def diskKeepsCard : Claim7 := { stood := { row := diskKeepsRow, standIns := [], harness := (true, "cfa54e4e6d67a0a9df1452d55ffe588a17a8cb2733a2abe24805fc1fd125c960"), looks := true }, kinds := [], alts := [], laidByText := true, laidKinds := [.sentinel, .sentinel, .sentinel], laidTests := true, laidLooks := .later }
def DiskKeepsCardSaid : Prop := Claim7.holds Tryd.pinned (.plain (OpenSpec.ofChange diskKeepsSpec)) diskKeepsCard

/-- THE TIED CARD OF 'bullalaw02.MacFrames'. -/
def macFramesCard : Claim7 := { stood := { row := macFramesRow, standIns := [], harness := (true, "cfa54e4e6d67a0a9df1452d55ffe588a17a8cb2733a2abe24805fc1fd125c960"), looks := true }, kinds := [], alts := [], laidByText := true, laidKinds := [.sentinel, .sentinel, .sentinel, .sentinel, .sentinel, .sentinel, .sentinel, .sentinel, .sentinel, .sentinel, .sentinel, .sentinel, .sentinel, .sentinel, .sentinel, .sentinel, .sentinel, .sentinel, .sentinel, .sentinel, .sentinel, .sentinel, .sentinel, .sentinel, .sentinel, .sentinel, .sentinel, .sentinel, .data, .data], laidTests := true, laidLooks := .later }
def MacFramesCardSaid : Prop := Claim7.holds Tryd.pinned (.plain (OpenSpec.ofChange macFramesSpec)) macFramesCard

/-- THE TIED CARD OF 'bullalaw10.KeysCount'. -/
def keysCountCard : Claim7 := { stood := { row := keysCountRow, standIns := [], harness := (true, "cfa54e4e6d67a0a9df1452d55ffe588a17a8cb2733a2abe24805fc1fd125c960"), looks := true }, kinds := [], alts := [], laidByText := true, laidKinds := [.sentinel, .sentinel, .sentinel, .sentinel, .sentinel, .sentinel, .sentinel, .sentinel, .sentinel, .sentinel, .sentinel, .sentinel, .sentinel, .sentinel, .sentinel, .sentinel, .sentinel, .sentinel, .sentinel, .sentinel, .sentinel, .sentinel, .sentinel, .sentinel, .sentinel, .sentinel, .sentinel, .sentinel, .data, .data], laidTests := true, laidLooks := .later }
def KeysCountCardSaid : Prop := Claim7.holds Tryd.pinned (.plain (OpenSpec.ofChange keysCountSpec)) keysCountCard

/-- THE TIED CARD OF 'bullalaw10.KeysMake'. -/
def keysMakeCard : Claim7 := { stood := { row := keysMakeRow, standIns := [], harness := (true, "cfa54e4e6d67a0a9df1452d55ffe588a17a8cb2733a2abe24805fc1fd125c960"), looks := true }, kinds := [], alts := [], laidByText := true, laidKinds := [.sentinel, .sentinel, .sentinel, .sentinel, .sentinel, .sentinel, .sentinel, .sentinel, .sentinel, .sentinel, .sentinel, .sentinel, .sentinel, .sentinel, .sentinel, .sentinel, .sentinel, .sentinel, .sentinel, .sentinel, .sentinel, .sentinel, .sentinel, .sentinel, .sentinel, .sentinel, .sentinel, .sentinel, .data, .data], laidTests := true, laidLooks := .later }
def KeysMakeCardSaid : Prop := Claim7.holds Tryd.pinned (.plain (OpenSpec.ofChange keysMakeSpec)) keysMakeCard

/-- THE TIED CARD OF 'bullalaw10.KeysPlays'. -/
def keysPlaysCard : Claim7 := { stood := { row := keysPlaysRow, standIns := [], harness := (true, "cfa54e4e6d67a0a9df1452d55ffe588a17a8cb2733a2abe24805fc1fd125c960"), looks := true }, kinds := [], alts := [], laidByText := true, laidKinds := [.sentinel, .sentinel, .sentinel, .sentinel, .sentinel, .sentinel, .sentinel, .sentinel, .sentinel, .sentinel, .sentinel, .sentinel, .sentinel, .sentinel, .sentinel, .sentinel, .sentinel, .sentinel, .sentinel, .sentinel, .sentinel, .sentinel, .sentinel, .sentinel, .sentinel, .sentinel, .sentinel, .sentinel, .data, .data], laidTests := true, laidLooks := .later }
def KeysPlaysCardSaid : Prop := Claim7.holds Tryd.pinned (.plain (OpenSpec.ofChange keysPlaysSpec)) keysPlaysCard

/-- THE TIED CARD OF 'bullalaw10.KeysSeal'. -/
def keysSealCard : Claim7 := { stood := { row := keysSealRow, standIns := [], harness := (true, "cfa54e4e6d67a0a9df1452d55ffe588a17a8cb2733a2abe24805fc1fd125c960"), looks := true }, kinds := [], alts := [], laidByText := true, laidKinds := [.sentinel, .sentinel, .sentinel, .sentinel, .sentinel, .sentinel, .sentinel, .sentinel, .sentinel, .sentinel, .sentinel, .sentinel, .sentinel, .sentinel, .sentinel, .sentinel, .sentinel, .sentinel, .sentinel, .sentinel, .sentinel, .sentinel, .sentinel, .sentinel, .sentinel, .sentinel, .sentinel, .sentinel, .data, .data], laidTests := true, laidLooks := .later }
def KeysSealCardSaid : Prop := Claim7.holds Tryd.pinned (.plain (OpenSpec.ofChange keysSealSpec)) keysSealCard

/-- THE TIED CARD OF 'bullalaw18.WalAgain'. -/
def walAgainCard : Claim7 := { stood := { row := walAgainRow, standIns := [], harness := (true, "cfa54e4e6d67a0a9df1452d55ffe588a17a8cb2733a2abe24805fc1fd125c960"), looks := true }, kinds := [], alts := [], laidByText := true, laidKinds := [.sentinel, .sentinel, .sentinel, .sentinel, .sentinel, .data, .data], laidTests := true, laidLooks := .later }
def WalAgainCardSaid : Prop := Claim7.holds Tryd.pinned (.plain (OpenSpec.ofChange walAgainSpec)) walAgainCard

/-- THE TIED CARD OF 'bullalaw18.WalPower'. -/
def walPowerCard : Claim7 := { stood := { row := walPowerRow, standIns := [], harness := (true, "cfa54e4e6d67a0a9df1452d55ffe588a17a8cb2733a2abe24805fc1fd125c960"), looks := true }, kinds := [], alts := [], laidByText := true, laidKinds := [.sentinel, .sentinel, .sentinel, .sentinel, .sentinel, .sentinel, .sentinel, .sentinel, .sentinel, .sentinel, .sentinel, .sentinel, .sentinel, .sentinel, .sentinel, .sentinel, .sentinel, .sentinel, .sentinel, .sentinel, .sentinel, .sentinel, .sentinel, .sentinel, .sentinel, .sentinel, .sentinel, .sentinel, .data, .data], laidTests := true, laidLooks := .later }
def WalPowerCardSaid : Prop := Claim7.holds Tryd.pinned (.plain (OpenSpec.ofChange walPowerSpec)) walPowerCard

/-- THE TIED CARD OF 'bullalaw18.WalPlays'. -/
def walPlaysCard : Claim7 := { stood := { row := walPlaysRow, standIns := [], harness := (true, "cfa54e4e6d67a0a9df1452d55ffe588a17a8cb2733a2abe24805fc1fd125c960"), looks := true }, kinds := [], alts := [], laidByText := true, laidKinds := [.sentinel, .sentinel, .sentinel, .sentinel, .sentinel, .sentinel, .sentinel, .sentinel, .sentinel, .sentinel, .sentinel, .sentinel, .sentinel, .sentinel, .sentinel, .sentinel, .sentinel, .sentinel, .sentinel, .sentinel, .sentinel, .sentinel, .sentinel, .sentinel, .sentinel, .sentinel, .sentinel, .sentinel, .data, .data], laidTests := true, laidLooks := .later }
def WalPlaysCardSaid : Prop := Claim7.holds Tryd.pinned (.plain (OpenSpec.ofChange walPlaysSpec)) walPlaysCard

/-- THE SECOND FORM's CARD OF 'bullalaw02.MacNumbers'. -/
def macNumbersUptoCard : Claim7 := { stood := { row := macNumbersUptoRow, standIns := [], harness := (true, "cfa54e4e6d67a0a9df1452d55ffe588a17a8cb2733a2abe24805fc1fd125c960"), looks := true }, kinds := [], alts := [], laidByText := true, laidKinds := [.sentinel, .sentinel, .sentinel, .sentinel, .sentinel, .sentinel, .sentinel, .sentinel, .sentinel, .sentinel, .sentinel, .sentinel, .sentinel, .sentinel, .sentinel, .sentinel, .sentinel, .sentinel, .sentinel, .sentinel, .sentinel, .sentinel, .sentinel, .sentinel, .sentinel, .sentinel, .sentinel, .sentinel], laidTests := true, laidLooks := .later }
def MacNumbersUptoCardSaid : Prop := Claim7.holds Tryd.pinned (.plain (OpenSpec.upto macNumbersSpec)) macNumbersUptoCard

/-- THE SECOND FORM's CARD OF 'bullalaw17.DiskKeeps'. -/
def diskKeepsUptoCard : Claim7 := { stood := { row := diskKeepsUptoRow, standIns := [], harness := (true, "cfa54e4e6d67a0a9df1452d55ffe588a17a8cb2733a2abe24805fc1fd125c960"), looks := true }, kinds := [], alts := [], laidByText := true, laidKinds := [.sentinel, .sentinel, .sentinel], laidTests := true, laidLooks := .later }
def DiskKeepsUptoCardSaid : Prop := Claim7.holds Tryd.pinned (.plain (OpenSpec.upto diskKeepsSpec)) diskKeepsUptoCard

/-- THE SECOND FORM's CARD OF 'bullalaw02.MacFrames'. -/
def macFramesUptoCard : Claim7 := { stood := { row := macFramesUptoRow, standIns := [], harness := (true, "cfa54e4e6d67a0a9df1452d55ffe588a17a8cb2733a2abe24805fc1fd125c960"), looks := true }, kinds := [], alts := [], laidByText := true, laidKinds := [.sentinel, .sentinel, .sentinel, .sentinel, .sentinel, .sentinel, .sentinel, .sentinel, .sentinel, .sentinel, .sentinel, .sentinel, .sentinel, .sentinel, .sentinel, .sentinel, .sentinel, .sentinel, .sentinel, .sentinel, .sentinel, .sentinel, .sentinel, .sentinel, .sentinel, .sentinel, .sentinel, .sentinel, .data, .data], laidTests := true, laidLooks := .later }
def MacFramesUptoCardSaid : Prop := Claim7.holds Tryd.pinned (.plain (OpenSpec.upto macFramesSpec)) macFramesUptoCard

/-- THE SECOND FORM's CARD OF 'bullalaw10.KeysCount'. -/
def keysCountUptoCard : Claim7 := { stood := { row := keysCountUptoRow, standIns := [], harness := (true, "cfa54e4e6d67a0a9df1452d55ffe588a17a8cb2733a2abe24805fc1fd125c960"), looks := true }, kinds := [], alts := [], laidByText := true, laidKinds := [.sentinel, .sentinel, .sentinel, .sentinel, .sentinel, .sentinel, .sentinel, .sentinel, .sentinel, .sentinel, .sentinel, .sentinel, .sentinel, .sentinel, .sentinel, .sentinel, .sentinel, .sentinel, .sentinel, .sentinel, .sentinel, .sentinel, .sentinel, .sentinel, .sentinel, .sentinel, .sentinel, .sentinel, .data, .data], laidTests := true, laidLooks := .later }
def KeysCountUptoCardSaid : Prop := Claim7.holds Tryd.pinned (.plain (OpenSpec.upto keysCountSpec)) keysCountUptoCard

/-- THE SECOND FORM's CARD OF 'bullalaw10.KeysMake'. -/
def keysMakeUptoCard : Claim7 := { stood := { row := keysMakeUptoRow, standIns := [], harness := (true, "cfa54e4e6d67a0a9df1452d55ffe588a17a8cb2733a2abe24805fc1fd125c960"), looks := true }, kinds := [], alts := [], laidByText := true, laidKinds := [.sentinel, .sentinel, .sentinel, .sentinel, .sentinel, .sentinel, .sentinel, .sentinel, .sentinel, .sentinel, .sentinel, .sentinel, .sentinel, .sentinel, .sentinel, .sentinel, .sentinel, .sentinel, .sentinel, .sentinel, .sentinel, .sentinel, .sentinel, .sentinel, .sentinel, .sentinel, .sentinel, .sentinel, .data, .data], laidTests := true, laidLooks := .later }
def KeysMakeUptoCardSaid : Prop := Claim7.holds Tryd.pinned (.plain (OpenSpec.upto keysMakeSpec)) keysMakeUptoCard

/-- THE SECOND FORM's CARD OF 'bullalaw10.KeysPlays'. -/
def keysPlaysUptoCard : Claim7 := { stood := { row := keysPlaysUptoRow, standIns := [], harness := (true, "cfa54e4e6d67a0a9df1452d55ffe588a17a8cb2733a2abe24805fc1fd125c960"), looks := true }, kinds := [], alts := [], laidByText := true, laidKinds := [.sentinel, .sentinel, .sentinel, .sentinel, .sentinel, .sentinel, .sentinel, .sentinel, .sentinel, .sentinel, .sentinel, .sentinel, .sentinel, .sentinel, .sentinel, .sentinel, .sentinel, .sentinel, .sentinel, .sentinel, .sentinel, .sentinel, .sentinel, .sentinel, .sentinel, .sentinel, .sentinel, .sentinel, .data, .data], laidTests := true, laidLooks := .later }
def KeysPlaysUptoCardSaid : Prop := Claim7.holds Tryd.pinned (.plain (OpenSpec.upto keysPlaysSpec)) keysPlaysUptoCard

/-- THE SECOND FORM's CARD OF 'bullalaw10.KeysSeal'. -/
def keysSealUptoCard : Claim7 := { stood := { row := keysSealUptoRow, standIns := [], harness := (true, "cfa54e4e6d67a0a9df1452d55ffe588a17a8cb2733a2abe24805fc1fd125c960"), looks := true }, kinds := [], alts := [], laidByText := true, laidKinds := [.sentinel, .sentinel, .sentinel, .sentinel, .sentinel, .sentinel, .sentinel, .sentinel, .sentinel, .sentinel, .sentinel, .sentinel, .sentinel, .sentinel, .sentinel, .sentinel, .sentinel, .sentinel, .sentinel, .sentinel, .sentinel, .sentinel, .sentinel, .sentinel, .sentinel, .sentinel, .sentinel, .sentinel, .data, .data], laidTests := true, laidLooks := .later }
def KeysSealUptoCardSaid : Prop := Claim7.holds Tryd.pinned (.plain (OpenSpec.upto keysSealSpec)) keysSealUptoCard

/-- THE SECOND FORM's CARD OF 'bullalaw18.WalAgain'. -/
def walAgainUptoCard : Claim7 := { stood := { row := walAgainUptoRow, standIns := [], harness := (true, "cfa54e4e6d67a0a9df1452d55ffe588a17a8cb2733a2abe24805fc1fd125c960"), looks := true }, kinds := [], alts := [], laidByText := true, laidKinds := [.sentinel, .sentinel, .sentinel, .sentinel, .sentinel, .data, .data], laidTests := true, laidLooks := .later }
def WalAgainUptoCardSaid : Prop := Claim7.holds Tryd.pinned (.plain (OpenSpec.upto walAgainSpec)) walAgainUptoCard

/-- THE SECOND FORM's CARD OF 'bullalaw18.WalPower'. -/
def walPowerUptoCard : Claim7 := { stood := { row := walPowerUptoRow, standIns := [], harness := (true, "cfa54e4e6d67a0a9df1452d55ffe588a17a8cb2733a2abe24805fc1fd125c960"), looks := true }, kinds := [], alts := [], laidByText := true, laidKinds := [.sentinel, .sentinel, .sentinel, .sentinel, .sentinel, .sentinel, .sentinel, .sentinel, .sentinel, .sentinel, .sentinel, .sentinel, .sentinel, .sentinel, .sentinel, .sentinel, .sentinel, .sentinel, .sentinel, .sentinel, .sentinel, .sentinel, .sentinel, .sentinel, .sentinel, .sentinel, .sentinel, .sentinel, .data, .data], laidTests := true, laidLooks := .later }
def WalPowerUptoCardSaid : Prop := Claim7.holds Tryd.pinned (.plain (OpenSpec.upto walPowerSpec)) walPowerUptoCard

/-- THE SECOND FORM's CARD OF 'bullalaw18.WalPlays'. -/
def walPlaysUptoCard : Claim7 := { stood := { row := walPlaysUptoRow, standIns := [], harness := (true, "cfa54e4e6d67a0a9df1452d55ffe588a17a8cb2733a2abe24805fc1fd125c960"), looks := true }, kinds := [], alts := [], laidByText := true, laidKinds := [.sentinel, .sentinel, .sentinel, .sentinel, .sentinel, .sentinel, .sentinel, .sentinel, .sentinel, .sentinel, .sentinel, .sentinel, .sentinel, .sentinel, .sentinel, .sentinel, .sentinel, .sentinel, .sentinel, .sentinel, .sentinel, .sentinel, .sentinel, .sentinel, .sentinel, .sentinel, .sentinel, .sentinel, .data, .data], laidTests := true, laidLooks := .later }
def WalPlaysUptoCardSaid : Prop := Claim7.holds Tryd.pinned (.plain (OpenSpec.upto walPlaysSpec)) walPlaysUptoCard
end Rows
end Go.Proofs.YtgiaifglkecdjaaDoor
