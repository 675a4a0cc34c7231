/-
  DERIVED. GIVEN WITH THE SEED: THE CARDS: each row of YtbpmigcbfbdnjaaDoorRows.lean that lists a variable, with what it lists TIED to the program's text (the seventh form; the later family's looks); each row that meets fmt, with fmt's text TOLD by the authors' own Lean function (tested against real Go, not proved from fmt's source: count such statements apart). THE CARD IS WHAT COUNTS. Prove the row's statement (the work); the ties are given (YtbpmigcbfbdnjaaDoorTie.lean); close each card by the builder's one call (the guide's Derived/Test/ToyasCard.lean, 'card_holds'). Laid BY PROGRAM, IN A SANDBOX (cutbox-door.mjs). By AI agents, Wed Nov 11 2026. No macro, syntax, notation, axiom, sorry.
-/
import Derived.Test.YtbpmigcbfbdnjaaDoorRows
import GoSem.ClaimSeven
namespace Go.Proofs.YtbpmigcbfbdnjaaDoor
namespace Rows

/-- THE TIED CARD OF 'bullalaw02.MacApart'. -/
def macApartCard : Claim7 := { stood := { row := macApartRow, standIns := [], harness := (true, "c73befd2dbd8db010ce0a4ada5451fa603733b70f9381831667f5b2ce6f8c434"), looks := true }, kinds := [], alts := [], laidByText := true, laidKinds := [.sentinel, .sentinel], laidTests := true, laidLooks := .later }
def MacApartCardSaid : Prop := Claim7.holds Tryd.pinned (.plain (OpenSpec.ofChange macApartSpec)) macApartCard

/-- THE TIED CARD OF 'bullalaw02.MacSame'. -/
def macSameCard : Claim7 := { stood := { row := macSameRow, standIns := [], harness := (true, "c73befd2dbd8db010ce0a4ada5451fa603733b70f9381831667f5b2ce6f8c434"), looks := true }, kinds := [], alts := [], laidByText := true, laidKinds := [.sentinel, .sentinel], laidTests := true, laidLooks := .later }
def MacSameCardSaid : Prop := Claim7.holds Tryd.pinned (.plain (OpenSpec.ofChange macSameSpec)) macSameCard

/-- THE TIED CARD OF 'bullalaw01.ShaConstants'. -/
def shaConstantsCard : Claim7 := { stood := { row := shaConstantsRow, standIns := [], harness := (true, "c73befd2dbd8db010ce0a4ada5451fa603733b70f9381831667f5b2ce6f8c434"), looks := true }, kinds := [], alts := [], laidByText := true, laidKinds := [.data, .data], laidTests := true, laidLooks := .later }
def ShaConstantsCardSaid : Prop := Claim7.holds Tryd.pinned (.plain (OpenSpec.ofChange shaConstantsSpec)) shaConstantsCard

/-- THE TIED CARD OF 'bullalaw01.ShaHash'. -/
def shaHashCard : Claim7 := { stood := { row := shaHashRow, standIns := [], harness := (true, "c73befd2dbd8db010ce0a4ada5451fa603733b70f9381831667f5b2ce6f8c434"), looks := true }, kinds := [], alts := [], laidByText := true, laidKinds := [.data, .data], laidTests := true, laidLooks := .later }
def ShaHashCardSaid : Prop := Claim7.holds Tryd.pinned (.plain (OpenSpec.ofChange shaHashSpec)) shaHashCard

/-- THE TIED CARD OF 'bullalaw01.ShaSum'. -/
def shaSumCard : Claim7 := { stood := { row := shaSumRow, standIns := [], harness := (true, "c73befd2dbd8db010ce0a4ada5451fa603733b70f9381831667f5b2ce6f8c434"), looks := true }, kinds := [], alts := [], laidByText := true, laidKinds := [.data, .data], laidTests := true, laidLooks := .later }
def ShaSumCardSaid : Prop := Claim7.holds Tryd.pinned (.plain (OpenSpec.ofChange shaSumSpec)) shaSumCard

/-- THE TIED CARD OF 'bullalaw02.MacNumbers'. -/
def macNumbersCard : Claim7 := { stood := { row := macNumbersRow, standIns := [], harness := (true, "c73befd2dbd8db010ce0a4ada5451fa603733b70f9381831667f5b2ce6f8c434"), looks := true }, kinds := [], alts := [], laidByText := true, laidKinds := [.sentinel, .sentinel, .sentinel, .sentinel, .sentinel, .sentinel, .sentinel, .sentinel, .sentinel, .sentinel, .sentinel, .sentinel, .sentinel, .sentinel, .sentinel, .sentinel, .sentinel, .sentinel, .sentinel, .sentinel, .sentinel, .sentinel, .sentinel, .sentinel, .sentinel, .sentinel, .sentinel, .sentinel], laidTests := true, laidLooks := .later }
def MacNumbersCardSaid : Prop := Claim7.holds Tryd.pinned (.plain (OpenSpec.ofChange macNumbersSpec)) macNumbersCard

/-- THE TIED CARD OF 'bullalaw17.DiskKeeps'. -/
def diskKeepsCard : Claim7 := { stood := { row := diskKeepsRow, standIns := [], harness := (true, "c73befd2dbd8db010ce0a4ada5451fa603733b70f9381831667f5b2ce6f8c434"), looks := true }, kinds := [], alts := [], laidByText := true, laidKinds := [.sentinel, .sentinel, .sentinel], laidTests := true, laidLooks := .later }
def DiskKeepsCardSaid : Prop := Claim7.holds Tryd.pinned (.plain (OpenSpec.ofChange diskKeepsSpec)) diskKeepsCard

/-- THE TIED CARD OF 'bullalaw02.MacSum'. -/
def macSumCard : Claim7 := { stood := { row := macSumRow, standIns := [], harness := (true, "c73befd2dbd8db010ce0a4ada5451fa603733b70f9381831667f5b2ce6f8c434"), looks := true }, kinds := [], alts := [], laidByText := true, laidKinds := [.sentinel, .sentinel, .data, .data], laidTests := true, laidLooks := .later }
def MacSumCardSaid : Prop := Claim7.holds Tryd.pinned (.plain (OpenSpec.ofChange macSumSpec)) macSumCard

/-- THE TIED CARD OF 'bullalaw02.MacFrames'. -/
def macFramesCard : Claim7 := { stood := { row := macFramesRow, standIns := [], harness := (true, "c73befd2dbd8db010ce0a4ada5451fa603733b70f9381831667f5b2ce6f8c434"), looks := true }, kinds := [], alts := [], laidByText := true, laidKinds := [.sentinel, .sentinel, .sentinel, .sentinel, .sentinel, .sentinel, .sentinel, .sentinel, .sentinel, .sentinel, .sentinel, .sentinel, .sentinel, .sentinel, .sentinel, .sentinel, .sentinel, .sentinel, .sentinel, .sentinel, .sentinel, .sentinel, .sentinel, .sentinel, .sentinel, .sentinel, .sentinel, .sentinel, .data, .data], laidTests := true, laidLooks := .later }
def MacFramesCardSaid : Prop := Claim7.holds Tryd.pinned (.plain (OpenSpec.ofChange macFramesSpec)) macFramesCard

/-- THE SECOND FORM's CARD OF 'bullalaw02.MacApart'. -/
def macApartUptoCard : Claim7 := { stood := { row := macApartUptoRow, standIns := [], harness := (true, "c73befd2dbd8db010ce0a4ada5451fa603733b70f9381831667f5b2ce6f8c434"), looks := true }, kinds := [], alts := [], laidByText := true, laidKinds := [.sentinel, .sentinel], laidTests := true, laidLooks := .later }
def MacApartUptoCardSaid : Prop := Claim7.holds Tryd.pinned (.plain (OpenSpec.upto macApartSpec)) macApartUptoCard

/-- THE SECOND FORM's CARD OF 'bullalaw02.MacSame'. -/
def macSameUptoCard : Claim7 := { stood := { row := macSameUptoRow, standIns := [], harness := (true, "c73befd2dbd8db010ce0a4ada5451fa603733b70f9381831667f5b2ce6f8c434"), looks := true }, kinds := [], alts := [], laidByText := true, laidKinds := [.sentinel, .sentinel], laidTests := true, laidLooks := .later }
def MacSameUptoCardSaid : Prop := Claim7.holds Tryd.pinned (.plain (OpenSpec.upto macSameSpec)) macSameUptoCard

/-- THE SECOND FORM's CARD OF 'bullalaw01.ShaConstants'. -/
def shaConstantsUptoCard : Claim7 := { stood := { row := shaConstantsUptoRow, standIns := [], harness := (true, "c73befd2dbd8db010ce0a4ada5451fa603733b70f9381831667f5b2ce6f8c434"), looks := true }, kinds := [], alts := [], laidByText := true, laidKinds := [.data, .data], laidTests := true, laidLooks := .later }
def ShaConstantsUptoCardSaid : Prop := Claim7.holds Tryd.pinned (.plain (OpenSpec.upto shaConstantsSpec)) shaConstantsUptoCard

/-- THE SECOND FORM's CARD OF 'bullalaw01.ShaHash'. -/
def shaHashUptoCard : Claim7 := { stood := { row := shaHashUptoRow, standIns := [], harness := (true, "c73befd2dbd8db010ce0a4ada5451fa603733b70f9381831667f5b2ce6f8c434"), looks := true }, kinds := [], alts := [], laidByText := true, laidKinds := [.data, .data], laidTests := true, laidLooks := .later }
def ShaHashUptoCardSaid : Prop := Claim7.holds Tryd.pinned (.plain (OpenSpec.upto shaHashSpec)) shaHashUptoCard

/-- THE SECOND FORM's CARD OF 'bullalaw01.ShaSum'. -/
def shaSumUptoCard : Claim7 := { stood := { row := shaSumUptoRow, standIns := [], harness := (true, "c73befd2dbd8db010ce0a4ada5451fa603733b70f9381831667f5b2ce6f8c434"), looks := true }, kinds := [], alts := [], laidByText := true, laidKinds := [.data, .data], laidTests := true, laidLooks := .later }
def ShaSumUptoCardSaid : Prop := Claim7.holds Tryd.pinned (.plain (OpenSpec.upto shaSumSpec)) shaSumUptoCard

/-- THE SECOND FORM's CARD OF 'bullalaw02.MacNumbers'. -/
def macNumbersUptoCard : Claim7 := { stood := { row := macNumbersUptoRow, standIns := [], harness := (true, "c73befd2dbd8db010ce0a4ada5451fa603733b70f9381831667f5b2ce6f8c434"), looks := true }, kinds := [], alts := [], laidByText := true, laidKinds := [.sentinel, .sentinel, .sentinel, .sentinel, .sentinel, .sentinel, .sentinel, .sentinel, .sentinel, .sentinel, .sentinel, .sentinel, .sentinel, .sentinel, .sentinel, .sentinel, .sentinel, .sentinel, .sentinel, .sentinel, .sentinel, .sentinel, .sentinel, .sentinel, .sentinel, .sentinel, .sentinel, .sentinel], laidTests := true, laidLooks := .later }
def MacNumbersUptoCardSaid : Prop := Claim7.holds Tryd.pinned (.plain (OpenSpec.upto macNumbersSpec)) macNumbersUptoCard

/-- THE SECOND FORM's CARD OF 'bullalaw17.DiskKeeps'. -/
def diskKeepsUptoCard : Claim7 := { stood := { row := diskKeepsUptoRow, standIns := [], harness := (true, "c73befd2dbd8db010ce0a4ada5451fa603733b70f9381831667f5b2ce6f8c434"), looks := true }, kinds := [], alts := [], laidByText := true, laidKinds := [.sentinel, .sentinel, .sentinel], laidTests := true, laidLooks := .later }
def DiskKeepsUptoCardSaid : Prop := Claim7.holds Tryd.pinned (.plain (OpenSpec.upto diskKeepsSpec)) diskKeepsUptoCard

/-- THE SECOND FORM's CARD OF 'bullalaw02.MacSum'. -/
def macSumUptoCard : Claim7 := { stood := { row := macSumUptoRow, standIns := [], harness := (true, "c73befd2dbd8db010ce0a4ada5451fa603733b70f9381831667f5b2ce6f8c434"), looks := true }, kinds := [], alts := [], laidByText := true, laidKinds := [.sentinel, .sentinel, .data, .data], laidTests := true, laidLooks := .later }
def MacSumUptoCardSaid : Prop := Claim7.holds Tryd.pinned (.plain (OpenSpec.upto macSumSpec)) macSumUptoCard

/-- THE SECOND FORM's CARD OF 'bullalaw02.MacFrames'. -/
def macFramesUptoCard : Claim7 := { stood := { row := macFramesUptoRow, standIns := [], harness := (true, "c73befd2dbd8db010ce0a4ada5451fa603733b70f9381831667f5b2ce6f8c434"), looks := true }, kinds := [], alts := [], laidByText := true, laidKinds := [.sentinel, .sentinel, .sentinel, .sentinel, .sentinel, .sentinel, .sentinel, .sentinel, .sentinel, .sentinel, .sentinel, .sentinel, .sentinel, .sentinel, .sentinel, .sentinel, .sentinel, .sentinel, .sentinel, .sentinel, .sentinel, .sentinel, .sentinel, .sentinel, .sentinel, .sentinel, .sentinel, .sentinel, .data, .data], laidTests := true, laidLooks := .later }
def MacFramesUptoCardSaid : Prop := Claim7.holds Tryd.pinned (.plain (OpenSpec.upto macFramesSpec)) macFramesUptoCard
end Rows
end Go.Proofs.YtbpmigcbfbdnjaaDoor
