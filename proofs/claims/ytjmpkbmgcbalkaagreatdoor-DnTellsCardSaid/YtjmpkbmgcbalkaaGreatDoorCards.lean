/-
  DERIVED. GIVEN WITH THE SEED: THE CARDS: each row of YtjmpkbmgcbalkaaGreatDoorRows.lean that lists a variable, with what it lists TIED to the program's text (the seventh form; the later family's looks); each row that meets fmt, with fmt's text TOLD by the authors' own Lean function (tested against real Go, not proved from fmt's source: count such statements apart). THE CARD IS WHAT COUNTS. Prove the row's statement (the work); the ties are given (YtjmpkbmgcbalkaaGreatDoorTie.lean); close each card by the builder's one call (the guide's Derived/Test/ToyasCard.lean, 'card_holds'). Laid BY PROGRAM, IN A SANDBOX (cutbox-door.mjs). By AI agents, Wed Nov 11 2026. No macro, syntax, notation, axiom, sorry.
-/
import Derived.Test.YtjmpkbmgcbalkaaGreatDoorRows
import GoSem.ClaimSeven
namespace Go.Proofs.YtjmpkbmgcbalkaaGreatDoor
namespace Rows

/-- THE TIED CARD OF 'latinerlaw07.DnTells'. -/
def dnTellsCard : Claim7 := { stood := { row := dnTellsRow, standIns := [], harness := (true, "309c7523b3a6eb195fa05915c45c627cd189833786b220d79e50010db1ddc8a5"), looks := true }, kinds := [], alts := [], laidByText := true, laidKinds := [.data, .handle, .sentinel, .sentinel, .sentinel, .pinned], laidTests := true, laidLooks := .later }
def DnTellsCardSaid : Prop := Claim7.holds Tryz.pinned (.plain (OpenSpec.ofChange dnTellsSpec)) dnTellsCard

/-- THE TIED CARD OF 'latinerlaw07.DnBack'. -/
def dnBackCard : Claim7 := { stood := { row := dnBackRow, standIns := [], harness := (true, "309c7523b3a6eb195fa05915c45c627cd189833786b220d79e50010db1ddc8a5"), looks := true }, kinds := [], alts := [], laidByText := true, laidKinds := [.data, .handle, .sentinel, .sentinel, .sentinel, .pinned], laidTests := true, laidLooks := .later }
def DnBackCardSaid : Prop := Claim7.holds Tryz.pinned (.plain (OpenSpec.ofChange dnBackSpec)) dnBackCard

/-- THE TIED CARD OF 'latinerlaw07.DnUnder'. -/
def dnUnderCard : Claim7 := { stood := { row := dnUnderRow, standIns := [], harness := (true, "309c7523b3a6eb195fa05915c45c627cd189833786b220d79e50010db1ddc8a5"), looks := true }, kinds := [], alts := [], laidByText := true, laidKinds := [.data, .handle, .sentinel, .sentinel, .sentinel, .pinned], laidTests := true, laidLooks := .later }
def DnUnderCardSaid : Prop := Claim7.holds Tryz.pinned (.plain (OpenSpec.ofChange dnUnderSpec)) dnUnderCard

/-- THE TIED CARD OF 'latinerlaw07.DnJoins'. -/
def dnJoinsCard : Claim7 := { stood := { row := dnJoinsRow, standIns := [], harness := (true, "309c7523b3a6eb195fa05915c45c627cd189833786b220d79e50010db1ddc8a5"), looks := true }, kinds := [], alts := [], laidByText := true, laidKinds := [.data, .handle, .sentinel, .sentinel, .sentinel, .pinned], laidTests := true, laidLooks := .later }
def DnJoinsCardSaid : Prop := Claim7.holds Tryz.pinned (.plain (OpenSpec.ofChange dnJoinsSpec)) dnJoinsCard

/-- THE TIED CARD OF 'latinerlaw07.DnParents'. -/
def dnParentsCard : Claim7 := { stood := { row := dnParentsRow, standIns := [], harness := (true, "309c7523b3a6eb195fa05915c45c627cd189833786b220d79e50010db1ddc8a5"), looks := true }, kinds := [], alts := [], laidByText := true, laidKinds := [.data, .handle, .sentinel, .sentinel, .sentinel, .pinned], laidTests := true, laidLooks := .later }
def DnParentsCardSaid : Prop := Claim7.holds Tryz.pinned (.plain (OpenSpec.ofChange dnParentsSpec)) dnParentsCard

/-- THE TIED CARD OF 'latinerlaw07.DnValues'. -/
def dnValuesCard : Claim7 := { stood := { row := dnValuesRow, standIns := [], harness := (true, "309c7523b3a6eb195fa05915c45c627cd189833786b220d79e50010db1ddc8a5"), looks := true }, kinds := [], alts := [], laidByText := true, laidKinds := [.data, .handle, .sentinel, .sentinel, .sentinel, .pinned], laidTests := true, laidLooks := .later }
def DnValuesCardSaid : Prop := Claim7.holds Tryz.pinned (.plain (OpenSpec.ofChange dnValuesSpec)) dnValuesCard

/-- THE TIED CARD OF 'latinerlaw07.DnDigits'. -/
def dnDigitsCard : Claim7 := { stood := { row := dnDigitsRow, standIns := [], harness := (true, "309c7523b3a6eb195fa05915c45c627cd189833786b220d79e50010db1ddc8a5"), looks := true }, kinds := [], alts := [], laidByText := true, laidKinds := [.data, .handle, .sentinel, .sentinel, .sentinel, .pinned], laidTests := true, laidLooks := .later }
def DnDigitsCardSaid : Prop := Claim7.holds Tryz.pinned (.plain (OpenSpec.ofChange dnDigitsSpec)) dnDigitsCard

/-- THE SECOND FORM's CARD OF 'latinerlaw07.DnTells'. -/
def dnTellsUptoCard : Claim7 := { stood := { row := dnTellsUptoRow, standIns := [], harness := (true, "309c7523b3a6eb195fa05915c45c627cd189833786b220d79e50010db1ddc8a5"), looks := true }, kinds := [], alts := [], laidByText := true, laidKinds := [.data, .handle, .sentinel, .sentinel, .sentinel, .pinned], laidTests := true, laidLooks := .later }
def DnTellsUptoCardSaid : Prop := Claim7.holds Tryz.pinned (.plain (OpenSpec.upto dnTellsSpec)) dnTellsUptoCard

/-- THE SECOND FORM's CARD OF 'latinerlaw07.DnBack'. -/
def dnBackUptoCard : Claim7 := { stood := { row := dnBackUptoRow, standIns := [], harness := (true, "309c7523b3a6eb195fa05915c45c627cd189833786b220d79e50010db1ddc8a5"), looks := true }, kinds := [], alts := [], laidByText := true, laidKinds := [.data, .handle, .sentinel, .sentinel, .sentinel, .pinned], laidTests := true, laidLooks := .later }
def DnBackUptoCardSaid : Prop := Claim7.holds Tryz.pinned (.plain (OpenSpec.upto dnBackSpec)) dnBackUptoCard

/-- THE SECOND FORM's CARD OF 'latinerlaw07.DnUnder'. -/
def dnUnderUptoCard : Claim7 := { stood := { row := dnUnderUptoRow, standIns := [], harness := (true, "309c7523b3a6eb195fa05915c45c627cd189833786b220d79e50010db1ddc8a5"), looks := true }, kinds := [], alts := [], laidByText := true, laidKinds := [.data, .handle, .sentinel, .sentinel, .sentinel, .pinned], laidTests := true, laidLooks := .later }
def DnUnderUptoCardSaid : Prop := Claim7.holds Tryz.pinned (.plain (OpenSpec.upto dnUnderSpec)) dnUnderUptoCard

/-- THE SECOND FORM's CARD OF 'latinerlaw07.DnJoins'. -/
def dnJoinsUptoCard : Claim7 := { stood := { row := dnJoinsUptoRow, standIns := [], harness := (true, "309c7523b3a6eb195fa05915c45c627cd189833786b220d79e50010db1ddc8a5"), looks := true }, kinds := [], alts := [], laidByText := true, laidKinds := [.data, .handle, .sentinel, .sentinel, .sentinel, .pinned], laidTests := true, laidLooks := .later }
def DnJoinsUptoCardSaid : Prop := Claim7.holds Tryz.pinned (.plain (OpenSpec.upto dnJoinsSpec)) dnJoinsUptoCard

/-- THE SECOND FORM's CARD OF 'latinerlaw07.DnParents'. -/
def dnParentsUptoCard : Claim7 := { stood := { row := dnParentsUptoRow, standIns := [], harness := (true, "309c7523b3a6eb195fa05915c45c627cd189833786b220d79e50010db1ddc8a5"), looks := true }, kinds := [], alts := [], laidByText := true, laidKinds := [.data, .handle, .sentinel, .sentinel, .sentinel, .pinned], laidTests := true, laidLooks := .later }
def DnParentsUptoCardSaid : Prop := Claim7.holds Tryz.pinned (.plain (OpenSpec.upto dnParentsSpec)) dnParentsUptoCard

/-- THE SECOND FORM's CARD OF 'latinerlaw07.DnValues'. -/
def dnValuesUptoCard : Claim7 := { stood := { row := dnValuesUptoRow, standIns := [], harness := (true, "309c7523b3a6eb195fa05915c45c627cd189833786b220d79e50010db1ddc8a5"), looks := true }, kinds := [], alts := [], laidByText := true, laidKinds := [.data, .handle, .sentinel, .sentinel, .sentinel, .pinned], laidTests := true, laidLooks := .later }
def DnValuesUptoCardSaid : Prop := Claim7.holds Tryz.pinned (.plain (OpenSpec.upto dnValuesSpec)) dnValuesUptoCard

/-- THE SECOND FORM's CARD OF 'latinerlaw07.DnDigits'. -/
def dnDigitsUptoCard : Claim7 := { stood := { row := dnDigitsUptoRow, standIns := [], harness := (true, "309c7523b3a6eb195fa05915c45c627cd189833786b220d79e50010db1ddc8a5"), looks := true }, kinds := [], alts := [], laidByText := true, laidKinds := [.data, .handle, .sentinel, .sentinel, .sentinel, .pinned], laidTests := true, laidLooks := .later }
def DnDigitsUptoCardSaid : Prop := Claim7.holds Tryz.pinned (.plain (OpenSpec.upto dnDigitsSpec)) dnDigitsUptoCard
end Rows
end Go.Proofs.YtjmpkbmgcbalkaaGreatDoor
