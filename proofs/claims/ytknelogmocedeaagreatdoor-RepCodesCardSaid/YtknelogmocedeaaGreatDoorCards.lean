/-
  DERIVED. GIVEN WITH THE SEED: THE CARDS: each row of YtknelogmocedeaaGreatDoorRows.lean that lists a variable, with what it lists TIED to the program's text (the seventh form; the later family's looks); each row that meets fmt, with fmt's text TOLD by the authors' own Lean function (tested against real Go, not proved from fmt's source: count such statements apart). THE CARD IS WHAT COUNTS. Prove the row's statement (the work); the ties are given (YtknelogmocedeaaGreatDoorTie.lean); close each card by the builder's one call (the guide's Derived/Test/ToyasCard.lean, 'card_holds'). Laid BY PROGRAM, IN A SANDBOX (cutbox-door.mjs). By AI agents, Wed Nov 11 2026. No macro, syntax, notation, axiom, sorry.
-/
import Derived.Test.YtknelogmocedeaaGreatDoorRows
import GoSem.ClaimSeven
namespace Go.Proofs.YtknelogmocedeaaGreatDoor
namespace Rows

/-- THE TIED CARD OF 'latinerlaw10.PartLeast'. -/
def partLeastCard : Claim7 := { stood := { row := partLeastRow, standIns := [], harness := (true, "1007d8d70d012249d4649cf2eac79587dfa65c2d6caff6bf7b3f4965dfbb1aa5"), looks := true }, kinds := [], alts := [], laidByText := true, laidKinds := [.data, .handle, .sentinel, .sentinel, .sentinel, .sentinel, .sentinel, .sentinel, .sentinel, .sentinel, .sentinel, .sentinel, .sentinel, .sentinel, .sentinel, .pinned], laidTests := true, laidLooks := .later }
def PartLeastCardSaid : Prop := Claim7.holds Tryz.pinned (.plain (OpenSpec.ofChange partLeastSpec)) partLeastCard

/-- THE TIED CARD OF 'latinerlaw10.PartNames'. -/
def partNamesCard : Claim7 := { stood := { row := partNamesRow, standIns := [], harness := (true, "1007d8d70d012249d4649cf2eac79587dfa65c2d6caff6bf7b3f4965dfbb1aa5"), looks := true }, kinds := [], alts := [], laidByText := true, laidKinds := [.data, .handle, .sentinel, .sentinel, .sentinel, .sentinel, .sentinel, .sentinel, .sentinel, .sentinel, .sentinel, .sentinel, .sentinel, .sentinel, .sentinel, .pinned], laidTests := true, laidLooks := .later }
def PartNamesCardSaid : Prop := Claim7.holds Tryz.pinned (.plain (OpenSpec.ofChange partNamesSpec)) partNamesCard

/-- THE TIED CARD OF 'latinerlaw10.PartTrue'. -/
def partTrueCard : Claim7 := { stood := { row := partTrueRow, standIns := [], harness := (true, "1007d8d70d012249d4649cf2eac79587dfa65c2d6caff6bf7b3f4965dfbb1aa5"), looks := true }, kinds := [], alts := [], laidByText := true, laidKinds := [.data, .handle, .sentinel, .sentinel, .sentinel, .sentinel, .sentinel, .sentinel, .sentinel, .sentinel, .sentinel, .sentinel, .sentinel, .sentinel, .sentinel, .pinned], laidTests := true, laidLooks := .later }
def PartTrueCardSaid : Prop := Claim7.holds Tryz.pinned (.plain (OpenSpec.ofChange partTrueSpec)) partTrueCard

/-- THE TIED CARD OF 'latinerlaw10.PartBack'. -/
def partBackCard : Claim7 := { stood := { row := partBackRow, standIns := [], harness := (true, "1007d8d70d012249d4649cf2eac79587dfa65c2d6caff6bf7b3f4965dfbb1aa5"), looks := true }, kinds := [], alts := [], laidByText := true, laidKinds := [.data, .handle, .sentinel, .sentinel, .sentinel, .sentinel, .sentinel, .sentinel, .sentinel, .sentinel, .sentinel, .sentinel, .sentinel, .sentinel, .sentinel, .pinned], laidTests := true, laidLooks := .later }
def PartBackCardSaid : Prop := Claim7.holds Tryz.pinned (.plain (OpenSpec.ofChange partBackSpec)) partBackCard

/-- THE TIED CARD OF 'latinerlaw10.PartReads'. -/
def partReadsCard : Claim7 := { stood := { row := partReadsRow, standIns := [], harness := (true, "1007d8d70d012249d4649cf2eac79587dfa65c2d6caff6bf7b3f4965dfbb1aa5"), looks := true }, kinds := [], alts := [], laidByText := true, laidKinds := [.data, .handle, .sentinel, .sentinel, .sentinel, .sentinel, .sentinel, .sentinel, .sentinel, .sentinel, .sentinel, .sentinel, .sentinel, .sentinel, .sentinel, .pinned], laidTests := true, laidLooks := .later }
def PartReadsCardSaid : Prop := Claim7.holds Tryz.pinned (.plain (OpenSpec.ofChange partReadsSpec)) partReadsCard

/-- THE TIED CARD OF 'latinerlaw12.RepApart'. -/
def repApartCard : Claim7 := { stood := { row := repApartRow, standIns := [], harness := (true, "1007d8d70d012249d4649cf2eac79587dfa65c2d6caff6bf7b3f4965dfbb1aa5"), looks := true }, kinds := [], alts := [], laidByText := true, laidKinds := [.data, .handle, .sentinel, .sentinel, .sentinel, .sentinel, .sentinel, .sentinel, .sentinel, .sentinel, .sentinel, .sentinel, .sentinel, .sentinel, .sentinel, .sentinel, .pinned], laidTests := true, laidLooks := .later }
def RepApartCardSaid : Prop := Claim7.holds Tryz.pinned (.plain (OpenSpec.ofChange repApartSpec)) repApartCard

/-- THE TIED CARD OF 'latinerlaw12.RepCodes'. -/
def repCodesCard : Claim7 := { stood := { row := repCodesRow, standIns := [], harness := (true, "1007d8d70d012249d4649cf2eac79587dfa65c2d6caff6bf7b3f4965dfbb1aa5"), looks := true }, kinds := [], alts := [], laidByText := true, laidKinds := [.data, .handle, .sentinel, .sentinel, .sentinel, .sentinel, .sentinel, .sentinel, .sentinel, .sentinel, .sentinel, .sentinel, .sentinel, .sentinel, .sentinel, .sentinel, .pinned], laidTests := true, laidLooks := .later }
def RepCodesCardSaid : Prop := Claim7.holds Tryz.pinned (.plain (OpenSpec.ofChange repCodesSpec)) repCodesCard

/-- THE TIED CARD OF 'latinerlaw12.RepBack'. -/
def repBackCard : Claim7 := { stood := { row := repBackRow, standIns := [], harness := (true, "1007d8d70d012249d4649cf2eac79587dfa65c2d6caff6bf7b3f4965dfbb1aa5"), looks := true }, kinds := [], alts := [], laidByText := true, laidKinds := [.data, .handle, .sentinel, .sentinel, .sentinel, .sentinel, .sentinel, .sentinel, .sentinel, .sentinel, .sentinel, .sentinel, .sentinel, .sentinel, .sentinel, .sentinel, .pinned], laidTests := true, laidLooks := .later }
def RepBackCardSaid : Prop := Claim7.holds Tryz.pinned (.plain (OpenSpec.ofChange repBackSpec)) repBackCard

/-- THE SECOND FORM's CARD OF 'latinerlaw10.PartLeast'. -/
def partLeastUptoCard : Claim7 := { stood := { row := partLeastUptoRow, standIns := [], harness := (true, "1007d8d70d012249d4649cf2eac79587dfa65c2d6caff6bf7b3f4965dfbb1aa5"), looks := true }, kinds := [], alts := [], laidByText := true, laidKinds := [.data, .handle, .sentinel, .sentinel, .sentinel, .sentinel, .sentinel, .sentinel, .sentinel, .sentinel, .sentinel, .sentinel, .sentinel, .sentinel, .sentinel, .pinned], laidTests := true, laidLooks := .later }
def PartLeastUptoCardSaid : Prop := Claim7.holds Tryz.pinned (.plain (OpenSpec.upto partLeastSpec)) partLeastUptoCard

/-- THE SECOND FORM's CARD OF 'latinerlaw10.PartNames'. -/
def partNamesUptoCard : Claim7 := { stood := { row := partNamesUptoRow, standIns := [], harness := (true, "1007d8d70d012249d4649cf2eac79587dfa65c2d6caff6bf7b3f4965dfbb1aa5"), looks := true }, kinds := [], alts := [], laidByText := true, laidKinds := [.data, .handle, .sentinel, .sentinel, .sentinel, .sentinel, .sentinel, .sentinel, .sentinel, .sentinel, .sentinel, .sentinel, .sentinel, .sentinel, .sentinel, .pinned], laidTests := true, laidLooks := .later }
def PartNamesUptoCardSaid : Prop := Claim7.holds Tryz.pinned (.plain (OpenSpec.upto partNamesSpec)) partNamesUptoCard

/-- THE SECOND FORM's CARD OF 'latinerlaw10.PartTrue'. -/
def partTrueUptoCard : Claim7 := { stood := { row := partTrueUptoRow, standIns := [], harness := (true, "1007d8d70d012249d4649cf2eac79587dfa65c2d6caff6bf7b3f4965dfbb1aa5"), looks := true }, kinds := [], alts := [], laidByText := true, laidKinds := [.data, .handle, .sentinel, .sentinel, .sentinel, .sentinel, .sentinel, .sentinel, .sentinel, .sentinel, .sentinel, .sentinel, .sentinel, .sentinel, .sentinel, .pinned], laidTests := true, laidLooks := .later }
def PartTrueUptoCardSaid : Prop := Claim7.holds Tryz.pinned (.plain (OpenSpec.upto partTrueSpec)) partTrueUptoCard

/-- THE SECOND FORM's CARD OF 'latinerlaw10.PartBack'. -/
def partBackUptoCard : Claim7 := { stood := { row := partBackUptoRow, standIns := [], harness := (true, "1007d8d70d012249d4649cf2eac79587dfa65c2d6caff6bf7b3f4965dfbb1aa5"), looks := true }, kinds := [], alts := [], laidByText := true, laidKinds := [.data, .handle, .sentinel, .sentinel, .sentinel, .sentinel, .sentinel, .sentinel, .sentinel, .sentinel, .sentinel, .sentinel, .sentinel, .sentinel, .sentinel, .pinned], laidTests := true, laidLooks := .later }
def PartBackUptoCardSaid : Prop := Claim7.holds Tryz.pinned (.plain (OpenSpec.upto partBackSpec)) partBackUptoCard

/-- THE SECOND FORM's CARD OF 'latinerlaw10.PartReads'. -/
def partReadsUptoCard : Claim7 := { stood := { row := partReadsUptoRow, standIns := [], harness := (true, "1007d8d70d012249d4649cf2eac79587dfa65c2d6caff6bf7b3f4965dfbb1aa5"), looks := true }, kinds := [], alts := [], laidByText := true, laidKinds := [.data, .handle, .sentinel, .sentinel, .sentinel, .sentinel, .sentinel, .sentinel, .sentinel, .sentinel, .sentinel, .sentinel, .sentinel, .sentinel, .sentinel, .pinned], laidTests := true, laidLooks := .later }
def PartReadsUptoCardSaid : Prop := Claim7.holds Tryz.pinned (.plain (OpenSpec.upto partReadsSpec)) partReadsUptoCard

/-- THE SECOND FORM's CARD OF 'latinerlaw12.RepApart'. -/
def repApartUptoCard : Claim7 := { stood := { row := repApartUptoRow, standIns := [], harness := (true, "1007d8d70d012249d4649cf2eac79587dfa65c2d6caff6bf7b3f4965dfbb1aa5"), looks := true }, kinds := [], alts := [], laidByText := true, laidKinds := [.data, .handle, .sentinel, .sentinel, .sentinel, .sentinel, .sentinel, .sentinel, .sentinel, .sentinel, .sentinel, .sentinel, .sentinel, .sentinel, .sentinel, .sentinel, .pinned], laidTests := true, laidLooks := .later }
def RepApartUptoCardSaid : Prop := Claim7.holds Tryz.pinned (.plain (OpenSpec.upto repApartSpec)) repApartUptoCard

/-- THE SECOND FORM's CARD OF 'latinerlaw12.RepCodes'. -/
def repCodesUptoCard : Claim7 := { stood := { row := repCodesUptoRow, standIns := [], harness := (true, "1007d8d70d012249d4649cf2eac79587dfa65c2d6caff6bf7b3f4965dfbb1aa5"), looks := true }, kinds := [], alts := [], laidByText := true, laidKinds := [.data, .handle, .sentinel, .sentinel, .sentinel, .sentinel, .sentinel, .sentinel, .sentinel, .sentinel, .sentinel, .sentinel, .sentinel, .sentinel, .sentinel, .sentinel, .pinned], laidTests := true, laidLooks := .later }
def RepCodesUptoCardSaid : Prop := Claim7.holds Tryz.pinned (.plain (OpenSpec.upto repCodesSpec)) repCodesUptoCard

/-- THE SECOND FORM's CARD OF 'latinerlaw12.RepBack'. -/
def repBackUptoCard : Claim7 := { stood := { row := repBackUptoRow, standIns := [], harness := (true, "1007d8d70d012249d4649cf2eac79587dfa65c2d6caff6bf7b3f4965dfbb1aa5"), looks := true }, kinds := [], alts := [], laidByText := true, laidKinds := [.data, .handle, .sentinel, .sentinel, .sentinel, .sentinel, .sentinel, .sentinel, .sentinel, .sentinel, .sentinel, .sentinel, .sentinel, .sentinel, .sentinel, .sentinel, .pinned], laidTests := true, laidLooks := .later }
def RepBackUptoCardSaid : Prop := Claim7.holds Tryz.pinned (.plain (OpenSpec.upto repBackSpec)) repBackUptoCard
end Rows
end Go.Proofs.YtknelogmocedeaaGreatDoor
