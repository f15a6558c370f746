/-
  DERIVED. GIVEN WITH THE SEED: THE CARDS: each row of YtiafggoaedifdaaGreatDoorRows.lean that lists a variable, with what it lists TIED to the program's text (the seventh form; the later family's looks); each row that meets fmt, with fmt's text TOLD by the authors' own Lean function (tested against real Go, not proved from fmt's source: count such statements apart). THE CARD IS WHAT COUNTS. Prove the row's statement (the work); the ties are given (YtiafggoaedifdaaGreatDoorTie.lean); close each card by the builder's one call (the guide's Derived/Test/ToyasCard.lean, 'card_holds'). Laid BY PROGRAM, IN A SANDBOX (cutbox-door.mjs). By AI agents, Wed Nov 11 2026. No macro, syntax, notation, axiom, sorry.
-/
import Derived.Test.YtiafggoaedifdaaGreatDoorRows
import GoSem.ClaimSeven
namespace Go.Proofs.YtiafggoaedifdaaGreatDoor
namespace Rows

/-- THE TIED CARD OF 'latinerlaw08.FiltBack'. -/
def filtBackCard : Claim7 := { stood := { row := filtBackRow, standIns := [], harness := (true, "4751b1e3f45089f29b6b23f7798ec4e29095612f1d1df236becae706f00386d3"), looks := true }, kinds := [], alts := [], laidByText := true, laidKinds := [.data, .handle, .sentinel, .sentinel, .sentinel, .pinned], laidTests := true, laidLooks := .later }
def FiltBackCardSaid : Prop := Claim7.holds Tryz.pinned (.plain (OpenSpec.ofChange filtBackSpec)) filtBackCard

/-- THE TIED CARD OF 'latinerlaw08.FiltWraps'. -/
def filtWrapsCard : Claim7 := { stood := { row := filtWrapsRow, standIns := [], harness := (true, "4751b1e3f45089f29b6b23f7798ec4e29095612f1d1df236becae706f00386d3"), looks := true }, kinds := [], alts := [], laidByText := true, laidKinds := [.data, .handle, .sentinel, .sentinel, .sentinel, .pinned], laidTests := true, laidLooks := .later }
def FiltWrapsCardSaid : Prop := Claim7.holds Tryz.pinned (.plain (OpenSpec.ofChange filtWrapsSpec)) filtWrapsCard

/-- THE TIED CARD OF 'latinerlaw08.FiltItems'. -/
def filtItemsCard : Claim7 := { stood := { row := filtItemsRow, standIns := [], harness := (true, "4751b1e3f45089f29b6b23f7798ec4e29095612f1d1df236becae706f00386d3"), looks := true }, kinds := [], alts := [], laidByText := true, laidKinds := [.data, .handle, .sentinel, .sentinel, .sentinel, .pinned], laidTests := true, laidLooks := .later }
def FiltItemsCardSaid : Prop := Claim7.holds Tryz.pinned (.plain (OpenSpec.ofChange filtItemsSpec)) filtItemsCard

/-- THE TIED CARD OF 'latinerlaw08.FiltSets'. -/
def filtSetsCard : Claim7 := { stood := { row := filtSetsRow, standIns := [], harness := (true, "4751b1e3f45089f29b6b23f7798ec4e29095612f1d1df236becae706f00386d3"), looks := true }, kinds := [], alts := [], laidByText := true, laidKinds := [.data, .handle, .sentinel, .sentinel, .sentinel, .pinned], laidTests := true, laidLooks := .later }
def FiltSetsCardSaid : Prop := Claim7.holds Tryz.pinned (.plain (OpenSpec.ofChange filtSetsSpec)) filtSetsCard

/-- THE TIED CARD OF 'latinerlaw08.FiltStars'. -/
def filtStarsCard : Claim7 := { stood := { row := filtStarsRow, standIns := [], harness := (true, "4751b1e3f45089f29b6b23f7798ec4e29095612f1d1df236becae706f00386d3"), looks := true }, kinds := [], alts := [], laidByText := true, laidKinds := [.data, .handle, .sentinel, .sentinel, .sentinel, .pinned], laidTests := true, laidLooks := .later }
def FiltStarsCardSaid : Prop := Claim7.holds Tryz.pinned (.plain (OpenSpec.ofChange filtStarsSpec)) filtStarsCard

/-- THE TIED CARD OF 'latinerlaw08.FiltNames'. -/
def filtNamesCard : Claim7 := { stood := { row := filtNamesRow, standIns := [], harness := (true, "4751b1e3f45089f29b6b23f7798ec4e29095612f1d1df236becae706f00386d3"), looks := true }, kinds := [], alts := [], laidByText := true, laidKinds := [.data, .handle, .sentinel, .sentinel, .sentinel, .pinned], laidTests := true, laidLooks := .later }
def FiltNamesCardSaid : Prop := Claim7.holds Tryz.pinned (.plain (OpenSpec.ofChange filtNamesSpec)) filtNamesCard

/-- THE TIED CARD OF 'latinerlaw08.FiltDigits'. -/
def filtDigitsCard : Claim7 := { stood := { row := filtDigitsRow, standIns := [], harness := (true, "4751b1e3f45089f29b6b23f7798ec4e29095612f1d1df236becae706f00386d3"), looks := true }, kinds := [], alts := [], laidByText := true, laidKinds := [.data, .handle, .sentinel, .sentinel, .sentinel, .pinned], laidTests := true, laidLooks := .later }
def FiltDigitsCardSaid : Prop := Claim7.holds Tryz.pinned (.plain (OpenSpec.ofChange filtDigitsSpec)) filtDigitsCard

/-- THE TIED CARD OF 'latinerlaw09.FberReads'. -/
def fberReadsCard : Claim7 := { stood := { row := fberReadsRow, standIns := [], harness := (true, "4751b1e3f45089f29b6b23f7798ec4e29095612f1d1df236becae706f00386d3"), looks := true }, kinds := [], alts := [], laidByText := true, laidKinds := [.data, .handle, .sentinel, .sentinel, .sentinel, .sentinel, .sentinel, .sentinel, .sentinel, .sentinel, .sentinel, .pinned], laidTests := true, laidLooks := .later }
def FberReadsCardSaid : Prop := Claim7.holds Tryz.pinned (.plain (OpenSpec.ofChange fberReadsSpec)) fberReadsCard

/-- THE TIED CARD OF 'latinerlaw09.FberSets'. -/
def fberSetsCard : Claim7 := { stood := { row := fberSetsRow, standIns := [], harness := (true, "4751b1e3f45089f29b6b23f7798ec4e29095612f1d1df236becae706f00386d3"), looks := true }, kinds := [], alts := [], laidByText := true, laidKinds := [.data, .handle, .sentinel, .sentinel, .sentinel, .sentinel, .sentinel, .sentinel, .sentinel, .sentinel, .sentinel, .pinned], laidTests := true, laidLooks := .later }
def FberSetsCardSaid : Prop := Claim7.holds Tryz.pinned (.plain (OpenSpec.ofChange fberSetsSpec)) fberSetsCard

/-- THE TIED CARD OF 'latinerlaw09.FberNots'. -/
def fberNotsCard : Claim7 := { stood := { row := fberNotsRow, standIns := [], harness := (true, "4751b1e3f45089f29b6b23f7798ec4e29095612f1d1df236becae706f00386d3"), looks := true }, kinds := [], alts := [], laidByText := true, laidKinds := [.data, .handle, .sentinel, .sentinel, .sentinel, .sentinel, .sentinel, .sentinel, .sentinel, .sentinel, .sentinel, .pinned], laidTests := true, laidLooks := .later }
def FberNotsCardSaid : Prop := Claim7.holds Tryz.pinned (.plain (OpenSpec.ofChange fberNotsSpec)) fberNotsCard

/-- THE TIED CARD OF 'latinerlaw09.FberBack'. -/
def fberBackCard : Claim7 := { stood := { row := fberBackRow, standIns := [], harness := (true, "4751b1e3f45089f29b6b23f7798ec4e29095612f1d1df236becae706f00386d3"), looks := true }, kinds := [], alts := [], laidByText := true, laidKinds := [.data, .handle, .sentinel, .sentinel, .sentinel, .sentinel, .sentinel, .sentinel, .sentinel, .sentinel, .sentinel, .pinned], laidTests := true, laidLooks := .later }
def FberBackCardSaid : Prop := Claim7.holds Tryz.pinned (.plain (OpenSpec.ofChange fberBackSpec)) fberBackCard

/-- THE TIED CARD OF 'latinerlaw09.FberApart'. -/
def fberApartCard : Claim7 := { stood := { row := fberApartRow, standIns := [], harness := (true, "4751b1e3f45089f29b6b23f7798ec4e29095612f1d1df236becae706f00386d3"), looks := true }, kinds := [], alts := [], laidByText := true, laidKinds := [.data, .handle, .sentinel, .sentinel, .sentinel, .sentinel, .sentinel, .sentinel, .sentinel, .sentinel, .sentinel, .pinned], laidTests := true, laidLooks := .later }
def FberApartCardSaid : Prop := Claim7.holds Tryz.pinned (.plain (OpenSpec.ofChange fberApartSpec)) fberApartCard

/-- THE TIED CARD OF 'latinerlaw09.FberTexts'. -/
def fberTextsCard : Claim7 := { stood := { row := fberTextsRow, standIns := [], harness := (true, "4751b1e3f45089f29b6b23f7798ec4e29095612f1d1df236becae706f00386d3"), looks := true }, kinds := [], alts := [], laidByText := true, laidKinds := [.data, .handle, .sentinel, .sentinel, .sentinel, .sentinel, .sentinel, .sentinel, .sentinel, .sentinel, .sentinel, .sentinel, .sentinel, .pinned], laidTests := true, laidLooks := .later }
def FberTextsCardSaid : Prop := Claim7.holds Tryz.pinned (.plain (OpenSpec.ofChange fberTextsSpec)) fberTextsCard

/-- THE SECOND FORM's CARD OF 'latinerlaw08.FiltBack'. -/
def filtBackUptoCard : Claim7 := { stood := { row := filtBackUptoRow, standIns := [], harness := (true, "4751b1e3f45089f29b6b23f7798ec4e29095612f1d1df236becae706f00386d3"), looks := true }, kinds := [], alts := [], laidByText := true, laidKinds := [.data, .handle, .sentinel, .sentinel, .sentinel, .pinned], laidTests := true, laidLooks := .later }
def FiltBackUptoCardSaid : Prop := Claim7.holds Tryz.pinned (.plain (OpenSpec.upto filtBackSpec)) filtBackUptoCard

/-- THE SECOND FORM's CARD OF 'latinerlaw08.FiltWraps'. -/
def filtWrapsUptoCard : Claim7 := { stood := { row := filtWrapsUptoRow, standIns := [], harness := (true, "4751b1e3f45089f29b6b23f7798ec4e29095612f1d1df236becae706f00386d3"), looks := true }, kinds := [], alts := [], laidByText := true, laidKinds := [.data, .handle, .sentinel, .sentinel, .sentinel, .pinned], laidTests := true, laidLooks := .later }
def FiltWrapsUptoCardSaid : Prop := Claim7.holds Tryz.pinned (.plain (OpenSpec.upto filtWrapsSpec)) filtWrapsUptoCard

/-- THE SECOND FORM's CARD OF 'latinerlaw08.FiltItems'. -/
def filtItemsUptoCard : Claim7 := { stood := { row := filtItemsUptoRow, standIns := [], harness := (true, "4751b1e3f45089f29b6b23f7798ec4e29095612f1d1df236becae706f00386d3"), looks := true }, kinds := [], alts := [], laidByText := true, laidKinds := [.data, .handle, .sentinel, .sentinel, .sentinel, .pinned], laidTests := true, laidLooks := .later }
def FiltItemsUptoCardSaid : Prop := Claim7.holds Tryz.pinned (.plain (OpenSpec.upto filtItemsSpec)) filtItemsUptoCard

/-- THE SECOND FORM's CARD OF 'latinerlaw08.FiltSets'. -/
def filtSetsUptoCard : Claim7 := { stood := { row := filtSetsUptoRow, standIns := [], harness := (true, "4751b1e3f45089f29b6b23f7798ec4e29095612f1d1df236becae706f00386d3"), looks := true }, kinds := [], alts := [], laidByText := true, laidKinds := [.data, .handle, .sentinel, .sentinel, .sentinel, .pinned], laidTests := true, laidLooks := .later }
def FiltSetsUptoCardSaid : Prop := Claim7.holds Tryz.pinned (.plain (OpenSpec.upto filtSetsSpec)) filtSetsUptoCard

/-- THE SECOND FORM's CARD OF 'latinerlaw08.FiltStars'. -/
def filtStarsUptoCard : Claim7 := { stood := { row := filtStarsUptoRow, standIns := [], harness := (true, "4751b1e3f45089f29b6b23f7798ec4e29095612f1d1df236becae706f00386d3"), looks := true }, kinds := [], alts := [], laidByText := true, laidKinds := [.data, .handle, .sentinel, .sentinel, .sentinel, .pinned], laidTests := true, laidLooks := .later }
def FiltStarsUptoCardSaid : Prop := Claim7.holds Tryz.pinned (.plain (OpenSpec.upto filtStarsSpec)) filtStarsUptoCard

/-- THE SECOND FORM's CARD OF 'latinerlaw08.FiltNames'. -/
def filtNamesUptoCard : Claim7 := { stood := { row := filtNamesUptoRow, standIns := [], harness := (true, "4751b1e3f45089f29b6b23f7798ec4e29095612f1d1df236becae706f00386d3"), looks := true }, kinds := [], alts := [], laidByText := true, laidKinds := [.data, .handle, .sentinel, .sentinel, .sentinel, .pinned], laidTests := true, laidLooks := .later }
def FiltNamesUptoCardSaid : Prop := Claim7.holds Tryz.pinned (.plain (OpenSpec.upto filtNamesSpec)) filtNamesUptoCard

/-- THE SECOND FORM's CARD OF 'latinerlaw08.FiltDigits'. -/
def filtDigitsUptoCard : Claim7 := { stood := { row := filtDigitsUptoRow, standIns := [], harness := (true, "4751b1e3f45089f29b6b23f7798ec4e29095612f1d1df236becae706f00386d3"), looks := true }, kinds := [], alts := [], laidByText := true, laidKinds := [.data, .handle, .sentinel, .sentinel, .sentinel, .pinned], laidTests := true, laidLooks := .later }
def FiltDigitsUptoCardSaid : Prop := Claim7.holds Tryz.pinned (.plain (OpenSpec.upto filtDigitsSpec)) filtDigitsUptoCard

/-- THE SECOND FORM's CARD OF 'latinerlaw09.FberReads'. -/
def fberReadsUptoCard : Claim7 := { stood := { row := fberReadsUptoRow, standIns := [], harness := (true, "4751b1e3f45089f29b6b23f7798ec4e29095612f1d1df236becae706f00386d3"), looks := true }, kinds := [], alts := [], laidByText := true, laidKinds := [.data, .handle, .sentinel, .sentinel, .sentinel, .sentinel, .sentinel, .sentinel, .sentinel, .sentinel, .sentinel, .pinned], laidTests := true, laidLooks := .later }
def FberReadsUptoCardSaid : Prop := Claim7.holds Tryz.pinned (.plain (OpenSpec.upto fberReadsSpec)) fberReadsUptoCard

/-- THE SECOND FORM's CARD OF 'latinerlaw09.FberSets'. -/
def fberSetsUptoCard : Claim7 := { stood := { row := fberSetsUptoRow, standIns := [], harness := (true, "4751b1e3f45089f29b6b23f7798ec4e29095612f1d1df236becae706f00386d3"), looks := true }, kinds := [], alts := [], laidByText := true, laidKinds := [.data, .handle, .sentinel, .sentinel, .sentinel, .sentinel, .sentinel, .sentinel, .sentinel, .sentinel, .sentinel, .pinned], laidTests := true, laidLooks := .later }
def FberSetsUptoCardSaid : Prop := Claim7.holds Tryz.pinned (.plain (OpenSpec.upto fberSetsSpec)) fberSetsUptoCard

/-- THE SECOND FORM's CARD OF 'latinerlaw09.FberNots'. -/
def fberNotsUptoCard : Claim7 := { stood := { row := fberNotsUptoRow, standIns := [], harness := (true, "4751b1e3f45089f29b6b23f7798ec4e29095612f1d1df236becae706f00386d3"), looks := true }, kinds := [], alts := [], laidByText := true, laidKinds := [.data, .handle, .sentinel, .sentinel, .sentinel, .sentinel, .sentinel, .sentinel, .sentinel, .sentinel, .sentinel, .pinned], laidTests := true, laidLooks := .later }
def FberNotsUptoCardSaid : Prop := Claim7.holds Tryz.pinned (.plain (OpenSpec.upto fberNotsSpec)) fberNotsUptoCard

/-- THE SECOND FORM's CARD OF 'latinerlaw09.FberBack'. -/
def fberBackUptoCard : Claim7 := { stood := { row := fberBackUptoRow, standIns := [], harness := (true, "4751b1e3f45089f29b6b23f7798ec4e29095612f1d1df236becae706f00386d3"), looks := true }, kinds := [], alts := [], laidByText := true, laidKinds := [.data, .handle, .sentinel, .sentinel, .sentinel, .sentinel, .sentinel, .sentinel, .sentinel, .sentinel, .sentinel, .pinned], laidTests := true, laidLooks := .later }
def FberBackUptoCardSaid : Prop := Claim7.holds Tryz.pinned (.plain (OpenSpec.upto fberBackSpec)) fberBackUptoCard

/-- THE SECOND FORM's CARD OF 'latinerlaw09.FberApart'. -/
def fberApartUptoCard : Claim7 := { stood := { row := fberApartUptoRow, standIns := [], harness := (true, "4751b1e3f45089f29b6b23f7798ec4e29095612f1d1df236becae706f00386d3"), looks := true }, kinds := [], alts := [], laidByText := true, laidKinds := [.data, .handle, .sentinel, .sentinel, .sentinel, .sentinel, .sentinel, .sentinel, .sentinel, .sentinel, .sentinel, .pinned], laidTests := true, laidLooks := .later }
def FberApartUptoCardSaid : Prop := Claim7.holds Tryz.pinned (.plain (OpenSpec.upto fberApartSpec)) fberApartUptoCard

/-- THE SECOND FORM's CARD OF 'latinerlaw09.FberTexts'. -/
def fberTextsUptoCard : Claim7 := { stood := { row := fberTextsUptoRow, standIns := [], harness := (true, "4751b1e3f45089f29b6b23f7798ec4e29095612f1d1df236becae706f00386d3"), looks := true }, kinds := [], alts := [], laidByText := true, laidKinds := [.data, .handle, .sentinel, .sentinel, .sentinel, .sentinel, .sentinel, .sentinel, .sentinel, .sentinel, .sentinel, .sentinel, .sentinel, .pinned], laidTests := true, laidLooks := .later }
def FberTextsUptoCardSaid : Prop := Claim7.holds Tryz.pinned (.plain (OpenSpec.upto fberTextsSpec)) fberTextsUptoCard
end Rows
end Go.Proofs.YtiafggoaedifdaaGreatDoor
