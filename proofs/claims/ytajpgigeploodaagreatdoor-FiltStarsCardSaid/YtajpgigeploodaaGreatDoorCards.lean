/-
  DERIVED. GIVEN WITH THE SEED: THE CARDS: each row of YtajpgigeploodaaGreatDoorRows.lean that lists a variable, with what it lists TIED to the program's text (the seventh form; the later family's looks); each row that meets fmt, with fmt's text TOLD by the authors' own Lean function (tested against real Go, not proved from fmt's source: count such statements apart). THE CARD IS WHAT COUNTS. Prove the row's statement (the work); the ties are given (YtajpgigeploodaaGreatDoorTie.lean); close each card by the builder's one call (the guide's Derived/Test/ToyasCard.lean, 'card_holds'). Laid BY PROGRAM, IN A SANDBOX (cutbox-door.mjs). By AI agents, Wed Nov 11 2026. No macro, syntax, notation, axiom, sorry.
-/
import Derived.Test.YtajpgigeploodaaGreatDoorRows
import GoSem.ClaimSeven
namespace Go.Proofs.YtajpgigeploodaaGreatDoor
namespace Rows

/-- THE TIED CARD OF 'latinerlaw08.FiltTells'. -/
def filtTellsCard : Claim7 := { stood := { row := filtTellsRow, standIns := [], harness := (true, "51e71e4748790aeb590fac030d80bf74a371fb3f3a1cc6f16be2789ecb6b0005"), looks := true }, kinds := [], alts := [], laidByText := true, laidKinds := [.data, .handle, .sentinel, .sentinel, .sentinel, .pinned], laidTests := true, laidLooks := .later }
def FiltTellsCardSaid : Prop := Claim7.holds Tryz.pinned (.plain (OpenSpec.ofChange filtTellsSpec)) filtTellsCard

/-- THE TIED CARD OF 'latinerlaw08.FiltBack'. -/
def filtBackCard : Claim7 := { stood := { row := filtBackRow, standIns := [], harness := (true, "51e71e4748790aeb590fac030d80bf74a371fb3f3a1cc6f16be2789ecb6b0005"), looks := true }, kinds := [], alts := [], laidByText := true, laidKinds := [.data, .handle, .sentinel, .sentinel, .sentinel, .pinned], laidTests := true, laidLooks := .later }
def FiltBackCardSaid : Prop := Claim7.holds Tryz.pinned (.plain (OpenSpec.ofChange filtBackSpec)) filtBackCard

/-- THE TIED CARD OF 'latinerlaw08.FiltWraps'. -/
def filtWrapsCard : Claim7 := { stood := { row := filtWrapsRow, standIns := [], harness := (true, "51e71e4748790aeb590fac030d80bf74a371fb3f3a1cc6f16be2789ecb6b0005"), looks := true }, kinds := [], alts := [], laidByText := true, laidKinds := [.data, .handle, .sentinel, .sentinel, .sentinel, .pinned], laidTests := true, laidLooks := .later }
def FiltWrapsCardSaid : Prop := Claim7.holds Tryz.pinned (.plain (OpenSpec.ofChange filtWrapsSpec)) filtWrapsCard

/-- THE TIED CARD OF 'latinerlaw08.FiltItems'. -/
def filtItemsCard : Claim7 := { stood := { row := filtItemsRow, standIns := [], harness := (true, "51e71e4748790aeb590fac030d80bf74a371fb3f3a1cc6f16be2789ecb6b0005"), looks := true }, kinds := [], alts := [], laidByText := true, laidKinds := [.data, .handle, .sentinel, .sentinel, .sentinel, .pinned], laidTests := true, laidLooks := .later }
def FiltItemsCardSaid : Prop := Claim7.holds Tryz.pinned (.plain (OpenSpec.ofChange filtItemsSpec)) filtItemsCard

/-- THE TIED CARD OF 'latinerlaw08.FiltSets'. -/
def filtSetsCard : Claim7 := { stood := { row := filtSetsRow, standIns := [], harness := (true, "51e71e4748790aeb590fac030d80bf74a371fb3f3a1cc6f16be2789ecb6b0005"), looks := true }, kinds := [], alts := [], laidByText := true, laidKinds := [.data, .handle, .sentinel, .sentinel, .sentinel, .pinned], laidTests := true, laidLooks := .later }
def FiltSetsCardSaid : Prop := Claim7.holds Tryz.pinned (.plain (OpenSpec.ofChange filtSetsSpec)) filtSetsCard

/-- THE TIED CARD OF 'latinerlaw08.FiltStars'. -/
def filtStarsCard : Claim7 := { stood := { row := filtStarsRow, standIns := [], harness := (true, "51e71e4748790aeb590fac030d80bf74a371fb3f3a1cc6f16be2789ecb6b0005"), looks := true }, kinds := [], alts := [], laidByText := true, laidKinds := [.data, .handle, .sentinel, .sentinel, .sentinel, .pinned], laidTests := true, laidLooks := .later }
def FiltStarsCardSaid : Prop := Claim7.holds Tryz.pinned (.plain (OpenSpec.ofChange filtStarsSpec)) filtStarsCard

/-- THE TIED CARD OF 'latinerlaw08.FiltNames'. -/
def filtNamesCard : Claim7 := { stood := { row := filtNamesRow, standIns := [], harness := (true, "51e71e4748790aeb590fac030d80bf74a371fb3f3a1cc6f16be2789ecb6b0005"), looks := true }, kinds := [], alts := [], laidByText := true, laidKinds := [.data, .handle, .sentinel, .sentinel, .sentinel, .pinned], laidTests := true, laidLooks := .later }
def FiltNamesCardSaid : Prop := Claim7.holds Tryz.pinned (.plain (OpenSpec.ofChange filtNamesSpec)) filtNamesCard

/-- THE TIED CARD OF 'latinerlaw08.FiltDigits'. -/
def filtDigitsCard : Claim7 := { stood := { row := filtDigitsRow, standIns := [], harness := (true, "51e71e4748790aeb590fac030d80bf74a371fb3f3a1cc6f16be2789ecb6b0005"), looks := true }, kinds := [], alts := [], laidByText := true, laidKinds := [.data, .handle, .sentinel, .sentinel, .sentinel, .pinned], laidTests := true, laidLooks := .later }
def FiltDigitsCardSaid : Prop := Claim7.holds Tryz.pinned (.plain (OpenSpec.ofChange filtDigitsSpec)) filtDigitsCard

/-- THE SECOND FORM's CARD OF 'latinerlaw08.FiltTells'. -/
def filtTellsUptoCard : Claim7 := { stood := { row := filtTellsUptoRow, standIns := [], harness := (true, "51e71e4748790aeb590fac030d80bf74a371fb3f3a1cc6f16be2789ecb6b0005"), looks := true }, kinds := [], alts := [], laidByText := true, laidKinds := [.data, .handle, .sentinel, .sentinel, .sentinel, .pinned], laidTests := true, laidLooks := .later }
def FiltTellsUptoCardSaid : Prop := Claim7.holds Tryz.pinned (.plain (OpenSpec.upto filtTellsSpec)) filtTellsUptoCard

/-- THE SECOND FORM's CARD OF 'latinerlaw08.FiltBack'. -/
def filtBackUptoCard : Claim7 := { stood := { row := filtBackUptoRow, standIns := [], harness := (true, "51e71e4748790aeb590fac030d80bf74a371fb3f3a1cc6f16be2789ecb6b0005"), looks := true }, kinds := [], alts := [], laidByText := true, laidKinds := [.data, .handle, .sentinel, .sentinel, .sentinel, .pinned], laidTests := true, laidLooks := .later }
def FiltBackUptoCardSaid : Prop := Claim7.holds Tryz.pinned (.plain (OpenSpec.upto filtBackSpec)) filtBackUptoCard

/-- THE SECOND FORM's CARD OF 'latinerlaw08.FiltWraps'. -/
def filtWrapsUptoCard : Claim7 := { stood := { row := filtWrapsUptoRow, standIns := [], harness := (true, "51e71e4748790aeb590fac030d80bf74a371fb3f3a1cc6f16be2789ecb6b0005"), looks := true }, kinds := [], alts := [], laidByText := true, laidKinds := [.data, .handle, .sentinel, .sentinel, .sentinel, .pinned], laidTests := true, laidLooks := .later }
def FiltWrapsUptoCardSaid : Prop := Claim7.holds Tryz.pinned (.plain (OpenSpec.upto filtWrapsSpec)) filtWrapsUptoCard

/-- THE SECOND FORM's CARD OF 'latinerlaw08.FiltItems'. -/
def filtItemsUptoCard : Claim7 := { stood := { row := filtItemsUptoRow, standIns := [], harness := (true, "51e71e4748790aeb590fac030d80bf74a371fb3f3a1cc6f16be2789ecb6b0005"), looks := true }, kinds := [], alts := [], laidByText := true, laidKinds := [.data, .handle, .sentinel, .sentinel, .sentinel, .pinned], laidTests := true, laidLooks := .later }
def FiltItemsUptoCardSaid : Prop := Claim7.holds Tryz.pinned (.plain (OpenSpec.upto filtItemsSpec)) filtItemsUptoCard

/-- THE SECOND FORM's CARD OF 'latinerlaw08.FiltSets'. -/
def filtSetsUptoCard : Claim7 := { stood := { row := filtSetsUptoRow, standIns := [], harness := (true, "51e71e4748790aeb590fac030d80bf74a371fb3f3a1cc6f16be2789ecb6b0005"), looks := true }, kinds := [], alts := [], laidByText := true, laidKinds := [.data, .handle, .sentinel, .sentinel, .sentinel, .pinned], laidTests := true, laidLooks := .later }
def FiltSetsUptoCardSaid : Prop := Claim7.holds Tryz.pinned (.plain (OpenSpec.upto filtSetsSpec)) filtSetsUptoCard

/-- THE SECOND FORM's CARD OF 'latinerlaw08.FiltStars'. -/
def filtStarsUptoCard : Claim7 := { stood := { row := filtStarsUptoRow, standIns := [], harness := (true, "51e71e4748790aeb590fac030d80bf74a371fb3f3a1cc6f16be2789ecb6b0005"), looks := true }, kinds := [], alts := [], laidByText := true, laidKinds := [.data, .handle, .sentinel, .sentinel, .sentinel, .pinned], laidTests := true, laidLooks := .later }
def FiltStarsUptoCardSaid : Prop := Claim7.holds Tryz.pinned (.plain (OpenSpec.upto filtStarsSpec)) filtStarsUptoCard

/-- THE SECOND FORM's CARD OF 'latinerlaw08.FiltNames'. -/
def filtNamesUptoCard : Claim7 := { stood := { row := filtNamesUptoRow, standIns := [], harness := (true, "51e71e4748790aeb590fac030d80bf74a371fb3f3a1cc6f16be2789ecb6b0005"), looks := true }, kinds := [], alts := [], laidByText := true, laidKinds := [.data, .handle, .sentinel, .sentinel, .sentinel, .pinned], laidTests := true, laidLooks := .later }
def FiltNamesUptoCardSaid : Prop := Claim7.holds Tryz.pinned (.plain (OpenSpec.upto filtNamesSpec)) filtNamesUptoCard

/-- THE SECOND FORM's CARD OF 'latinerlaw08.FiltDigits'. -/
def filtDigitsUptoCard : Claim7 := { stood := { row := filtDigitsUptoRow, standIns := [], harness := (true, "51e71e4748790aeb590fac030d80bf74a371fb3f3a1cc6f16be2789ecb6b0005"), looks := true }, kinds := [], alts := [], laidByText := true, laidKinds := [.data, .handle, .sentinel, .sentinel, .sentinel, .pinned], laidTests := true, laidLooks := .later }
def FiltDigitsUptoCardSaid : Prop := Claim7.holds Tryz.pinned (.plain (OpenSpec.upto filtDigitsSpec)) filtDigitsUptoCard
end Rows
end Go.Proofs.YtajpgigeploodaaGreatDoor
