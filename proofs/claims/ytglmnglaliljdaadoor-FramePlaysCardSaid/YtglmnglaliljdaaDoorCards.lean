/-
  DERIVED. GIVEN WITH THE SEED: THE CARDS: each row of YtglmnglaliljdaaDoorRows.lean that lists a variable, with what it lists TIED to the program's text (the seventh form; the later family's looks); each row that meets fmt, with fmt's text TOLD by the authors' own Lean function (tested against real Go, not proved from fmt's source: count such statements apart). THE CARD IS WHAT COUNTS. Prove the row's statement (the work); the ties are given (YtglmnglaliljdaaDoorTie.lean); close each card by the builder's one call (the guide's Derived/Test/ToyasCard.lean, 'card_holds'). Laid BY PROGRAM, IN A SANDBOX (cutbox-door.mjs). By AI agents, Wed Nov 11 2026. No macro, syntax, notation, axiom, sorry.
-/
import Derived.Test.YtglmnglaliljdaaDoorRows
import GoSem.ClaimSeven
namespace Go.Proofs.YtglmnglaliljdaaDoor
namespace Rows

/-- THE TIED CARD OF 'latinerlaw14.FramePlays'. -/
def framePlaysCard : Claim7 := { stood := { row := framePlaysRow, standIns := [], harness := (true, "b59243bae6c21b6c361c7b7902e05d984f766b155978f58adf4322c19bf6a695"), looks := true }, kinds := [], alts := [], laidByText := true, laidKinds := [.handle, .sentinel, .sentinel, .sentinel, .sentinel, .sentinel, .sentinel, .sentinel], laidTests := true, laidLooks := .later }
def FramePlaysCardSaid : Prop := Claim7.holds Tryd.pinned (.plain (OpenSpec.ofChange framePlaysSpec)) framePlaysCard

/-- THE TIED CARD OF 'latinerlaw14.FrameCuts'. -/
def frameCutsCard : Claim7 := { stood := { row := frameCutsRow, standIns := [], harness := (true, "b59243bae6c21b6c361c7b7902e05d984f766b155978f58adf4322c19bf6a695"), looks := true }, kinds := [], alts := [], laidByText := true, laidKinds := [.handle, .sentinel, .sentinel, .sentinel, .sentinel, .sentinel, .sentinel, .sentinel], laidTests := true, laidLooks := .later }
def FrameCutsCardSaid : Prop := Claim7.holds Tryd.pinned (.plain (OpenSpec.ofChange frameCutsSpec)) frameCutsCard

/-- THE TIED CARD OF 'latinerlaw14.FrameWhole'. -/
def frameWholeCard : Claim7 := { stood := { row := frameWholeRow, standIns := [], harness := (true, "b59243bae6c21b6c361c7b7902e05d984f766b155978f58adf4322c19bf6a695"), looks := true }, kinds := [], alts := [], laidByText := true, laidKinds := [.handle, .sentinel, .sentinel, .sentinel, .sentinel, .sentinel, .sentinel, .sentinel], laidTests := true, laidLooks := .later }
def FrameWholeCardSaid : Prop := Claim7.holds Tryd.pinned (.plain (OpenSpec.ofChange frameWholeSpec)) frameWholeCard

/-- THE TIED CARD OF 'latinerlaw14.FrameLarge'. -/
def frameLargeCard : Claim7 := { stood := { row := frameLargeRow, standIns := [], harness := (true, "b59243bae6c21b6c361c7b7902e05d984f766b155978f58adf4322c19bf6a695"), looks := true }, kinds := [], alts := [], laidByText := true, laidKinds := [.handle, .sentinel, .sentinel, .sentinel, .sentinel, .sentinel, .sentinel, .sentinel], laidTests := true, laidLooks := .later }
def FrameLargeCardSaid : Prop := Claim7.holds Tryd.pinned (.plain (OpenSpec.ofChange frameLargeSpec)) frameLargeCard

/-- THE SECOND FORM's CARD OF 'latinerlaw14.FramePlays'. -/
def framePlaysUptoCard : Claim7 := { stood := { row := framePlaysUptoRow, standIns := [], harness := (true, "b59243bae6c21b6c361c7b7902e05d984f766b155978f58adf4322c19bf6a695"), looks := true }, kinds := [], alts := [], laidByText := true, laidKinds := [.handle, .sentinel, .sentinel, .sentinel, .sentinel, .sentinel, .sentinel, .sentinel], laidTests := true, laidLooks := .later }
def FramePlaysUptoCardSaid : Prop := Claim7.holds Tryd.pinned (.plain (OpenSpec.upto framePlaysSpec)) framePlaysUptoCard

/-- THE SECOND FORM's CARD OF 'latinerlaw14.FrameCuts'. -/
def frameCutsUptoCard : Claim7 := { stood := { row := frameCutsUptoRow, standIns := [], harness := (true, "b59243bae6c21b6c361c7b7902e05d984f766b155978f58adf4322c19bf6a695"), looks := true }, kinds := [], alts := [], laidByText := true, laidKinds := [.handle, .sentinel, .sentinel, .sentinel, .sentinel, .sentinel, .sentinel, .sentinel], laidTests := true, laidLooks := .later }
def FrameCutsUptoCardSaid : Prop := Claim7.holds Tryd.pinned (.plain (OpenSpec.upto frameCutsSpec)) frameCutsUptoCard

/-- THE SECOND FORM's CARD OF 'latinerlaw14.FrameWhole'. -/
def frameWholeUptoCard : Claim7 := { stood := { row := frameWholeUptoRow, standIns := [], harness := (true, "b59243bae6c21b6c361c7b7902e05d984f766b155978f58adf4322c19bf6a695"), looks := true }, kinds := [], alts := [], laidByText := true, laidKinds := [.handle, .sentinel, .sentinel, .sentinel, .sentinel, .sentinel, .sentinel, .sentinel], laidTests := true, laidLooks := .later }
def FrameWholeUptoCardSaid : Prop := Claim7.holds Tryd.pinned (.plain (OpenSpec.upto frameWholeSpec)) frameWholeUptoCard

/-- THE SECOND FORM's CARD OF 'latinerlaw14.FrameLarge'. -/
def frameLargeUptoCard : Claim7 := { stood := { row := frameLargeUptoRow, standIns := [], harness := (true, "b59243bae6c21b6c361c7b7902e05d984f766b155978f58adf4322c19bf6a695"), looks := true }, kinds := [], alts := [], laidByText := true, laidKinds := [.handle, .sentinel, .sentinel, .sentinel, .sentinel, .sentinel, .sentinel, .sentinel], laidTests := true, laidLooks := .later }
def FrameLargeUptoCardSaid : Prop := Claim7.holds Tryd.pinned (.plain (OpenSpec.upto frameLargeSpec)) frameLargeUptoCard
end Rows
end Go.Proofs.YtglmnglaliljdaaDoor
