/-
  DERIVED. GIVEN WITH THE SEED: THE CARDS: each row of YtkonpbcnekcjjaaGreatDoorRows.lean that lists a variable, with what it lists TIED to the program's text (the seventh form; the later family's looks); each row that meets fmt, with fmt's text TOLD by the authors' own Lean function (tested against real Go, not proved from fmt's source: count such statements apart). THE CARD IS WHAT COUNTS. Prove the row's statement (the work); the ties are given (YtkonpbcnekcjjaaGreatDoorTie.lean); close each card by the builder's one call (the guide's Derived/Test/ToyasCard.lean, 'card_holds'). Laid BY PROGRAM, IN A SANDBOX (cutbox-door.mjs). By AI agents, Wed Nov 11 2026. No macro, syntax, notation, axiom, sorry.
-/
import Derived.Test.YtkonpbcnekcjjaaGreatDoorRows
import GoSem.ClaimSeven
namespace Go.Proofs.YtkonpbcnekcjjaaGreatDoor
namespace Rows

/-- THE TIED CARD OF 'datumtop.TopSquares'. -/
def topSquaresCard : Claim7 := { stood := { row := topSquaresRow, standIns := [], harness := (true, "5174a43007520dea7daf6a90f3fde7bfbdefd9918b75df0782ff619d418cc15b"), looks := true }, kinds := [], alts := [], laidByText := true, laidKinds := [.data, .data, .data, .data, .handle, .sentinel, .sentinel, .pinned], laidTests := true, laidLooks := .later }
def TopSquaresCardSaid : Prop := Claim7.holds Tryz.pinned (.plain (OpenSpec.ofChange topSquaresSpec)) topSquaresCard

/-- THE TIED CARD OF 'datumtop.TopWorth'. -/
def topWorthCard : Claim7 := { stood := { row := topWorthRow, standIns := [], harness := (true, "5174a43007520dea7daf6a90f3fde7bfbdefd9918b75df0782ff619d418cc15b"), looks := true }, kinds := [], alts := [], laidByText := true, laidKinds := [.data, .data, .data, .data, .handle, .sentinel, .sentinel, .pinned], laidTests := true, laidLooks := .later }
def TopWorthCardSaid : Prop := Claim7.holds Tryz.pinned (.plain (OpenSpec.ofChange topWorthSpec)) topWorthCard

/-- THE TIED CARD OF 'datumtop.TopMean'. -/
def topMeanCard : Claim7 := { stood := { row := topMeanRow, standIns := [], harness := (true, "5174a43007520dea7daf6a90f3fde7bfbdefd9918b75df0782ff619d418cc15b"), looks := true }, kinds := [], alts := [], laidByText := true, laidKinds := [.data, .data, .data, .data, .handle, .sentinel, .sentinel, .pinned], laidTests := true, laidLooks := .later }
def TopMeanCardSaid : Prop := Claim7.holds Tryz.pinned (.plain (OpenSpec.ofChange topMeanSpec)) topMeanCard

/-- THE SECOND FORM's CARD OF 'datumtop.TopSquares'. -/
def topSquaresUptoCard : Claim7 := { stood := { row := topSquaresUptoRow, standIns := [], harness := (true, "5174a43007520dea7daf6a90f3fde7bfbdefd9918b75df0782ff619d418cc15b"), looks := true }, kinds := [], alts := [], laidByText := true, laidKinds := [.data, .data, .data, .data, .handle, .sentinel, .sentinel, .pinned], laidTests := true, laidLooks := .later }
def TopSquaresUptoCardSaid : Prop := Claim7.holds Tryz.pinned (.plain (OpenSpec.upto topSquaresSpec)) topSquaresUptoCard

/-- THE SECOND FORM's CARD OF 'datumtop.TopWorth'. -/
def topWorthUptoCard : Claim7 := { stood := { row := topWorthUptoRow, standIns := [], harness := (true, "5174a43007520dea7daf6a90f3fde7bfbdefd9918b75df0782ff619d418cc15b"), looks := true }, kinds := [], alts := [], laidByText := true, laidKinds := [.data, .data, .data, .data, .handle, .sentinel, .sentinel, .pinned], laidTests := true, laidLooks := .later }
def TopWorthUptoCardSaid : Prop := Claim7.holds Tryz.pinned (.plain (OpenSpec.upto topWorthSpec)) topWorthUptoCard

/-- THE SECOND FORM's CARD OF 'datumtop.TopMean'. -/
def topMeanUptoCard : Claim7 := { stood := { row := topMeanUptoRow, standIns := [], harness := (true, "5174a43007520dea7daf6a90f3fde7bfbdefd9918b75df0782ff619d418cc15b"), looks := true }, kinds := [], alts := [], laidByText := true, laidKinds := [.data, .data, .data, .data, .handle, .sentinel, .sentinel, .pinned], laidTests := true, laidLooks := .later }
def TopMeanUptoCardSaid : Prop := Claim7.holds Tryz.pinned (.plain (OpenSpec.upto topMeanSpec)) topMeanUptoCard
end Rows
end Go.Proofs.YtkonpbcnekcjjaaGreatDoor
