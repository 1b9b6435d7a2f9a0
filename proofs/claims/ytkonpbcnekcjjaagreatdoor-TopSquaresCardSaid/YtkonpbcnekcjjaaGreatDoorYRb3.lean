/-
  TopSquares: what the row says of the program's text, by computing.
-/
import Derived.Test.YtkonpbcnekcjjaaGreatDoorCards
import Derived.KernelRfl
set_option linter.unusedVariables false
namespace Go.Proofs.YtkonpbcnekcjjaaGreatDoor.topSquares
open Go

theorem hq3 : (Rows.topSquaresRow.recurses == Tryz.pinned.checked.prog.recurses 3) = true := by kernel_rfl
theorem hq4 : (Rows.topSquaresRow.named == Tryz.pinned.checked.prog.varsNamed 3) = true := by kernel_rfl
theorem hq5 : Rows.topSquaresRow.wf (OpenSpec.ofChange Rows.topSquaresSpec) = true := by kernel_rfl
theorem hr1 : Rows.topSquaresRow.wfByText (OpenSpec.ofChange Rows.topSquaresSpec) = true := by kernel_rfl
end Go.Proofs.YtkonpbcnekcjjaaGreatDoor.topSquares
