/-
  TopSquares: what the row says of the program's text, by computing.
-/
import Derived.Test.YtkonpbcnekcjjaaGreatDoorCards
import Derived.KernelRfl
set_option linter.unusedVariables false
namespace Go.Proofs.YtkonpbcnekcjjaaGreatDoor.topSquares
open Go

theorem hq1 : (Rows.topSquaresRow.inPlace == Tryz.pinned.checked.prog.inPlace 3) = true := by kernel_rfl
theorem hq2 : (Rows.topSquaresRow.unfollowed == Tryz.pinned.checked.prog.unfollowed 3) = true := by kernel_rfl
end Go.Proofs.YtkonpbcnekcjjaaGreatDoor.topSquares
