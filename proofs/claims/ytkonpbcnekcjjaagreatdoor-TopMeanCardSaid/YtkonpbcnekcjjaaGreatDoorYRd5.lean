/-
  TopMean: what the row says of the program's text, by computing.
-/
import Derived.Test.YtkonpbcnekcjjaaGreatDoorCards
import Derived.KernelRfl
set_option linter.unusedVariables false
namespace Go.Proofs.YtkonpbcnekcjjaaGreatDoor.topMean
open Go

theorem hr4 : false = Rows.topMeanRow.goesBy Tryz.pinned.checked.prog := by kernel_rfl
end Go.Proofs.YtkonpbcnekcjjaaGreatDoor.topMean
