/-
  TopMean: what the row says of the program's text, by computing.
-/
import Derived.Test.YtkonpbcnekcjjaaGreatDoorCards
import Derived.KernelRfl
set_option linter.unusedVariables false
namespace Go.Proofs.YtkonpbcnekcjjaaGreatDoor.topMean
open Go

theorem hq1 : (Rows.topMeanRow.inPlace == Tryz.pinned.checked.prog.inPlace 5) = true := by kernel_rfl
theorem hq2 : (Rows.topMeanRow.unfollowed == Tryz.pinned.checked.prog.unfollowed 5) = true := by kernel_rfl
end Go.Proofs.YtkonpbcnekcjjaaGreatDoor.topMean
