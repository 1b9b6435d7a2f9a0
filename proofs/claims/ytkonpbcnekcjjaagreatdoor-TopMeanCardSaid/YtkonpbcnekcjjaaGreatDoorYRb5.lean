/-
  TopMean: what the row says of the program's text, by computing.
-/
import Derived.Test.YtkonpbcnekcjjaaGreatDoorCards
import Derived.KernelRfl
set_option linter.unusedVariables false
namespace Go.Proofs.YtkonpbcnekcjjaaGreatDoor.topMean
open Go

theorem hq3 : (Rows.topMeanRow.recurses == Tryz.pinned.checked.prog.recurses 5) = true := by kernel_rfl
theorem hq4 : (Rows.topMeanRow.named == Tryz.pinned.checked.prog.varsNamed 5) = true := by kernel_rfl
theorem hq5 : Rows.topMeanRow.wf (OpenSpec.ofChange Rows.topMeanSpec) = true := by kernel_rfl
theorem hr1 : Rows.topMeanRow.wfByText (OpenSpec.ofChange Rows.topMeanSpec) = true := by kernel_rfl
end Go.Proofs.YtkonpbcnekcjjaaGreatDoor.topMean
