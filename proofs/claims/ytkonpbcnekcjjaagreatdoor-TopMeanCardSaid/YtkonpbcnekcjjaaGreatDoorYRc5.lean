/-
  TopMean: what the row says of the program's text, by computing.
-/
import Derived.Test.YtkonpbcnekcjjaaGreatDoorCards
import Derived.KernelRfl
set_option linter.unusedVariables false
namespace Go.Proofs.YtkonpbcnekcjjaaGreatDoor.topMean
open Go

theorem hq6 : laidOutB Tryz.pinned.checked.prog = true := by kernel_rfl
theorem hq7 : mapsRowed Tryz.pinned.checked.prog = true := by kernel_rfl
theorem hq8 : (Tryz.pinned.checked.prog.stops == []) = true := by kernel_rfl
theorem hq9 : (Tryz.pinned.checked.prog.stopKnobs == []) = true := by kernel_rfl
theorem hr2 : Tryz.pinned.checked.prog.mainIs = some (true, "5174a43007520dea7daf6a90f3fde7bfbdefd9918b75df0782ff619d418cc15b".toList) := by kernel_rfl
theorem hr3 : true = Tryz.pinned.checked.prog.looks [] := by kernel_rfl
theorem hr5 : Tryz.pinned.checked.prog.funcNamed Rows.topMeanRow.func = some 5 := by kernel_rfl
end Go.Proofs.YtkonpbcnekcjjaaGreatDoor.topMean
