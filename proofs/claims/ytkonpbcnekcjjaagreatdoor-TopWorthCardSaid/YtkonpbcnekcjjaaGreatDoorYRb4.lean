/-
  TopWorth: what the row says of the program's text, by computing.
-/
import Derived.Test.YtkonpbcnekcjjaaGreatDoorCards
import Derived.KernelRfl
set_option linter.unusedVariables false
namespace Go.Proofs.YtkonpbcnekcjjaaGreatDoor.topWorth
open Go

theorem hq3 : (Rows.topWorthRow.recurses == Tryz.pinned.checked.prog.recurses 4) = true := by kernel_rfl
theorem hq4 : (Rows.topWorthRow.named == Tryz.pinned.checked.prog.varsNamed 4) = true := by kernel_rfl
theorem hq5 : Rows.topWorthRow.wf (OpenSpec.ofChange Rows.topWorthSpec) = true := by kernel_rfl
theorem hr1 : Rows.topWorthRow.wfByText (OpenSpec.ofChange Rows.topWorthSpec) = true := by kernel_rfl
end Go.Proofs.YtkonpbcnekcjjaaGreatDoor.topWorth
