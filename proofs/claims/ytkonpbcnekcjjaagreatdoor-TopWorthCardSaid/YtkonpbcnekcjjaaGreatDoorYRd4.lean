/-
  TopWorth: what the row says of the program's text, by computing.
-/
import Derived.Test.YtkonpbcnekcjjaaGreatDoorCards
import Derived.KernelRfl
set_option linter.unusedVariables false
namespace Go.Proofs.YtkonpbcnekcjjaaGreatDoor.topWorth
open Go

theorem hr4 : false = Rows.topWorthRow.goesBy Tryz.pinned.checked.prog := by kernel_rfl
end Go.Proofs.YtkonpbcnekcjjaaGreatDoor.topWorth
