/-
  What the rows of this seat take as laid: a world that meets it; what it says to a walk.
-/
import Derived.Test.YtfndobdfdhkepaaDoorXZ
import Derived.Test.YtfndobdfdhkepaaDoorTie
import Derived.Stop.LaidErr
import Derived.Stop.ErrReads
import Derived.Lib.LaidTab
import Derived.Lib.LaidU8
import Derived.LaidLaws
import Derived.MakeChecks
set_option linter.unusedVariables false
namespace Go.Proofs.YtfndobdfdhkepaaDoor
open Go Go.Xec Go.ChangeShapes Go.WideShapes Go.ChangeAt Go.RowKit

theorem seatOwn : ownKnob Tryd.prog.godebug = none := by kernel_rfl
theorem seatLaidOut : laidOutB Tryd.prog = true := by kernel_rfl
theorem gv0 : Tryd.prog.globalNamed "math/bits.deBruijn32tab" = some 4 := by kernel_rfl
theorem gv1 : Tryd.prog.globalNamed "math/bits.deBruijn64tab" = some 5 := by kernel_rfl
theorem gv2 : Tryd.prog.globalNamed "internal/strconv.uint64pow10" = some 2 := by kernel_rfl
abbrev seatList : List (String × DataW Unit) := Rows.wideTellsRow.laid
theorem laid_of_met {W : World} (h : laidMetH Tryd.prog seatList W) : Laid Tryd.prog W := by
  rw [Go.MakeChecks.laidMetH_plain _ _ _ (by kernel_rfl)] at h
  have h1 := h.tail
  have h2 := h1.tail
  refine ⟨?_, ?_⟩
  · intro t ht hne
    simp only [tabs, List.mem_cons, List.not_mem_nil, or_false] at ht
    rcases ht with rfl | rfl
    · exact Lib.tabIs_of_head (k := .u64) (zs := Lib.pow10Tab) gv2 (t := 68) (e := 22) (n := 20) (by kernel_rfl) (by kernel_rfl) (by kernel_rfl) (by kernel_rfl) (by kernel_rfl) h2
    · exact Lib.tabIs_of_head (k := .u8) (zs := Lib.deBruijn64tab.map Int.ofNat) gv1 (t := 77) (e := 5) (n := 64) (by kernel_rfl) (by kernel_rfl) (by kernel_rfl) (by kernel_rfl) (by kernel_rfl) h1
  · intro n hn hg
    simp only [errs, List.mem_cons, List.not_mem_nil, or_false] at hn
    rcases hn with rfl | rfl
    · exact absurd (by kernel_rfl : Tryd.prog.globalNamed "strconv.ErrSyntax" = none) hg
    · exact absurd (by kernel_rfl : Tryd.prog.globalNamed "strconv.ErrRange" = none) hg
/-- A world in which these variables lie as they are laid. -/
noncomputable def laidWorld (os : Os) : World :=
  let w0 := World.holding Tryd.prog os ⟨#[], #[], []⟩
  let put (h : Array Obj) (g : Nat) (cs : Array Value) : Array Obj := h.modify g fun
    | .cells _ t frozen => .cells cs t frozen
    | o => o
  let k1 := put w0.heap 4 #[.int .u8 0, .int .u8 1, .int .u8 28, .int .u8 2, .int .u8 29, .int .u8 14, .int .u8 24, .int .u8 3, .int .u8 30, .int .u8 22, .int .u8 20, .int .u8 15, .int .u8 25, .int .u8 17, .int .u8 4, .int .u8 8, .int .u8 31, .int .u8 27, .int .u8 13, .int .u8 23, .int .u8 21, .int .u8 19, .int .u8 16, .int .u8 7, .int .u8 26, .int .u8 12, .int .u8 18, .int .u8 6, .int .u8 11, .int .u8 5, .int .u8 10, .int .u8 9]
  let k2 := put k1 5 #[.int .u8 0, .int .u8 1, .int .u8 56, .int .u8 2, .int .u8 57, .int .u8 49, .int .u8 28, .int .u8 3, .int .u8 61, .int .u8 58, .int .u8 42, .int .u8 50, .int .u8 38, .int .u8 29, .int .u8 17, .int .u8 4, .int .u8 62, .int .u8 47, .int .u8 59, .int .u8 36, .int .u8 45, .int .u8 43, .int .u8 51, .int .u8 22, .int .u8 53, .int .u8 39, .int .u8 33, .int .u8 30, .int .u8 24, .int .u8 18, .int .u8 12, .int .u8 5, .int .u8 63, .int .u8 55, .int .u8 48, .int .u8 27, .int .u8 60, .int .u8 41, .int .u8 37, .int .u8 16, .int .u8 46, .int .u8 35, .int .u8 44, .int .u8 21, .int .u8 52, .int .u8 32, .int .u8 23, .int .u8 11, .int .u8 54, .int .u8 26, .int .u8 40, .int .u8 15, .int .u8 34, .int .u8 20, .int .u8 31, .int .u8 10, .int .u8 25, .int .u8 14, .int .u8 19, .int .u8 9, .int .u8 13, .int .u8 8, .int .u8 7, .int .u8 6]
  let k3 := put k2 2 (Lib.pow10Tab.map fun z => Value.int .u64 z).toArray
  { w0 with heap := k3 }
set_option maxRecDepth 100000 in
theorem laidWorld_met (os : Os) (args : Array Value) : laidMetH Tryd.prog seatList ((laidWorld os).forCall (fun _ _ => 0) ⟨#[], args, []⟩).memory := by
  rw [Go.MakeChecks.laidMetH_plain _ _ _ (by kernel_rfl)]
  exact laidMet_of_run' 8 (by kernel_rfl) (by kernel_rfl)
end Go.Proofs.YtfndobdfdhkepaaDoor
