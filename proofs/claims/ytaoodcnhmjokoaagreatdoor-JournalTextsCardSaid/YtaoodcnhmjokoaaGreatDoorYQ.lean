/-
  What the rows of this seat take as laid: a world that meets it; what it says to a walk.
-/
import Derived.Test.YtaoodcnhmjokoaaGreatDoorXZ
import Derived.Test.YtaoodcnhmjokoaaGreatDoorTie
import Derived.Stop.LaidErr
import Derived.Stop.ErrReads
import Derived.Lib.LaidTab
import Derived.Lib.LaidU8
import Derived.LaidLaws
import Derived.MakeChecks
import Derived.Shelf.Vars
import Derived.ShapedOpen
set_option linter.unusedVariables false
namespace Go.Proofs.YtaoodcnhmjokoaaGreatDoor
open Go Go.Xec Go.ChangeShapes Go.WideShapes Go.ChangeAt Go.RowKit

theorem seatOwn : ownKnob Tryz.prog.godebug = none := by kernel_rfl
theorem seatLaidOut : laidOutB Tryz.prog = true := by kernel_rfl
theorem gv0 : Tryz.prog.globalNamed "math/bits.deBruijn32tab" = some 6 := by kernel_rfl
theorem gv1 : Tryz.prog.globalNamed "math/bits.deBruijn64tab" = some 7 := by kernel_rfl
theorem gv2 : Tryz.prog.globalNamed "internal/strconv.uint64pow10" = some 1 := by kernel_rfl
theorem gv3 : Tryz.prog.globalNamed "unicode/utf8.acceptRanges" = some 3 := by kernel_rfl
theorem gv4 : Tryz.prog.globalNamed "strconv.ErrRange" = some 5 := by kernel_rfl
theorem gv5 : Tryz.prog.globalNamed "strconv.ErrSyntax" = some 4 := by kernel_rfl
theorem gv6 : Tryz.prog.globalNamed "unicode/utf8.first" = some 2 := by kernel_rfl
theorem seatStar : "*" ++ "errors.errorString" = "*errors.errorString" := by decide
theorem seatRow (u : TypeId) (h : Tryz.prog.typeName? 3 u = some "*errors.errorString") : u = 166 :=
  typeName_ptr_named (nm := "errors.errorString") (by rw [seatStar]; kernel_rfl) (by kernel_rfl) (by decide) u (by rw [seatStar]; exact h)
abbrev seatList : List (String × DataW Unit) := Rows.journalAppendsRow.laid
theorem laid_of_met {W : World} (h : laidMetH Tryz.prog seatList W) (hS : W.ShapedOpen Tryz.prog) : Laid Tryz.prog W := by
  rw [Go.MakeChecks.laidMetH_plain _ _ _ (by kernel_rfl)] at h
  have h1 := h.tail
  have h2 := h1.tail
  have h3 := h2.tail
  have h4 := h3.tail
  have h5 := h4.tail
  have h6 := h5.tail
  refine ⟨?_, ?_, ?_⟩
  · intro t ht hne
    simp only [tabs, List.mem_cons, List.not_mem_nil, or_false] at ht
    rcases ht with rfl | rfl
    · exact Lib.tabIs_of_head (k := .u64) (zs := Lib.pow10Tab) gv2 (t := 147) (e := 93) (n := 20) (by kernel_rfl) (by kernel_rfl) (by kernel_rfl) (by kernel_rfl) (by kernel_rfl) h2
    · exact Lib.tabIs_of_head (k := .u8) (zs := Lib.deBruijn64tab.map Int.ofNat) gv1 (t := 127) (e := 5) (n := 64) (by kernel_rfl) (by kernel_rfl) (by kernel_rfl) (by kernel_rfl) (by kernel_rfl) h1
  · intro n hn hg
    simp only [errs, List.mem_cons, List.not_mem_nil, or_false] at hn
    rcases hn with rfl | rfl
    · obtain ⟨a, s, h5, _⟩ := laid_sentinel h5 gv5 (ti := 53) (te := 168) (ts := 9) (tp := 166) (by kernel_rfl) Tryz.underlying53 seatRow Tryz.underlying166 Tryz.underlying168 rfl rfl Tryz.underlying9 (by kernel_rfl) (by kernel_rfl)
      exact ⟨_, _, h5⟩
    · obtain ⟨a, s, h5, _⟩ := laid_sentinel h4 gv4 (ti := 53) (te := 168) (ts := 9) (tp := 166) (by kernel_rfl) Tryz.underlying53 seatRow Tryz.underlying166 Tryz.underlying168 rfl rfl Tryz.underlying9 (by kernel_rfl) (by kernel_rfl)
      exact ⟨_, _, h5⟩
  · intro g hg
    rw [(by kernel_rfl : Tryz.prog.globalNamed "internal/bytealg.MaxLen" = some 0)] at hg
    cases hg
    exact Go.Proofs.cell_of_shapedOpen_int (zero := #[.int .i64 0]) (t := 3) hS (of_decide_eq_true (by kernel_rfl)) (by kernel_rfl) rfl (by kernel_rfl) (by kernel_rfl) Tryz.underlying3
noncomputable def seatLow : Nat := (World.holding Tryz.prog default ⟨#[], #[], []⟩).heap.size
/-- A world in which these variables lie as they are laid. -/
noncomputable def laidWorld (os : Os) : World :=
  let w0 := World.holding Tryz.prog os ⟨#[.cells #[.string { data := #[118, 97, 108, 117, 101, 32, 111, 117, 116, 32, 111, 102, 32, 114, 97, 110, 103, 101] }] 168, .cells #[.string { data := #[105, 110, 118, 97, 108, 105, 100, 32, 115, 121, 110, 116, 97, 120] }] 168], #[], []⟩
  let put (h : Array Obj) (g : Nat) (cs : Array Value) : Array Obj := h.modify g fun
    | .cells _ t frozen => .cells cs t frozen
    | o => o
  let k1 := put w0.heap 6 #[.int .u8 0, .int .u8 1, .int .u8 28, .int .u8 2, .int .u8 29, .int .u8 14, .int .u8 24, .int .u8 3, .int .u8 30, .int .u8 22, .int .u8 20, .int .u8 15, .int .u8 25, .int .u8 17, .int .u8 4, .int .u8 8, .int .u8 31, .int .u8 27, .int .u8 13, .int .u8 23, .int .u8 21, .int .u8 19, .int .u8 16, .int .u8 7, .int .u8 26, .int .u8 12, .int .u8 18, .int .u8 6, .int .u8 11, .int .u8 5, .int .u8 10, .int .u8 9]
  let k2 := put k1 7 #[.int .u8 0, .int .u8 1, .int .u8 56, .int .u8 2, .int .u8 57, .int .u8 49, .int .u8 28, .int .u8 3, .int .u8 61, .int .u8 58, .int .u8 42, .int .u8 50, .int .u8 38, .int .u8 29, .int .u8 17, .int .u8 4, .int .u8 62, .int .u8 47, .int .u8 59, .int .u8 36, .int .u8 45, .int .u8 43, .int .u8 51, .int .u8 22, .int .u8 53, .int .u8 39, .int .u8 33, .int .u8 30, .int .u8 24, .int .u8 18, .int .u8 12, .int .u8 5, .int .u8 63, .int .u8 55, .int .u8 48, .int .u8 27, .int .u8 60, .int .u8 41, .int .u8 37, .int .u8 16, .int .u8 46, .int .u8 35, .int .u8 44, .int .u8 21, .int .u8 52, .int .u8 32, .int .u8 23, .int .u8 11, .int .u8 54, .int .u8 26, .int .u8 40, .int .u8 15, .int .u8 34, .int .u8 20, .int .u8 31, .int .u8 10, .int .u8 25, .int .u8 14, .int .u8 19, .int .u8 9, .int .u8 13, .int .u8 8, .int .u8 7, .int .u8 6]
  let k3 := put k2 1 (Lib.pow10Tab.map fun z => Value.int .u64 z).toArray
  let k4 := put k3 3 ((List.range 16).flatMap fun i => [Value.int .u8 (Lib.accLo i), Value.int .u8 (Lib.accHi i)]).toArray
  let k5 := put k4 5 #[.iface 166 (.pointer (some ⟨seatLow, 0, none⟩))]
  let k6 := put k5 4 #[.iface 166 (.pointer (some ⟨seatLow + 1, 0, none⟩))]
  let k7 := put k6 2 (Lib.firstTab.map fun z => Value.int .u8 z).toArray
  { w0 with heap := k7 }
set_option maxRecDepth 100000 in
theorem laidWorld_met (os : Os) (args : Array Value) : laidMetH Tryz.prog seatList ((laidWorld os).forCall (fun _ _ => 0) ⟨#[], args, []⟩).memory := by
  rw [Go.MakeChecks.laidMetH_plain _ _ _ (by kernel_rfl)]
  exact laidMet_of_run' 8 (by kernel_rfl) (by kernel_rfl)
end Go.Proofs.YtaoodcnhmjokoaaGreatDoor
