/-
  CusumRuns: what is proved here: the given statement CusumRunsSaid, for every input, with no condition.
-/
import Derived.Test.YthnjboiecahbgaaYG
set_option linter.unusedVariables false
namespace Go.Proofs.Ythnjboiecahbgaa.cusumRuns
open Go Go.Xec Go.ChangeShapes Go.WideShapes Go.ChangeAt Go.RowKit

theorem own : ownKnob Try.prog.godebug = none := by kernel_rfl
theorem laidOut : laidOutB Try.prog = true := by kernel_rfl
set_option maxRecDepth 100000 in
theorem lifted (os : Os) (started : os.Started) (H : Type) (enc : TypeId × Value → H) :
    ReturnsInHanded {} Try.checked os 3 .any (Rows.cusumRunsSpec.pre6 enc Try.prog Try.f3 Rows.cusumRunsRow.domain false) (Rows.cusumRunsSpec.post enc Try.prog Try.f3 false true false false) := by
  refine returnsInHanded_of_change_sized (C := Try.checked) own started (by kernel_rfl) Try.func3
    (ChangeSpec.witness6 (enc := enc) (C := Try.checked) false ⟨#[], #[.agg #[.int .i64 0, .int .i64 0, .int .i64 0, .int .i64 0, .int .i64 0, .int .i64 0], .slice none 0 0], []⟩ 8 (by kernel_rfl) (by kernel_rfl) (by kernel_rfl) (by kernel_rfl)) ?_
  intro W base args ds gs before hval hW hcnd hsz _
  refine law_post (C := C6) (P := Try.prog) (d := 1) (tys := [tK, tS]) (x := x3) (tb := 4) ok6 rfl Try.func3 rfl (by kernel_rfl) Try.underlying4 ?_ laidOut (by kernel_rfl) (by kernel_rfl) law3 hval hW hsz
  intro ds hds
  match ds, hds with
  | [a0, a1], _ => exact ⟨rfl, rfl, rfl⟩
theorem over : Rows.cusumRunsRow.holds Try.pinned (OpenSpec.ofChange Rows.cusumRunsSpec) :=
  OpenClaim.holds_of_wide 3 Try.f3 rfl rfl rfl rfl rfl rfl rfl ⟨rfl, rfl, rfl, rfl, rfl⟩ rfl rfl rfl rfl rfl (by kernel_rfl) Try.func3 (by kernel_rfl)
    (of_decide_eq_true (by kernel_rfl)) (by unfold Func.isWrapper; first | (rw [if_pos (by decide +kernel)]; kernel_rfl) | (rw [if_neg (by decide +kernel)]; exact ⟨rfl, rfl⟩))
    (fun os started H enc _ => lifted os started H enc)
theorem proved : Rows.CusumRunsSaid := over
end Go.Proofs.Ythnjboiecahbgaa.cusumRuns
namespace Go.Proofs.Ythnjboiecahbgaa
/-- The row, under a short name. -/
theorem cusumRuns_holds : Rows.CusumRunsSaid := cusumRuns.proved
#print axioms cusumRuns_holds
end Go.Proofs.Ythnjboiecahbgaa
