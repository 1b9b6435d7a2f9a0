/-
  CusumSums: what is proved here: the given statement CusumSumsSaid, for every input, with no condition.
-/
import Derived.Test.YthnjboiecahbgaaYI
set_option linter.unusedVariables false
namespace Go.Proofs.Ythnjboiecahbgaa.cusumSums
open Go Go.Xec Go.ChangeShapes Go.WideShapes Go.ChangeAt Go.RowKit

theorem own : ownKnob Try.prog.godebug = none := by kernel_rfl
theorem laidOut : laidOutB Try.prog = true := by kernel_rfl
set_option maxRecDepth 100000 in
theorem lifted (os : Os) (started : os.Started) (H : Type) (enc : TypeId × Value → H) :
    ReturnsInHanded {} Try.checked os 4 .any (Rows.cusumSumsSpec.pre6 enc Try.prog Try.f4 Rows.cusumSumsRow.domain false) (Rows.cusumSumsSpec.post enc Try.prog Try.f4 false true false false) := by
  refine returnsInHanded_of_change_sized (C := Try.checked) own started (by kernel_rfl) Try.func4
    (ChangeSpec.witness6 (enc := enc) (C := Try.checked) false ⟨#[], #[.int .i64 0, .int .i64 0, .int .i64 0, .slice none 0 0], []⟩ 8 (by kernel_rfl) (by kernel_rfl) (by kernel_rfl) (by kernel_rfl)) ?_
  intro W base args ds gs before hval hW hcnd hsz _
  refine law_post (C := C6) (P := Try.prog) (d := 1) (tys := [tI, tI, tI, tS]) (x := x4) (tb := 4) ok6 rfl Try.func4 rfl (by kernel_rfl) Try.underlying4 ?_ laidOut (by kernel_rfl) (by kernel_rfl) law4 hval hW hsz
  intro ds hds
  match ds, hds with
  | [a0, a1, a2, a3], _ => exact ⟨rfl, rfl, rfl⟩
theorem over : Rows.cusumSumsRow.holds Try.pinned (OpenSpec.ofChange Rows.cusumSumsSpec) :=
  OpenClaim.holds_of_wide 4 Try.f4 rfl rfl rfl rfl rfl rfl rfl ⟨rfl, rfl, rfl, rfl, rfl⟩ rfl rfl rfl rfl rfl (by kernel_rfl) Try.func4 (by kernel_rfl)
    (of_decide_eq_true (by kernel_rfl)) (by unfold Func.isWrapper; first | (rw [if_pos (by decide +kernel)]; kernel_rfl) | (rw [if_neg (by decide +kernel)]; exact ⟨rfl, rfl⟩))
    (fun os started H enc _ => lifted os started H enc)
theorem proved : Rows.CusumSumsSaid := over
end Go.Proofs.Ythnjboiecahbgaa.cusumSums
namespace Go.Proofs.Ythnjboiecahbgaa
/-- The row, under a short name. -/
theorem cusumSums_holds : Rows.CusumSumsSaid := cusumSums.proved
#print axioms cusumSums_holds
end Go.Proofs.Ythnjboiecahbgaa
