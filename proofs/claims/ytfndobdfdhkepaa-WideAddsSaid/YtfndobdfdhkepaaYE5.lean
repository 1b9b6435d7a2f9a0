/-
  WideAdds: what is proved here: the given statement WideAddsSaid, for every input, with no condition.
-/
import Derived.Test.YtfndobdfdhkepaaYD
set_option linter.unusedVariables false
namespace Go.Proofs.Ytfndobdfdhkepaa.wideAdds
open Go Go.Xec Go.ChangeShapes Go.WideShapes Go.ChangeAt Go.RowKit

theorem own : ownKnob Try.prog.godebug = none := by kernel_rfl
theorem laidOut : laidOutB Try.prog = true := by kernel_rfl
set_option maxRecDepth 100000 in
theorem lifted (os : Os) (started : os.Started) (H : Type) (enc : TypeId × Value → H) :
    ReturnsInHanded {} Try.checked os 5 .any (Rows.wideAddsSpec.pre6 enc Try.prog Try.f5 Rows.wideAddsRow.domain false) (Rows.wideAddsSpec.post enc Try.prog Try.f5 false true false false) := by
  refine returnsInHanded_of_change_sized (C := Try.checked) own started (by kernel_rfl) Try.func5
    (ChangeSpec.witness6 (enc := enc) (C := Try.checked) false ⟨#[], #[.agg #[.int .u64 0, .int .u64 0], .agg #[.int .u64 0, .int .u64 0]], []⟩ 8 (by kernel_rfl) (by kernel_rfl) (by kernel_rfl) (by kernel_rfl)) ?_
  intro W base args ds gs before hval hW hcnd hsz _
  refine law_post (C := C5) (P := Try.prog) (d := 1) (tys := [tW, tW]) (x := x5) (tb := 4) ok5 rfl Try.func5 rfl (by kernel_rfl) Try.underlying4 ?_ laidOut (by kernel_rfl) (by kernel_rfl) law5 hval hW hsz
  intro ds hds
  match ds, hds with
  | [a, b], _ => exact ⟨rfl, rfl, rfl⟩
theorem over : Rows.wideAddsRow.holds Try.pinned (OpenSpec.ofChange Rows.wideAddsSpec) :=
  OpenClaim.holds_of_wide 5 Try.f5 rfl rfl rfl rfl rfl rfl rfl ⟨rfl, rfl, rfl, rfl, rfl⟩ rfl rfl rfl rfl rfl (by kernel_rfl) Try.func5 (by kernel_rfl)
    (of_decide_eq_true (by kernel_rfl)) (by unfold Func.isWrapper; first | (rw [if_pos (by decide +kernel)]; kernel_rfl) | (rw [if_neg (by decide +kernel)]; exact ⟨rfl, rfl⟩))
    (fun os started H enc _ => lifted os started H enc)
theorem proved : Rows.WideAddsSaid := over
end Go.Proofs.Ytfndobdfdhkepaa.wideAdds
namespace Go.Proofs.Ytfndobdfdhkepaa
/-- The row, under a short name. -/
theorem wideAdds_holds : Rows.WideAddsSaid := wideAdds.proved
#print axioms wideAdds_holds
end Go.Proofs.Ytfndobdfdhkepaa
