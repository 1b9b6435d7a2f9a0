/-
  CollectWhole: what is proved here: the given statement CollectWholeSaid, for every input, with no condition.
-/
import Derived.Test.YtplmnikmdcnebaaYM
set_option linter.unusedVariables false
namespace Go.Proofs.Ytplmnikmdcnebaa.collectWhole
open Go Go.Xec Go.ChangeShapes Go.WideShapes Go.ChangeAt Go.RowKit

theorem own : ownKnob Try.prog.godebug = none := by kernel_rfl
theorem laidOut : laidOutB Try.prog = true := by kernel_rfl
set_option maxRecDepth 100000 in
theorem lifted (os : Os) (started : os.Started) (H : Type) (enc : TypeId × Value → H) :
    ReturnsInHanded {} Try.checked os 4 .any (Rows.collectWholeSpec.pre6 enc Try.prog Try.f4 Rows.collectWholeRow.domain false) (Rows.collectWholeSpec.post enc Try.prog Try.f4 false true false false) := by
  refine returnsInHanded_of_change_sized (C := Try.checked) own started (by kernel_rfl) Try.func4
    (ChangeSpec.witness6 (enc := enc) (C := Try.checked) false ⟨#[], #[.agg #[.int .i64 0, .int .i64 0, .int .i64 0, .slice none 0 0], .slice none 0 0], []⟩ 8 (by kernel_rfl) (by kernel_rfl) (by kernel_rfl) (by kernel_rfl)) ?_
  intro W base args ds gs before hval hW hcnd hsz _
  refine law_post (C := C7) (P := Try.prog) (d := 1) (tys := [tG, tS]) (x := x4) (tb := 4) ok7 rfl Try.func4 rfl (by kernel_rfl) Try.underlying4 ?_ laidOut (by kernel_rfl) (by kernel_rfl) law4 hval hW hsz
  intro ds hds
  match ds, hds with
  | [a0, a1], _ => exact ⟨rfl, rfl, rfl⟩
theorem over : Rows.collectWholeRow.holds Try.pinned (OpenSpec.ofChange Rows.collectWholeSpec) :=
  OpenClaim.holds_of_wide 4 Try.f4 rfl rfl rfl rfl rfl rfl rfl ⟨rfl, rfl, rfl, rfl, rfl⟩ rfl rfl rfl rfl rfl (by kernel_rfl) Try.func4 (by kernel_rfl)
    (of_decide_eq_true (by kernel_rfl)) (by unfold Func.isWrapper; first | (rw [if_pos (by decide +kernel)]; kernel_rfl) | (rw [if_neg (by decide +kernel)]; exact ⟨rfl, rfl⟩))
    (fun os started H enc _ => lifted os started H enc)
theorem proved : Rows.CollectWholeSaid := over
end Go.Proofs.Ytplmnikmdcnebaa.collectWhole
namespace Go.Proofs.Ytplmnikmdcnebaa
/-- The row, under a short name. -/
theorem collectWhole_holds : Rows.CollectWholeSaid := collectWhole.proved
#print axioms collectWhole_holds
end Go.Proofs.Ytplmnikmdcnebaa
