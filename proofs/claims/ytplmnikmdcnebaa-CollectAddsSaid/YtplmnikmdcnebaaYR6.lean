/-
  CollectAdds: what is proved here: the given statement CollectAddsSaid, for every input, with no condition.
-/
import Derived.Test.YtplmnikmdcnebaaYL
set_option linter.unusedVariables false
namespace Go.Proofs.Ytplmnikmdcnebaa.collectAdds
open Go Go.Xec Go.ChangeShapes Go.WideShapes Go.ChangeAt Go.RowKit

theorem own : ownKnob Try.prog.godebug = none := by kernel_rfl
theorem laidOut : laidOutB Try.prog = true := by kernel_rfl
set_option maxRecDepth 100000 in
theorem lifted (os : Os) (started : os.Started) (H : Type) (enc : TypeId × Value → H) :
    ReturnsInHanded {} Try.checked os 6 .any (Rows.collectAddsSpec.pre6 enc Try.prog Try.f6 Rows.collectAddsRow.domain false) (Rows.collectAddsSpec.post enc Try.prog Try.f6 false true false false) := by
  refine returnsInHanded_of_change_sized (C := Try.checked) own started (by kernel_rfl) Try.func6
    (ChangeSpec.witness6 (enc := enc) (C := Try.checked) false ⟨#[], #[.int .i64 0, .int .i64 0, .int .i64 0, .agg #[.int .i64 0, .int .i64 0, .int .i64 0, .slice none 0 0], .int .i64 0], []⟩ 8 (by kernel_rfl) (by kernel_rfl) (by kernel_rfl) (by kernel_rfl)) ?_
  intro W base args ds gs before hval hW hcnd hsz _
  refine law_post (C := C7) (P := Try.prog) (d := 1) (tys := [tI, tI, tI, tG, tI]) (x := x6) (tb := 4) ok7 rfl Try.func6 rfl (by kernel_rfl) Try.underlying4 ?_ laidOut (by kernel_rfl) (by kernel_rfl) law6 hval hW hsz
  intro ds hds
  match ds, hds with
  | [a0, a1, a2, a3, a4], _ => exact ⟨rfl, rfl, rfl⟩
theorem over : Rows.collectAddsRow.holds Try.pinned (OpenSpec.ofChange Rows.collectAddsSpec) :=
  OpenClaim.holds_of_wide 6 Try.f6 rfl rfl rfl rfl rfl rfl rfl ⟨rfl, rfl, rfl, rfl, rfl⟩ rfl rfl rfl rfl rfl (by kernel_rfl) Try.func6 (by kernel_rfl)
    (of_decide_eq_true (by kernel_rfl)) (by unfold Func.isWrapper; first | (rw [if_pos (by decide +kernel)]; kernel_rfl) | (rw [if_neg (by decide +kernel)]; exact ⟨rfl, rfl⟩))
    (fun os started H enc _ => lifted os started H enc)
theorem proved : Rows.CollectAddsSaid := over
end Go.Proofs.Ytplmnikmdcnebaa.collectAdds
namespace Go.Proofs.Ytplmnikmdcnebaa
/-- The row, under a short name. -/
theorem collectAdds_holds : Rows.CollectAddsSaid := collectAdds.proved
#print axioms collectAdds_holds
end Go.Proofs.Ytplmnikmdcnebaa
