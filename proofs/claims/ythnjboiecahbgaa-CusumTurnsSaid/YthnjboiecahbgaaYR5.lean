/-
  CusumTurns: what is proved here: the given statement CusumTurnsSaid, for every input, with no condition.
-/
import Derived.Test.YthnjboiecahbgaaYH
set_option linter.unusedVariables false
namespace Go.Proofs.Ythnjboiecahbgaa.cusumTurns
open Go Go.Xec Go.ChangeShapes Go.WideShapes Go.ChangeAt Go.RowKit

theorem own : ownKnob Try.prog.godebug = none := by kernel_rfl
theorem laidOut : laidOutB Try.prog = true := by kernel_rfl
set_option maxRecDepth 100000 in
theorem lifted (os : Os) (started : os.Started) (H : Type) (enc : TypeId × Value → H) :
    ReturnsInHanded {} Try.checked os 5 .any (Rows.cusumTurnsSpec.pre6 enc Try.prog Try.f5 Rows.cusumTurnsRow.domain false) (Rows.cusumTurnsSpec.post enc Try.prog Try.f5 false true false false) := by
  refine returnsInHanded_of_change_sized (C := Try.checked) own started (by kernel_rfl) Try.func5
    (ChangeSpec.witness6 (enc := enc) (C := Try.checked) false ⟨#[], #[.int .i64 0, .int .i64 0, .int .i64 0, .slice none 0 0, .int .i64 0], []⟩ 8 (by kernel_rfl) (by kernel_rfl) (by kernel_rfl) (by kernel_rfl)) ?_
  intro W base args ds gs before hval hW hcnd hsz _
  refine law_post (C := C6) (P := Try.prog) (d := 1) (tys := [tI, tI, tI, tS, tI]) (x := x5) (tb := 4) ok6 rfl Try.func5 rfl (by kernel_rfl) Try.underlying4 ?_ laidOut (by kernel_rfl) (by kernel_rfl) law5 hval hW hsz
  intro ds hds
  match ds, hds with
  | [a0, a1, a2, a3, a4], _ => exact ⟨rfl, rfl, rfl⟩
theorem over : Rows.cusumTurnsRow.holds Try.pinned (OpenSpec.ofChange Rows.cusumTurnsSpec) :=
  OpenClaim.holds_of_wide 5 Try.f5 rfl rfl rfl rfl rfl rfl rfl ⟨rfl, rfl, rfl, rfl, rfl⟩ rfl rfl rfl rfl rfl (by kernel_rfl) Try.func5 (by kernel_rfl)
    (of_decide_eq_true (by kernel_rfl)) (by unfold Func.isWrapper; first | (rw [if_pos (by decide +kernel)]; kernel_rfl) | (rw [if_neg (by decide +kernel)]; exact ⟨rfl, rfl⟩))
    (fun os started H enc _ => lifted os started H enc)
theorem proved : Rows.CusumTurnsSaid := over
end Go.Proofs.Ythnjboiecahbgaa.cusumTurns
namespace Go.Proofs.Ythnjboiecahbgaa
/-- The row, under a short name. -/
theorem cusumTurns_holds : Rows.CusumTurnsSaid := cusumTurns.proved
#print axioms cusumTurns_holds
end Go.Proofs.Ythnjboiecahbgaa
