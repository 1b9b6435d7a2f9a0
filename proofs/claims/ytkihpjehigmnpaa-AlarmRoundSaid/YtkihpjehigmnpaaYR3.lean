/-
  AlarmRound: what is proved here: the given statement AlarmRoundSaid, for every input, with no condition.
-/
import Derived.Test.YtkihpjehigmnpaaYP
set_option linter.unusedVariables false
namespace Go.Proofs.Ytkihpjehigmnpaa.alarmRound
open Go Go.Xec Go.ChangeShapes Go.WideShapes Go.ChangeAt Go.RowKit

theorem own : ownKnob Try.prog.godebug = none := by kernel_rfl
theorem laidOut : laidOutB Try.prog = true := by kernel_rfl
theorem laidFree (W : World) : Laid Try.prog W := by
  refine ⟨?_, ?_, ?_⟩
  · intro t ht hne
    simp only [tabs, List.mem_cons, List.not_mem_nil, or_false] at ht
    rcases ht with rfl | rfl
    · exact absurd (by kernel_rfl : Try.prog.globalNamed "internal/strconv.uint64pow10" = none) hne
    · exact absurd (by kernel_rfl : Try.prog.globalNamed "math/bits.deBruijn64tab" = none) hne
  · intro n hn hg
    simp only [errs, List.mem_cons, List.not_mem_nil, or_false] at hn
    rcases hn with rfl | rfl
    · exact absurd (by kernel_rfl : Try.prog.globalNamed "strconv.ErrSyntax" = none) hg
    · exact absurd (by kernel_rfl : Try.prog.globalNamed "strconv.ErrRange" = none) hg
  · intro g hg
    rw [(by kernel_rfl : Try.prog.globalNamed "internal/bytealg.MaxLen" = none)] at hg
    cases hg
set_option maxRecDepth 100000 in
theorem lifted (os : Os) (started : os.Started) (H : Type) (enc : TypeId × Value → H) :
    ReturnsInHanded {} Try.checked os 3 .any (Rows.alarmRoundSpec.pre6 enc Try.prog Try.f3 Rows.alarmRoundRow.domain false) (Rows.alarmRoundSpec.post enc Try.prog Try.f3 false true false false) := by
  refine returnsInHanded_of_change_sized (C := Try.checked) own started (by kernel_rfl) Try.func3
    (ChangeSpec.witness6 (enc := enc) (C := Try.checked) false ⟨#[], #[.slice none 0 0, .int .i64 0, .int .i64 0], []⟩ 8 (by kernel_rfl) (by kernel_rfl) (by kernel_rfl) (by kernel_rfl)) ?_
  intro W base args ds gs before hval hW hcnd hsz _
  refine law_post (C := C9) (P := Try.prog) (d := 1) (tys := [tDeeds, tI, tI]) (x := x3) (tb := 4) ok9 rfl Try.func3 rfl (by kernel_rfl) Try.underlying4 ?_ laidOut (by kernel_rfl) (by kernel_rfl) law3 (laidFree W) hval hW hsz
  intro ds hds
  match ds, hds with
  | [a0, a1, a2], _ => exact ⟨rfl, rfl, rfl⟩
theorem over : Rows.alarmRoundRow.holds Try.pinned (OpenSpec.ofChange Rows.alarmRoundSpec) :=
  OpenClaim.holds_of_wide 3 Try.f3 rfl rfl rfl rfl rfl rfl rfl ⟨rfl, rfl, rfl, rfl, rfl⟩ rfl rfl rfl rfl rfl (by kernel_rfl) Try.func3 (by kernel_rfl)
    (of_decide_eq_true (by kernel_rfl)) (by unfold Func.isWrapper; first | (rw [if_pos (by decide +kernel)]; kernel_rfl) | (rw [if_neg (by decide +kernel)]; exact ⟨rfl, rfl⟩))
    (fun os started H enc _ => lifted os started H enc)
theorem proved : Rows.AlarmRoundSaid := over
end Go.Proofs.Ytkihpjehigmnpaa.alarmRound
namespace Go.Proofs.Ytkihpjehigmnpaa
/-- The row, under a short name. -/
theorem alarmRound_holds : Rows.AlarmRoundSaid := alarmRound.proved
#print axioms alarmRound_holds
end Go.Proofs.Ytkihpjehigmnpaa
