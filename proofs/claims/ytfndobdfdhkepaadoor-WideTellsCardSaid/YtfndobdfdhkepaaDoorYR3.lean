/-
  WideTells: what is proved here: the given statement WideTellsCardSaid: for every input, with no condition; what the row takes as laid is tied to the program's text.
-/
import Derived.Test.YtfndobdfdhkepaaDoorYF
import Derived.Test.YtfndobdfdhkepaaDoorYQ
import Derived.Test.YtfndobdfdhkepaaDoorCards
import Derived.LaidHandle
set_option linter.unusedVariables false
namespace Go.Proofs.YtfndobdfdhkepaaDoor.wideTells
open Go Go.Xec Go.ChangeShapes Go.WideShapes Go.ChangeAt Go.RowKit

set_option maxRecDepth 100000 in
theorem lifted (os : Os) (started : os.Started) (H : Type) (enc : TypeId × Value → H) :
    ReturnsInHanded {} Tryd.checked os 3 .any (fun w args => (Rows.wideTellsSpec.pre enc Tryd.prog Tryd.f3 [] false w args ∧ laidMetH Tryd.prog Rows.wideTellsRow.laid w) ∧ sizedMet enc Tryd.prog Tryd.f3 (OpenSpec.ofChange Rows.wideTellsSpec) false w args)
      (Rows.wideTellsSpec.post enc Tryd.prog Tryd.f3 false true false false) := by
  refine returnsInHanded_of_change_and (C := Tryd.checked) (X := fun w _ => laidMetH Tryd.prog Rows.wideTellsRow.laid w) (fun _ _ _ hh h => h.of_heap hh) seatOwn started (by kernel_rfl) Tryd.func3
    (ChangeSpec.witness_at (enc := enc) (C := Tryd.checked) (os := os) (X := fun w _ => laidMetH Tryd.prog Rows.wideTellsRow.laid w) false (laidWorld os) #[.agg #[.int .u64 0, .int .u64 0]] 8 rfl (by kernel_rfl) (by kernel_rfl) (by kernel_rfl) (by kernel_rfl) (by kernel_rfl) (laidWorld_met os _)) ?_
  intro W base args ds gs before hval hW hcnd hsz hL _
  refine law_post (C := C7) (P := Tryd.prog) (d := 1) (tys := [tW]) (x := x3) (tb := 4) ok7 rfl Tryd.func3 rfl (by kernel_rfl) Tryd.underlying4 ?_ seatLaidOut (by kernel_rfl) (by kernel_rfl) law3 (laid_of_met hL) hval hW hsz
  intro ds hds
  match ds, hds with
  | [a0], _ => exact ⟨rfl, rfl, rfl⟩
theorem over : Rows.wideTellsRow.holds Tryd.pinned (OpenSpec.ofChange Rows.wideTellsSpec) :=
  OpenClaim.holds_of_wide 3 Tryd.f3 rfl rfl rfl rfl rfl rfl rfl ⟨rfl, rfl, rfl, rfl, rfl⟩ rfl rfl rfl rfl rfl (by kernel_rfl) Tryd.func3 (by kernel_rfl)
    (of_decide_eq_true (by kernel_rfl)) (by unfold Func.isWrapper; first | (rw [if_pos (by decide +kernel)]; kernel_rfl) | (rw [if_neg (by decide +kernel)]; exact ⟨rfl, rfl⟩))
    (fun os started H enc _ => lifted os started H enc)
theorem noStand : (Tryd.f3.params.toList.all fun t => !Tryd.prog.wantsStandIn t) = true := by kernel_rfl
theorem proved : Rows.WideTellsCardSaid :=
  Claim7.holds_tied_plain_at .later [] [.data, .data, .data] true (true, "9102f6201780ec2611116b994bbd425fb0521680ab4d602d0d61a9068bc409d4") false
    over (fun _ h => by cases h) (by kernel_rfl) (fun _ h => by cases h) wideTells_row_tie rfl ⟨rfl, rfl⟩ (by kernel_rfl) rfl
    (fun f fn hf hfn => by
      obtain rfl : f = 3 := Option.some.inj ((show Tryd.prog.funcNamed Rows.wideTellsRow.func = some 3 by kernel_rfl).symm.trans hf) |>.symm
      obtain rfl : fn = Tryd.f3 := (Option.some.inj (Tryd.func3.symm.trans hfn)).symm
      exact ⟨by kernel_rfl, fun j t ht => by
        have := List.all_eq_true.1 noStand t (Array.mem_toList_iff.2 (Array.mem_of_getElem? ht))
        exact (by simpa using this : Tryd.prog.wantsStandIn t = false)⟩)
    (by kernel_rfl)
end Go.Proofs.YtfndobdfdhkepaaDoor.wideTells
namespace Go.Proofs.YtfndobdfdhkepaaDoor
/-- The card, under a short name. -/
theorem wideTells_holds : Rows.WideTellsCardSaid := wideTells.proved
#print axioms wideTells_holds
end Go.Proofs.YtfndobdfdhkepaaDoor
