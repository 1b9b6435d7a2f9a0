/-
  RecipeAgain: what is proved here: the given statement RecipeAgainCardSaid: for every input, with no condition; what the row takes as laid is tied to the program's text.
-/
import Derived.Test.YtppehejnnjlkfaaGreatDoorYDc
import Derived.Test.YtppehejnnjlkfaaGreatDoorYQ
import Derived.Test.YtppehejnnjlkfaaGreatDoorCards
import Derived.LaidHandle
set_option linter.unusedVariables false
namespace Go.Proofs.YtppehejnnjlkfaaGreatDoor.recipeAgain
open Go Go.Xec Go.ChangeShapes Go.WideShapes Go.ChangeAt Go.RowKit

set_option maxRecDepth 100000 in
theorem lifted (os : Os) (started : os.Started) (H : Type) (enc : TypeId × Value → H) :
    ReturnsInHanded {} Tryz.checked os 6 .any (fun w args => (Rows.recipeAgainSpec.pre enc Tryz.prog Tryz.f6 [] false w args ∧ laidMetH Tryz.prog Rows.recipeAgainRow.laid w) ∧ sizedMet enc Tryz.prog Tryz.f6 (OpenSpec.ofChange Rows.recipeAgainSpec) false w args)
      (Rows.recipeAgainSpec.post enc Tryz.prog Tryz.f6 false true false false) := by
  refine returns_of_laid_shaped (C := Tryz.checked) (X := fun w _ => laidMetH Tryz.prog Rows.recipeAgainRow.laid w) (fun _ _ _ hh h => h.of_heap hh) seatOwn started (by kernel_rfl) Tryz.func6
    (ChangeSpec.witness_at (enc := enc) (C := Tryz.checked) (os := os) (X := fun w _ => laidMetH Tryz.prog Rows.recipeAgainRow.laid w) false (laidWorld os) #[.string ⟨#[]⟩] 8 rfl (by kernel_rfl) (by kernel_rfl) (by kernel_rfl) (by kernel_rfl) (by kernel_rfl) (laidWorld_met os _)) ?_
  intro W base args ds gs before hval hW hcnd hsz hL hS _
  refine law_post (C := C16) (P := Tryz.prog) (d := 6) (tys := [.str]) (x := x6) (tb := 4) ok16 rfl Tryz.func6 rfl (by kernel_rfl) Tryz.underlying4 ?_ seatLaidOut (by kernel_rfl) (by kernel_rfl) law6 (laid_of_met hL hS) hval hW hsz
  intro ds hds
  match ds, hds with
  | [a0], _ => exact ⟨rfl, rfl, rfl⟩
theorem over : Rows.recipeAgainRow.holds Tryz.pinned (OpenSpec.ofChange Rows.recipeAgainSpec) :=
  OpenClaim.holds_of_wide 6 Tryz.f6 rfl rfl rfl rfl rfl rfl rfl ⟨rfl, rfl, rfl, rfl, rfl⟩ rfl rfl rfl rfl rfl (by kernel_rfl) Tryz.func6 (by kernel_rfl)
    (of_decide_eq_true (by kernel_rfl)) (by unfold Func.isWrapper; first | (rw [if_pos (by decide +kernel)]; kernel_rfl) | (rw [if_neg (by decide +kernel)]; exact ⟨rfl, rfl⟩))
    (fun os started H enc _ => lifted os started H enc)
theorem noStand : (Tryz.f6.params.toList.all fun t => !Tryz.prog.wantsStandIn t) = true := by kernel_rfl
theorem proved : Rows.RecipeAgainCardSaid :=
  Claim7.holds_tied_plain_at .later [] [.data, .data, .data, .handle, .sentinel, .sentinel] true (true, "e225bc9c7c57e4f0de9b78aea7872bfcde41773fb7a91a0850bb2c228238edc8") true
    over (fun _ h => by cases h) (by kernel_rfl) (fun _ h => by cases h) recipeAgain_row_tie rfl ⟨rfl, rfl⟩ (by kernel_rfl) rfl
    (fun f fn hf hfn => by
      obtain rfl : f = 6 := Option.some.inj ((show Tryz.prog.funcNamed Rows.recipeAgainRow.func = some 6 by kernel_rfl).symm.trans hf) |>.symm
      obtain rfl : fn = Tryz.f6 := (Option.some.inj (Tryz.func6.symm.trans hfn)).symm
      exact ⟨by kernel_rfl, fun j t ht => by
        have := List.all_eq_true.1 noStand t (Array.mem_toList_iff.2 (Array.mem_of_getElem? ht))
        exact (by simpa using this : Tryz.prog.wantsStandIn t = false)⟩)
    (by kernel_rfl)
end Go.Proofs.YtppehejnnjlkfaaGreatDoor.recipeAgain
namespace Go.Proofs.YtppehejnnjlkfaaGreatDoor
/-- The card, under a short name. -/
theorem recipeAgain_holds : Rows.RecipeAgainCardSaid := recipeAgain.proved
#print axioms recipeAgain_holds
end Go.Proofs.YtppehejnnjlkfaaGreatDoor
