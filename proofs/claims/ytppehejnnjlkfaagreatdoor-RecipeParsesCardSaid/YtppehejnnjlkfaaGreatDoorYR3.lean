/-
  RecipeParses: what is proved here: the given statement RecipeParsesCardSaid: for every input, with no condition; what the row takes as laid is tied to the program's text.
-/
import Derived.Test.YtppehejnnjlkfaaGreatDoorYDa
import Derived.Test.YtppehejnnjlkfaaGreatDoorYQ
import Derived.Test.YtppehejnnjlkfaaGreatDoorCards
import Derived.LaidHandle
set_option linter.unusedVariables false
namespace Go.Proofs.YtppehejnnjlkfaaGreatDoor.recipeParses
open Go Go.Xec Go.ChangeShapes Go.WideShapes Go.ChangeAt Go.RowKit

set_option maxRecDepth 100000 in
theorem lifted (os : Os) (started : os.Started) (H : Type) (enc : TypeId × Value → H) :
    ReturnsInHanded {} Tryz.checked os 3 .any (fun w args => (Rows.recipeParsesSpec.pre enc Tryz.prog Tryz.f3 [] false w args ∧ laidMetH Tryz.prog Rows.recipeParsesRow.laid w) ∧ sizedMet enc Tryz.prog Tryz.f3 (OpenSpec.ofChange Rows.recipeParsesSpec) false w args)
      (Rows.recipeParsesSpec.post enc Tryz.prog Tryz.f3 false true false false) := by
  refine returns_of_laid_shaped (C := Tryz.checked) (X := fun w _ => laidMetH Tryz.prog Rows.recipeParsesRow.laid w) (fun _ _ _ hh h => h.of_heap hh) seatOwn started (by kernel_rfl) Tryz.func3
    (ChangeSpec.witness_at (enc := enc) (C := Tryz.checked) (os := os) (X := fun w _ => laidMetH Tryz.prog Rows.recipeParsesRow.laid w) false (laidWorld os) #[.string ⟨#[]⟩] 8 rfl (by kernel_rfl) (by kernel_rfl) (by kernel_rfl) (by kernel_rfl) (by kernel_rfl) (laidWorld_met os _)) ?_
  intro W base args ds gs before hval hW hcnd hsz hL hS _
  refine law_post (C := C15) (P := Tryz.prog) (d := 6) (tys := [.str]) (x := x3) (tb := 4) ok15 rfl Tryz.func3 rfl (by kernel_rfl) Tryz.underlying4 ?_ seatLaidOut (by kernel_rfl) (by kernel_rfl) law3 (laid_of_met hL hS) hval hW hsz
  intro ds hds
  match ds, hds with
  | [a0], _ => exact ⟨rfl, rfl, rfl⟩
theorem over : Rows.recipeParsesRow.holds Tryz.pinned (OpenSpec.ofChange Rows.recipeParsesSpec) :=
  OpenClaim.holds_of_wide 3 Tryz.f3 rfl rfl rfl rfl rfl rfl rfl ⟨rfl, rfl, rfl, rfl, rfl⟩ rfl rfl rfl rfl rfl (by kernel_rfl) Tryz.func3 (by kernel_rfl)
    (of_decide_eq_true (by kernel_rfl)) (by unfold Func.isWrapper; first | (rw [if_pos (by decide +kernel)]; kernel_rfl) | (rw [if_neg (by decide +kernel)]; exact ⟨rfl, rfl⟩))
    (fun os started H enc _ => lifted os started H enc)
theorem noStand : (Tryz.f3.params.toList.all fun t => !Tryz.prog.wantsStandIn t) = true := by kernel_rfl
theorem proved : Rows.RecipeParsesCardSaid :=
  Claim7.holds_tied_plain_at .later [] [.data, .data, .data, .handle, .sentinel, .sentinel] true (true, "e225bc9c7c57e4f0de9b78aea7872bfcde41773fb7a91a0850bb2c228238edc8") true
    over (fun _ h => by cases h) (by kernel_rfl) (fun _ h => by cases h) recipeParses_row_tie rfl ⟨rfl, rfl⟩ (by kernel_rfl) rfl
    (fun f fn hf hfn => by
      obtain rfl : f = 3 := Option.some.inj ((show Tryz.prog.funcNamed Rows.recipeParsesRow.func = some 3 by kernel_rfl).symm.trans hf) |>.symm
      obtain rfl : fn = Tryz.f3 := (Option.some.inj (Tryz.func3.symm.trans hfn)).symm
      exact ⟨by kernel_rfl, fun j t ht => by
        have := List.all_eq_true.1 noStand t (Array.mem_toList_iff.2 (Array.mem_of_getElem? ht))
        exact (by simpa using this : Tryz.prog.wantsStandIn t = false)⟩)
    (by kernel_rfl)
end Go.Proofs.YtppehejnnjlkfaaGreatDoor.recipeParses
namespace Go.Proofs.YtppehejnnjlkfaaGreatDoor
/-- The card, under a short name. -/
theorem recipeParses_holds : Rows.RecipeParsesCardSaid := recipeParses.proved
#print axioms recipeParses_holds
end Go.Proofs.YtppehejnnjlkfaaGreatDoor
