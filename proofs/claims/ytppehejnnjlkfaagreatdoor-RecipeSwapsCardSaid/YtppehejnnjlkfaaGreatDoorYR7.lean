/-
  RecipeSwaps: what is proved here: the given statement RecipeSwapsCardSaid: for every input, with no condition; what the row takes as laid is tied to the program's text.
-/
import Derived.Test.YtppehejnnjlkfaaGreatDoorYDe
import Derived.Test.YtppehejnnjlkfaaGreatDoorYQ
import Derived.Test.YtppehejnnjlkfaaGreatDoorCards
import Derived.LaidHandle
set_option linter.unusedVariables false
namespace Go.Proofs.YtppehejnnjlkfaaGreatDoor.recipeSwaps
open Go Go.Xec Go.ChangeShapes Go.WideShapes Go.ChangeAt Go.RowKit

set_option maxRecDepth 100000 in
theorem lifted (os : Os) (started : os.Started) (H : Type) (enc : TypeId × Value → H) :
    ReturnsInHanded {} Tryz.checked os 7 .any (fun w args => (Rows.recipeSwapsSpec.pre enc Tryz.prog Tryz.f7 [] false w args ∧ laidMetH Tryz.prog Rows.recipeSwapsRow.laid w) ∧ sizedMet enc Tryz.prog Tryz.f7 (OpenSpec.ofChange Rows.recipeSwapsSpec) false w args)
      (Rows.recipeSwapsSpec.post enc Tryz.prog Tryz.f7 false true false false) := by
  refine returns_of_laid_shaped (C := Tryz.checked) (X := fun w _ => laidMetH Tryz.prog Rows.recipeSwapsRow.laid w) (fun _ _ _ hh h => h.of_heap hh) seatOwn started (by kernel_rfl) Tryz.func7
    (ChangeSpec.witness_at (enc := enc) (C := Tryz.checked) (os := os) (X := fun w _ => laidMetH Tryz.prog Rows.recipeSwapsRow.laid w) false (laidWorld os) #[.agg #[.string ⟨#[]⟩, .int .i64 0, .int .i64 0, .int .i64 0, .int .i64 0, .int .i64 0, .int .i64 0, .int .i64 0, .int .i64 0, .int .i64 0, .int .i64 0, .int .i64 0, .int .i64 0, .int .i64 0], .agg #[.string ⟨#[]⟩, .int .i64 0, .int .i64 0, .int .i64 0, .int .i64 0, .int .i64 0, .int .i64 0, .int .i64 0, .int .i64 0, .int .i64 0, .int .i64 0, .int .i64 0, .int .i64 0, .int .i64 0]] 8 rfl (by kernel_rfl) (by kernel_rfl) (by kernel_rfl) (by kernel_rfl) (by kernel_rfl) (laidWorld_met os _)) ?_
  intro W base args ds gs before hval hW hcnd hsz hL hS _
  refine law_post (C := C16) (P := Tryz.prog) (d := 6) (tys := [tCh, tCh]) (x := x7) (tb := 4) ok16 rfl Tryz.func7 rfl (by kernel_rfl) Tryz.underlying4 ?_ seatLaidOut (by kernel_rfl) (by kernel_rfl) law7 (laid_of_met hL hS) hval hW hsz
  intro ds hds
  match ds, hds with
  | [a0, a1], _ => exact ⟨rfl, rfl, rfl⟩
theorem over : Rows.recipeSwapsRow.holds Tryz.pinned (OpenSpec.ofChange Rows.recipeSwapsSpec) :=
  OpenClaim.holds_of_wide 7 Tryz.f7 rfl rfl rfl rfl rfl rfl rfl ⟨rfl, rfl, rfl, rfl, rfl⟩ rfl rfl rfl rfl rfl (by kernel_rfl) Tryz.func7 (by kernel_rfl)
    (of_decide_eq_true (by kernel_rfl)) (by unfold Func.isWrapper; first | (rw [if_pos (by decide +kernel)]; kernel_rfl) | (rw [if_neg (by decide +kernel)]; exact ⟨rfl, rfl⟩))
    (fun os started H enc _ => lifted os started H enc)
theorem noStand : (Tryz.f7.params.toList.all fun t => !Tryz.prog.wantsStandIn t) = true := by kernel_rfl
theorem proved : Rows.RecipeSwapsCardSaid :=
  Claim7.holds_tied_plain_at .later [] [.data, .data, .data, .handle, .sentinel, .sentinel] true (true, "e225bc9c7c57e4f0de9b78aea7872bfcde41773fb7a91a0850bb2c228238edc8") true
    over (fun _ h => by cases h) (by kernel_rfl) (fun _ h => by cases h) recipeSwaps_row_tie rfl ⟨rfl, rfl⟩ (by kernel_rfl) rfl
    (fun f fn hf hfn => by
      obtain rfl : f = 7 := Option.some.inj ((show Tryz.prog.funcNamed Rows.recipeSwapsRow.func = some 7 by kernel_rfl).symm.trans hf) |>.symm
      obtain rfl : fn = Tryz.f7 := (Option.some.inj (Tryz.func7.symm.trans hfn)).symm
      exact ⟨by kernel_rfl, fun j t ht => by
        have := List.all_eq_true.1 noStand t (Array.mem_toList_iff.2 (Array.mem_of_getElem? ht))
        exact (by simpa using this : Tryz.prog.wantsStandIn t = false)⟩)
    (by kernel_rfl)
end Go.Proofs.YtppehejnnjlkfaaGreatDoor.recipeSwaps
namespace Go.Proofs.YtppehejnnjlkfaaGreatDoor
/-- The card, under a short name. -/
theorem recipeSwaps_holds : Rows.RecipeSwapsCardSaid := recipeSwaps.proved
#print axioms recipeSwaps_holds
end Go.Proofs.YtppehejnnjlkfaaGreatDoor
