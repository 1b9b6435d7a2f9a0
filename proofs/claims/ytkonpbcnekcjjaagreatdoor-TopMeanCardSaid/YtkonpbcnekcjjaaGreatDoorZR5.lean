/-
  TopMean: what is proved here: the given statement TopMeanCardSaid: for every input, with no condition; what the row takes as laid is tied to the program's text.
-/
import Derived.Test.YtkonpbcnekcjjaaGreatDoorZM6
import Derived.Test.YtkonpbcnekcjjaaGreatDoorYRa5
import Derived.Test.YtkonpbcnekcjjaaGreatDoorYRb5
import Derived.Test.YtkonpbcnekcjjaaGreatDoorYRc5
import Derived.Test.YtkonpbcnekcjjaaGreatDoorYRd5
import Derived.Test.YtkonpbcnekcjjaaGreatDoorCards
import Derived.LaidHandle
set_option linter.unusedVariables false
namespace Go.Proofs.YtkonpbcnekcjjaaGreatDoor.topMean
open Go Go.Xec Go.ChangeShapes Go.WideShapes Go.ChangeAt Go.RowKit

set_option maxRecDepth 100000 in
theorem lifted (os : Os) (started : os.Started) (H : Type) (enc : TypeId × Value → H) :
    ReturnsInHanded {} Tryz.checked os 5 .any (fun w args => (Rows.topMeanSpec.pre enc Tryz.prog Tryz.f5 [] false w args ∧ laidMetH Tryz.prog Rows.topMeanRow.laid w) ∧ sizedMet enc Tryz.prog Tryz.f5 (OpenSpec.ofChange Rows.topMeanSpec) false w args)
      (Rows.topMeanSpec.post enc Tryz.prog Tryz.f5 false true false false) := by
  refine returns_of_laid_shaped (C := Tryz.checked) (X := fun w _ => laidMetH Tryz.prog Rows.topMeanRow.laid w) (fun _ _ _ hh h => h.of_heap hh) seatOwn started (by kernel_rfl) Tryz.func5
    (ChangeSpec.witness_at (enc := enc) (C := Tryz.checked) (os := os) (X := fun w _ => laidMetH Tryz.prog Rows.topMeanRow.laid w) false (laidWorld os) #[.slice none 0 0, .int .i64 0, .int .i64 0] 8 rfl (by kernel_rfl) (by kernel_rfl) (by kernel_rfl) (by kernel_rfl) (by kernel_rfl) (laidWorld_met os _)) ?_
  intro W base args ds gs before hval hW hcnd hsz hL hS _
  refine law_post (C := DV.CX5) (P := Tryz.prog) (d := 1) (tys := [.slice 1 8 (.int .i64), .int .i64, .int .i64]) (x := x5) (tb := 4) DV.okX5 rfl Tryz.func5 rfl (by kernel_rfl) Tryz.underlying4 ?_ seatLaidOut (by kernel_rfl) (by kernel_rfl) DV.law5f (laid_of_met hL hS) hval hW hsz
  intro ds hds
  match ds, hds with
  | [a0, a1, a2], _ => exact ⟨rfl, rfl, rfl⟩
set_option maxRecDepth 100000 in
theorem closed : joinedFacts Tryz.pinned.checked.prog 5 Tryz.f5 Rows.topMeanSpec Rows.topMeanRow = true := by
  unfold joinedFacts
  rw [hq1, hq2, hq3, hq4, hq5, hq6, hq7, hq8, hq9]
  kernel_rfl
theorem over : Rows.topMeanRow.holds Tryz.pinned (OpenSpec.ofChange Rows.topMeanSpec) :=
  OpenClaim.holds_of_wide 5 Tryz.f5 rfl rfl rfl rfl rfl rfl rfl ⟨rfl, rfl, rfl, rfl, rfl⟩ rfl rfl rfl rfl rfl hr5 Tryz.func5 closed
    (of_decide_eq_true (by kernel_rfl)) (by unfold Func.isWrapper; first | (rw [if_pos (by decide +kernel)]; kernel_rfl) | (rw [if_neg (by decide +kernel)]; exact ⟨rfl, rfl⟩))
    (fun os started H enc _ => lifted os started H enc)
theorem noStand : (Tryz.f5.params.toList.all fun t => !Tryz.prog.wantsStandIn t) = true := by kernel_rfl
theorem proved : Rows.TopMeanCardSaid :=
  Claim7.holds_tied_plain_at .later [] [.data, .data, .data, .data, .handle, .sentinel, .sentinel, .pinned] true (true, "5174a43007520dea7daf6a90f3fde7bfbdefd9918b75df0782ff619d418cc15b") true
    over (fun _ h => by cases h) hr1 (fun _ h => by cases h) topMean_row_tie rfl ⟨rfl, rfl⟩ hr2 rfl
    (fun f fn hf hfn => by
      obtain rfl : f = 5 := Option.some.inj ((show Tryz.prog.funcNamed Rows.topMeanRow.func = some 5 from hr5).symm.trans hf) |>.symm
      obtain rfl : fn = Tryz.f5 := (Option.some.inj (Tryz.func5.symm.trans hfn)).symm
      exact ⟨hr3, fun j t ht => by
        have := List.all_eq_true.1 noStand t (Array.mem_toList_iff.2 (Array.mem_of_getElem? ht))
        exact (by simpa using this : Tryz.prog.wantsStandIn t = false)⟩)
    hr4
end Go.Proofs.YtkonpbcnekcjjaaGreatDoor.topMean
namespace Go.Proofs.YtkonpbcnekcjjaaGreatDoor
/-- The card, under a short name. -/
theorem topMean_holds : Rows.TopMeanCardSaid := topMean.proved
#print axioms topMean_holds
end Go.Proofs.YtkonpbcnekcjjaaGreatDoor
