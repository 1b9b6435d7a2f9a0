/-
  ChannelStill: what is proved here: the given statement ChannelStillCardSaid: for every input, with no condition; what the row takes as laid is tied to the program's text.
-/
import Derived.Test.YtldineoabbodpaaGreatDoorZL7
import Derived.Test.YtldineoabbodpaaGreatDoorCards
import Derived.LaidHandle
set_option linter.unusedVariables false
namespace Go.Proofs.YtldineoabbodpaaGreatDoor.channelStill
open Go Go.Xec Go.ChangeShapes Go.WideShapes Go.ChangeAt Go.RowKit

set_option maxRecDepth 100000 in
theorem lifted (os : Os) (started : os.Started) (H : Type) (enc : TypeId × Value → H) :
    ReturnsInHanded {} Tryz.checked os 4 .any (fun w args => (Rows.channelStillSpec.pre enc Tryz.prog Tryz.f4 [] false w args ∧ laidMetH Tryz.prog Rows.channelStillRow.laid w) ∧ sizedMet enc Tryz.prog Tryz.f4 (OpenSpec.ofChange Rows.channelStillSpec) false w args)
      (Rows.channelStillSpec.post enc Tryz.prog Tryz.f4 false true false false) := by
  refine returns_of_laid_shaped (C := Tryz.checked) (X := fun w _ => laidMetH Tryz.prog Rows.channelStillRow.laid w) (fun _ _ _ hh h => h.of_heap hh) seatOwn started (by kernel_rfl) Tryz.func4
    (ChangeSpec.witness_at (enc := enc) (C := Tryz.checked) (os := os) (X := fun w _ => laidMetH Tryz.prog Rows.channelStillRow.laid w) false (laidWorld os) #[.int .i64 0, .int .i64 0, .slice none 0 0] 8 rfl (by kernel_rfl) (by kernel_rfl) (by kernel_rfl) (by kernel_rfl) (by kernel_rfl) (laidWorld_met os _)) ?_
  intro W base args ds gs before hval hW hcnd hsz hL hS _
  refine law_post (C := C46) (P := Tryz.prog) (d := 1) (tys := [.int .i64, .int .i64, .slice 1 8 (.int .i64)]) (x := x4) (tb := 4) ok46 rfl Tryz.func4 rfl (by kernel_rfl) Tryz.underlying4 ?_ seatLaidOut (by kernel_rfl) (by kernel_rfl) law4w (laid_of_met hL hS) hval hW hsz
  intro ds hds
  match ds, hds with
  | [a0, a1, a2], _ => exact ⟨rfl, rfl, rfl⟩
theorem over : Rows.channelStillRow.holds Tryz.pinned (OpenSpec.ofChange Rows.channelStillSpec) :=
  OpenClaim.holds_of_wide 4 Tryz.f4 rfl rfl rfl rfl rfl rfl rfl ⟨rfl, rfl, rfl, rfl, rfl⟩ rfl rfl rfl rfl rfl (by kernel_rfl) Tryz.func4 (by kernel_rfl)
    (of_decide_eq_true (by kernel_rfl)) (by unfold Func.isWrapper; first | (rw [if_pos (by decide +kernel)]; kernel_rfl) | (rw [if_neg (by decide +kernel)]; exact ⟨rfl, rfl⟩))
    (fun os started H enc _ => lifted os started H enc)
theorem noStand : (Tryz.f4.params.toList.all fun t => !Tryz.prog.wantsStandIn t) = true := by kernel_rfl
theorem proved : Rows.ChannelStillCardSaid :=
  Claim7.holds_tied_plain_at .later [] [.data, .data] true (true, "609362c43c05d1a0826c93ed1973fcf5d9d4fb567aa105e653f4d0724a7db518") true
    over (fun _ h => by cases h) (by kernel_rfl) (fun _ h => by cases h) channelStill_row_tie rfl ⟨rfl, rfl⟩ (by kernel_rfl) rfl
    (fun f fn hf hfn => by
      obtain rfl : f = 4 := Option.some.inj ((show Tryz.prog.funcNamed Rows.channelStillRow.func = some 4 by kernel_rfl).symm.trans hf) |>.symm
      obtain rfl : fn = Tryz.f4 := (Option.some.inj (Tryz.func4.symm.trans hfn)).symm
      exact ⟨by kernel_rfl, fun j t ht => by
        have := List.all_eq_true.1 noStand t (Array.mem_toList_iff.2 (Array.mem_of_getElem? ht))
        exact (by simpa using this : Tryz.prog.wantsStandIn t = false)⟩)
    (by kernel_rfl)
end Go.Proofs.YtldineoabbodpaaGreatDoor.channelStill
namespace Go.Proofs.YtldineoabbodpaaGreatDoor
/-- The card, under a short name. -/
theorem channelStill_holds : Rows.ChannelStillCardSaid := channelStill.proved
#print axioms channelStill_holds
end Go.Proofs.YtldineoabbodpaaGreatDoor
