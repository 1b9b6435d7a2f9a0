/-
  ChannelSure: what is proved here: the given statement ChannelSureCardSaid: for every input, with no condition; what the row takes as laid is tied to the program's text.
-/
import Derived.Test.YtldineoabbodpaaGreatDoorZS6
import Derived.Test.YtldineoabbodpaaGreatDoorCards
import Derived.LaidHandle
set_option linter.unusedVariables false
namespace Go.Proofs.YtldineoabbodpaaGreatDoor.channelSure
open Go Go.Xec Go.ChangeShapes Go.WideShapes Go.ChangeAt Go.RowKit

set_option maxRecDepth 100000 in
theorem lifted (os : Os) (started : os.Started) (H : Type) (enc : TypeId × Value → H) :
    ReturnsInHanded {} Tryz.checked os 6 .any (fun w args => (Rows.channelSureSpec.pre enc Tryz.prog Tryz.f6 [] false w args ∧ laidMetH Tryz.prog Rows.channelSureRow.laid w) ∧ sizedMet enc Tryz.prog Tryz.f6 (OpenSpec.ofChange Rows.channelSureSpec) false w args)
      (Rows.channelSureSpec.post enc Tryz.prog Tryz.f6 false true false false) := by
  refine returns_of_laid_shaped (C := Tryz.checked) (X := fun w _ => laidMetH Tryz.prog Rows.channelSureRow.laid w) (fun _ _ _ hh h => h.of_heap hh) seatOwn started (by kernel_rfl) Tryz.func6
    (ChangeSpec.witness_at (enc := enc) (C := Tryz.checked) (os := os) (X := fun w _ => laidMetH Tryz.prog Rows.channelSureRow.laid w) false (laidWorld os) #[.int .i64 0, .int .i64 0, .int .i64 0, .slice none 0 0] 8 rfl (by kernel_rfl) (by kernel_rfl) (by kernel_rfl) (by kernel_rfl) (by kernel_rfl) (laidWorld_met os _)) ?_
  intro W base args ds gs before hval hW hcnd hsz hL hS _
  refine law_post (C := C51) (P := Tryz.prog) (d := 1) (tys := [.int .i64, .int .i64, .int .i64, .slice 1 8 (.int .i64)]) (x := x6) (tb := 4) ok51 rfl Tryz.func6 rfl (by kernel_rfl) Tryz.underlying4 ?_ seatLaidOut (by kernel_rfl) (by kernel_rfl) law6w (laid_of_met hL hS) hval hW hsz
  intro ds hds
  match ds, hds with
  | [a0, a1, a2, a3], _ => exact ⟨rfl, rfl, rfl⟩
theorem over : Rows.channelSureRow.holds Tryz.pinned (OpenSpec.ofChange Rows.channelSureSpec) :=
  OpenClaim.holds_of_wide 6 Tryz.f6 rfl rfl rfl rfl rfl rfl rfl ⟨rfl, rfl, rfl, rfl, rfl⟩ rfl rfl rfl rfl rfl (by kernel_rfl) Tryz.func6 (by kernel_rfl)
    (of_decide_eq_true (by kernel_rfl)) (by unfold Func.isWrapper; first | (rw [if_pos (by decide +kernel)]; kernel_rfl) | (rw [if_neg (by decide +kernel)]; exact ⟨rfl, rfl⟩))
    (fun os started H enc _ => lifted os started H enc)
theorem noStand : (Tryz.f6.params.toList.all fun t => !Tryz.prog.wantsStandIn t) = true := by kernel_rfl
theorem proved : Rows.ChannelSureCardSaid :=
  Claim7.holds_tied_plain_at .later [] [.data, .data] true (true, "609362c43c05d1a0826c93ed1973fcf5d9d4fb567aa105e653f4d0724a7db518") true
    over (fun _ h => by cases h) (by kernel_rfl) (fun _ h => by cases h) channelSure_row_tie rfl ⟨rfl, rfl⟩ (by kernel_rfl) rfl
    (fun f fn hf hfn => by
      obtain rfl : f = 6 := Option.some.inj ((show Tryz.prog.funcNamed Rows.channelSureRow.func = some 6 by kernel_rfl).symm.trans hf) |>.symm
      obtain rfl : fn = Tryz.f6 := (Option.some.inj (Tryz.func6.symm.trans hfn)).symm
      exact ⟨by kernel_rfl, fun j t ht => by
        have := List.all_eq_true.1 noStand t (Array.mem_toList_iff.2 (Array.mem_of_getElem? ht))
        exact (by simpa using this : Tryz.prog.wantsStandIn t = false)⟩)
    (by kernel_rfl)
end Go.Proofs.YtldineoabbodpaaGreatDoor.channelSure
namespace Go.Proofs.YtldineoabbodpaaGreatDoor
/-- The card, under a short name. -/
theorem channelSure_holds : Rows.ChannelSureCardSaid := channelSure.proved
#print axioms channelSure_holds
end Go.Proofs.YtldineoabbodpaaGreatDoor
