/-
  JournalTexts: what is proved here: the given statement JournalTextsCardSaid: for every input, with no condition; what the row takes as laid is tied to the program's text.
-/
import Derived.Test.YtaoodcnhmjokoaaGreatDoorYKa
import Derived.Test.YtaoodcnhmjokoaaGreatDoorYQ
import Derived.Test.YtaoodcnhmjokoaaGreatDoorCards
import Derived.LaidHandle
set_option linter.unusedVariables false
namespace Go.Proofs.YtaoodcnhmjokoaaGreatDoor.journalTexts
open Go Go.Xec Go.ChangeShapes Go.WideShapes Go.ChangeAt Go.RowKit

set_option maxRecDepth 100000 in
theorem lifted (os : Os) (started : os.Started) (H : Type) (enc : TypeId × Value → H) :
    ReturnsInHanded {} Tryz.checked os 4 .any (fun w args => (Rows.journalTextsSpec.pre enc Tryz.prog Tryz.f4 [] false w args ∧ laidMetH Tryz.prog Rows.journalTextsRow.laid w) ∧ sizedMet enc Tryz.prog Tryz.f4 (OpenSpec.ofChange Rows.journalTextsSpec) false w args)
      (Rows.journalTextsSpec.post enc Tryz.prog Tryz.f4 false true false false) := by
  refine returns_of_laid_shaped (C := Tryz.checked) (X := fun w _ => laidMetH Tryz.prog Rows.journalTextsRow.laid w) (fun _ _ _ hh h => h.of_heap hh) seatOwn started (by kernel_rfl) Tryz.func4
    (ChangeSpec.witness_at (enc := enc) (C := Tryz.checked) (os := os) (X := fun w _ => laidMetH Tryz.prog Rows.journalTextsRow.laid w) false (laidWorld os) #[.agg #[.int .i64 0, .int .i64 0, .slice none 0 0], .string ⟨#[]⟩] 8 rfl (by kernel_rfl) (by kernel_rfl) (by kernel_rfl) (by kernel_rfl) (by kernel_rfl) (laidWorld_met os _)) ?_
  intro W base args ds gs before hval hW hcnd hsz hL hS _
  refine law_post (C := C15) (P := Tryz.prog) (d := 1) (tys := [tJ, .str]) (x := x4) (tb := 4) ok15 rfl Tryz.func4 rfl (by kernel_rfl) Tryz.underlying4 ?_ seatLaidOut (by kernel_rfl) (by kernel_rfl) law4 (laid_of_met hL hS) hval hW hsz
  intro ds hds
  match ds, hds with
  | [a0, a1], _ => exact ⟨rfl, rfl, rfl⟩
theorem over : Rows.journalTextsRow.holds Tryz.pinned (OpenSpec.ofChange Rows.journalTextsSpec) :=
  OpenClaim.holds_of_wide 4 Tryz.f4 rfl rfl rfl rfl rfl rfl rfl ⟨rfl, rfl, rfl, rfl, rfl⟩ rfl rfl rfl rfl rfl (by kernel_rfl) Tryz.func4 (by kernel_rfl)
    (of_decide_eq_true (by kernel_rfl)) (by unfold Func.isWrapper; first | (rw [if_pos (by decide +kernel)]; kernel_rfl) | (rw [if_neg (by decide +kernel)]; exact ⟨rfl, rfl⟩))
    (fun os started H enc _ => lifted os started H enc)
theorem noStand : (Tryz.f4.params.toList.all fun t => !Tryz.prog.wantsStandIn t) = true := by kernel_rfl
theorem proved : Rows.JournalTextsCardSaid :=
  Claim7.holds_tied_plain_at .later [] [.data, .data, .data, .data, .sentinel, .sentinel, .pinned] true (true, "1ff37027d548f51ce1d2b8e2a173bcb0d3ea3855900a44598e4af5b65eeb2f3d") true
    over (fun _ h => by cases h) (by kernel_rfl) (fun _ h => by cases h) journalTexts_row_tie rfl ⟨rfl, rfl⟩ (by kernel_rfl) rfl
    (fun f fn hf hfn => by
      obtain rfl : f = 4 := Option.some.inj ((show Tryz.prog.funcNamed Rows.journalTextsRow.func = some 4 by kernel_rfl).symm.trans hf) |>.symm
      obtain rfl : fn = Tryz.f4 := (Option.some.inj (Tryz.func4.symm.trans hfn)).symm
      exact ⟨by kernel_rfl, fun j t ht => by
        have := List.all_eq_true.1 noStand t (Array.mem_toList_iff.2 (Array.mem_of_getElem? ht))
        exact (by simpa using this : Tryz.prog.wantsStandIn t = false)⟩)
    (by kernel_rfl)
end Go.Proofs.YtaoodcnhmjokoaaGreatDoor.journalTexts
namespace Go.Proofs.YtaoodcnhmjokoaaGreatDoor
/-- The card, under a short name. -/
theorem journalTexts_holds : Rows.JournalTextsCardSaid := journalTexts.proved
#print axioms journalTexts_holds
end Go.Proofs.YtaoodcnhmjokoaaGreatDoor
