/-
  SealBack: what is proved here: the given statement SealBackCardSaid: for every input, with no condition; what the row takes as laid is tied to the program's text.
-/
import Derived.Test.YtaddodioccobmaaDoorYJ
import Derived.Test.YtaddodioccobmaaDoorYQ2
import Derived.Test.YtaddodioccobmaaDoorCards
import Derived.LaidHandle
set_option linter.unusedVariables false
namespace Go.Proofs.YtaddodioccobmaaDoor.sealBack
open Go Go.Xec Go.ChangeShapes Go.WideShapes Go.ChangeAt Go.RowKit

set_option maxRecDepth 100000 in
theorem lifted (os : Os) (started : os.Started) (H : Type) (enc : TypeId × Value → H) :
    ReturnsInHanded {} Tryd.checked os 5 .any (fun w args => (Rows.sealBackSpec.pre enc Tryd.prog Tryd.f5 [] false w args ∧ laidMetH Tryd.prog Rows.sealBackRow.laid w) ∧ sizedMet enc Tryd.prog Tryd.f5 (OpenSpec.ofChange Rows.sealBackSpec) false w args)
      (Rows.sealBackSpec.post enc Tryd.prog Tryd.f5 false true false false) := by
  refine returnsInHanded_of_change_and (C := Tryd.checked) (X := fun w _ => laidMetH Tryd.prog Rows.sealBackRow.laid w) (fun _ _ _ hh h => h.of_heap hh) seatOwn started (by kernel_rfl) Tryd.func5
    (ChangeSpec.witness_at (enc := enc) (C := Tryd.checked) (os := os) (X := fun w _ => laidMetH Tryd.prog Rows.sealBackRow.laid w) false (laidWorld os) #[.string ⟨#[]⟩, .string ⟨#[]⟩] 8 rfl (by kernel_rfl) (by kernel_rfl) (by kernel_rfl) (by kernel_rfl) (by kernel_rfl) (laidWorld_met os _)) ?_
  intro W base args ds gs before hval hW hcnd hsz hL _
  refine law_post (C := C11) (P := Tryd.prog) (d := 1) (tys := [.str, .str]) (x := x5) (tb := 4) ok11 rfl Tryd.func5 rfl (by kernel_rfl) Tryd.underlying4 ?_ seatLaidOut (by kernel_rfl) (by kernel_rfl) law5 (laid_of_met hL) hval hW hsz
  intro ds hds
  match ds, hds with
  | [a0, a1], _ => exact ⟨rfl, rfl, rfl⟩
theorem over : Rows.sealBackRow.holds Tryd.pinned (OpenSpec.ofChange Rows.sealBackSpec) :=
  OpenClaim.holds_of_wide 5 Tryd.f5 rfl rfl rfl rfl rfl rfl rfl ⟨rfl, rfl, rfl, rfl, rfl⟩ rfl rfl rfl rfl rfl (by kernel_rfl) Tryd.func5 (by kernel_rfl)
    (of_decide_eq_true (by kernel_rfl)) (by unfold Func.isWrapper; first | (rw [if_pos (by decide +kernel)]; kernel_rfl) | (rw [if_neg (by decide +kernel)]; exact ⟨rfl, rfl⟩))
    (fun os started H enc _ => lifted os started H enc)
theorem noStand : (Tryd.f5.params.toList.all fun t => !Tryd.prog.wantsStandIn t) = true := by kernel_rfl
theorem proved : Rows.SealBackCardSaid :=
  Claim7.holds_tied_plain_at .later [] [.data, .data, .data, .data, .pinned] true (true, "b324c19511c6cb56bd710cfa58a4d662beff1e5e7a9bd0ad93146d674eaa6932") false
    over (fun _ h => by cases h) (by kernel_rfl) (fun _ h => by cases h) sealBack_row_tie rfl ⟨rfl, rfl⟩ (by kernel_rfl) rfl
    (fun f fn hf hfn => by
      obtain rfl : f = 5 := Option.some.inj ((show Tryd.prog.funcNamed Rows.sealBackRow.func = some 5 by kernel_rfl).symm.trans hf) |>.symm
      obtain rfl : fn = Tryd.f5 := (Option.some.inj (Tryd.func5.symm.trans hfn)).symm
      exact ⟨by kernel_rfl, fun j t ht => by
        have := List.all_eq_true.1 noStand t (Array.mem_toList_iff.2 (Array.mem_of_getElem? ht))
        exact (by simpa using this : Tryd.prog.wantsStandIn t = false)⟩)
    (by kernel_rfl)
end Go.Proofs.YtaddodioccobmaaDoor.sealBack
namespace Go.Proofs.YtaddodioccobmaaDoor
/-- The card, under a short name. -/
theorem sealBack_holds : Rows.SealBackCardSaid := sealBack.proved
#print axioms sealBack_holds
end Go.Proofs.YtaddodioccobmaaDoor
