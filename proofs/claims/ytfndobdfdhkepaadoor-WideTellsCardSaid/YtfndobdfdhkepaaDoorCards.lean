/-
  DERIVED. GIVEN WITH THE SEED: THE CARDS: each row of YtfndobdfdhkepaaDoorRows.lean that lists a variable, with what it lists TIED to the program's text (the seventh form; the later family's looks); each row that meets fmt, with fmt's text TOLD by the authors' own Lean function (tested against real Go, not proved from fmt's source: count such statements apart). THE CARD IS WHAT COUNTS. Prove the row's statement (the work); the ties are given (YtfndobdfdhkepaaDoorTie.lean); close each card by the builder's one call (the guide's Derived/Test/ToyasCard.lean, 'card_holds'). Laid BY PROGRAM, IN A SANDBOX (cutbox-door.mjs). By AI agents, Wed Nov 11 2026. No macro, syntax, notation, axiom, sorry.
-/
import Derived.Test.YtfndobdfdhkepaaDoorRows
import GoSem.ClaimSeven
namespace Go.Proofs.YtfndobdfdhkepaaDoor
namespace Rows

/-- THE TIED CARD OF 'datumlaw01.WideTells'. -/
def wideTellsCard : Claim7 := { stood := { row := wideTellsRow, standIns := [], harness := (true, "9102f6201780ec2611116b994bbd425fb0521680ab4d602d0d61a9068bc409d4"), looks := false }, kinds := [], alts := [], laidByText := true, laidKinds := [.data, .data, .data], laidTests := true, laidLooks := .later }
def WideTellsCardSaid : Prop := Claim7.holds Tryd.pinned (.plain (OpenSpec.ofChange wideTellsSpec)) wideTellsCard

/-- THE SECOND FORM's CARD OF 'datumlaw01.WideTells'. -/
def wideTellsUptoCard : Claim7 := { stood := { row := wideTellsUptoRow, standIns := [], harness := (true, "9102f6201780ec2611116b994bbd425fb0521680ab4d602d0d61a9068bc409d4"), looks := false }, kinds := [], alts := [], laidByText := true, laidKinds := [.data, .data, .data], laidTests := true, laidLooks := .later }
def WideTellsUptoCardSaid : Prop := Claim7.holds Tryd.pinned (.plain (OpenSpec.upto wideTellsSpec)) wideTellsUptoCard
end Rows
end Go.Proofs.YtfndobdfdhkepaaDoor
