/-
  DERIVED. GIVEN WITH THE SEED: THE CARDS: each row of YtaddodioccobmaaDoorRows.lean that lists a variable, with what it lists TIED to the program's text (the seventh form; the later family's looks); each row that meets fmt, with fmt's text TOLD by the authors' own Lean function (tested against real Go, not proved from fmt's source: count such statements apart). THE CARD IS WHAT COUNTS. Prove the row's statement (the work); the ties are given (YtaddodioccobmaaDoorTie.lean); close each card by the builder's one call (the guide's Derived/Test/ToyasCard.lean, 'card_holds'). Laid BY PROGRAM, IN A SANDBOX (cutbox-door.mjs). By AI agents, Wed Nov 11 2026. No macro, syntax, notation, axiom, sorry.
-/
import Derived.Test.YtaddodioccobmaaDoorRows
import GoSem.ClaimSeven
namespace Go.Proofs.YtaddodioccobmaaDoor
namespace Rows

/-- THE TIED CARD OF 'datumlaw22.SealTells'. -/
def sealTellsCard : Claim7 := { stood := { row := sealTellsRow, standIns := [], harness := (true, "b324c19511c6cb56bd710cfa58a4d662beff1e5e7a9bd0ad93146d674eaa6932"), looks := false }, kinds := [], alts := [], laidByText := true, laidKinds := [.data, .data, .data], laidTests := true, laidLooks := .later }
def SealTellsCardSaid : Prop := Claim7.holds Tryd.pinned (.plain (OpenSpec.ofChange sealTellsSpec)) sealTellsCard

/-- THE TIED CARD OF 'datumlaw22.SealOpens'. -/
def sealOpensCard : Claim7 := { stood := { row := sealOpensRow, standIns := [], harness := (true, "b324c19511c6cb56bd710cfa58a4d662beff1e5e7a9bd0ad93146d674eaa6932"), looks := false }, kinds := [], alts := [], laidByText := true, laidKinds := [.data, .data, .data, .data, .pinned], laidTests := true, laidLooks := .later }
def SealOpensCardSaid : Prop := Claim7.holds Tryd.pinned (.plain (OpenSpec.ofChange sealOpensSpec)) sealOpensCard

/-- THE TIED CARD OF 'datumlaw22.SealBack'. -/
def sealBackCard : Claim7 := { stood := { row := sealBackRow, standIns := [], harness := (true, "b324c19511c6cb56bd710cfa58a4d662beff1e5e7a9bd0ad93146d674eaa6932"), looks := false }, kinds := [], alts := [], laidByText := true, laidKinds := [.data, .data, .data, .data, .pinned], laidTests := true, laidLooks := .later }
def SealBackCardSaid : Prop := Claim7.holds Tryd.pinned (.plain (OpenSpec.ofChange sealBackSpec)) sealBackCard

/-- THE TIED CARD OF 'datumlaw22.SealTurns'. -/
def sealTurnsCard : Claim7 := { stood := { row := sealTurnsRow, standIns := [], harness := (true, "b324c19511c6cb56bd710cfa58a4d662beff1e5e7a9bd0ad93146d674eaa6932"), looks := false }, kinds := [], alts := [], laidByText := true, laidKinds := [.data, .data, .data, .data, .pinned], laidTests := true, laidLooks := .later }
def SealTurnsCardSaid : Prop := Claim7.holds Tryd.pinned (.plain (OpenSpec.ofChange sealTurnsSpec)) sealTurnsCard

/-- THE SECOND FORM's CARD OF 'datumlaw22.SealTells'. -/
def sealTellsUptoCard : Claim7 := { stood := { row := sealTellsUptoRow, standIns := [], harness := (true, "b324c19511c6cb56bd710cfa58a4d662beff1e5e7a9bd0ad93146d674eaa6932"), looks := false }, kinds := [], alts := [], laidByText := true, laidKinds := [.data, .data, .data], laidTests := true, laidLooks := .later }
def SealTellsUptoCardSaid : Prop := Claim7.holds Tryd.pinned (.plain (OpenSpec.upto sealTellsSpec)) sealTellsUptoCard

/-- THE SECOND FORM's CARD OF 'datumlaw22.SealOpens'. -/
def sealOpensUptoCard : Claim7 := { stood := { row := sealOpensUptoRow, standIns := [], harness := (true, "b324c19511c6cb56bd710cfa58a4d662beff1e5e7a9bd0ad93146d674eaa6932"), looks := false }, kinds := [], alts := [], laidByText := true, laidKinds := [.data, .data, .data, .data, .pinned], laidTests := true, laidLooks := .later }
def SealOpensUptoCardSaid : Prop := Claim7.holds Tryd.pinned (.plain (OpenSpec.upto sealOpensSpec)) sealOpensUptoCard

/-- THE SECOND FORM's CARD OF 'datumlaw22.SealBack'. -/
def sealBackUptoCard : Claim7 := { stood := { row := sealBackUptoRow, standIns := [], harness := (true, "b324c19511c6cb56bd710cfa58a4d662beff1e5e7a9bd0ad93146d674eaa6932"), looks := false }, kinds := [], alts := [], laidByText := true, laidKinds := [.data, .data, .data, .data, .pinned], laidTests := true, laidLooks := .later }
def SealBackUptoCardSaid : Prop := Claim7.holds Tryd.pinned (.plain (OpenSpec.upto sealBackSpec)) sealBackUptoCard

/-- THE SECOND FORM's CARD OF 'datumlaw22.SealTurns'. -/
def sealTurnsUptoCard : Claim7 := { stood := { row := sealTurnsUptoRow, standIns := [], harness := (true, "b324c19511c6cb56bd710cfa58a4d662beff1e5e7a9bd0ad93146d674eaa6932"), looks := false }, kinds := [], alts := [], laidByText := true, laidKinds := [.data, .data, .data, .data, .pinned], laidTests := true, laidLooks := .later }
def SealTurnsUptoCardSaid : Prop := Claim7.holds Tryd.pinned (.plain (OpenSpec.upto sealTurnsSpec)) sealTurnsUptoCard
end Rows
end Go.Proofs.YtaddodioccobmaaDoor
