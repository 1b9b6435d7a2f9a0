/-
  DERIVED. GIVEN WITH THE SEED: THE CARDS: each row of YtldineoabbodpaaGreatDoorRows.lean that lists a variable, with what it lists TIED to the program's text (the seventh form; the later family's looks); each row that meets fmt, with fmt's text TOLD by the authors' own Lean function (tested against real Go, not proved from fmt's source: count such statements apart). THE CARD IS WHAT COUNTS. Prove the row's statement (the work); the ties are given (YtldineoabbodpaaGreatDoorTie.lean); close each card by the builder's one call (the guide's Derived/Test/ToyasCard.lean, 'card_holds'). Laid BY PROGRAM, IN A SANDBOX (cutbox-door.mjs). By AI agents, Wed Nov 11 2026. No macro, syntax, notation, axiom, sorry.
-/
import Derived.Test.YtldineoabbodpaaGreatDoorRows
import GoSem.ClaimSeven
namespace Go.Proofs.YtldineoabbodpaaGreatDoor
namespace Rows

/-- THE TIED CARD OF 'datumlaw24.ChannelCap'. -/
def channelCapCard : Claim7 := { stood := { row := channelCapRow, standIns := [], harness := (true, "609362c43c05d1a0826c93ed1973fcf5d9d4fb567aa105e653f4d0724a7db518"), looks := true }, kinds := [], alts := [], laidByText := true, laidKinds := [.data, .data], laidTests := true, laidLooks := .later }
def ChannelCapCardSaid : Prop := Claim7.holds Tryz.pinned (.plain (OpenSpec.ofChange channelCapSpec)) channelCapCard

/-- THE TIED CARD OF 'datumlaw24.ChannelStill'. -/
def channelStillCard : Claim7 := { stood := { row := channelStillRow, standIns := [], harness := (true, "609362c43c05d1a0826c93ed1973fcf5d9d4fb567aa105e653f4d0724a7db518"), looks := true }, kinds := [], alts := [], laidByText := true, laidKinds := [.data, .data], laidTests := true, laidLooks := .later }
def ChannelStillCardSaid : Prop := Claim7.holds Tryz.pinned (.plain (OpenSpec.ofChange channelStillSpec)) channelStillCard

/-- THE TIED CARD OF 'datumlaw24.ChannelRuns'. -/
def channelRunsCard : Claim7 := { stood := { row := channelRunsRow, standIns := [], harness := (true, "609362c43c05d1a0826c93ed1973fcf5d9d4fb567aa105e653f4d0724a7db518"), looks := true }, kinds := [], alts := [], laidByText := true, laidKinds := [.data, .data], laidTests := true, laidLooks := .later }
def ChannelRunsCardSaid : Prop := Claim7.holds Tryz.pinned (.plain (OpenSpec.ofChange channelRunsSpec)) channelRunsCard

/-- THE TIED CARD OF 'datumlaw24.ChannelSure'. -/
def channelSureCard : Claim7 := { stood := { row := channelSureRow, standIns := [], harness := (true, "609362c43c05d1a0826c93ed1973fcf5d9d4fb567aa105e653f4d0724a7db518"), looks := true }, kinds := [], alts := [], laidByText := true, laidKinds := [.data, .data], laidTests := true, laidLooks := .later }
def ChannelSureCardSaid : Prop := Claim7.holds Tryz.pinned (.plain (OpenSpec.ofChange channelSureSpec)) channelSureCard

/-- THE TIED CARD OF 'datumlaw24.ChannelSteps'. -/
def channelStepsCard : Claim7 := { stood := { row := channelStepsRow, standIns := [], harness := (true, "609362c43c05d1a0826c93ed1973fcf5d9d4fb567aa105e653f4d0724a7db518"), looks := true }, kinds := [], alts := [], laidByText := true, laidKinds := [.data, .data], laidTests := true, laidLooks := .later }
def ChannelStepsCardSaid : Prop := Claim7.holds Tryz.pinned (.plain (OpenSpec.ofChange channelStepsSpec)) channelStepsCard

/-- THE SECOND FORM's CARD OF 'datumlaw24.ChannelCap'. -/
def channelCapUptoCard : Claim7 := { stood := { row := channelCapUptoRow, standIns := [], harness := (true, "609362c43c05d1a0826c93ed1973fcf5d9d4fb567aa105e653f4d0724a7db518"), looks := true }, kinds := [], alts := [], laidByText := true, laidKinds := [.data, .data], laidTests := true, laidLooks := .later }
def ChannelCapUptoCardSaid : Prop := Claim7.holds Tryz.pinned (.plain (OpenSpec.upto channelCapSpec)) channelCapUptoCard

/-- THE SECOND FORM's CARD OF 'datumlaw24.ChannelStill'. -/
def channelStillUptoCard : Claim7 := { stood := { row := channelStillUptoRow, standIns := [], harness := (true, "609362c43c05d1a0826c93ed1973fcf5d9d4fb567aa105e653f4d0724a7db518"), looks := true }, kinds := [], alts := [], laidByText := true, laidKinds := [.data, .data], laidTests := true, laidLooks := .later }
def ChannelStillUptoCardSaid : Prop := Claim7.holds Tryz.pinned (.plain (OpenSpec.upto channelStillSpec)) channelStillUptoCard

/-- THE SECOND FORM's CARD OF 'datumlaw24.ChannelRuns'. -/
def channelRunsUptoCard : Claim7 := { stood := { row := channelRunsUptoRow, standIns := [], harness := (true, "609362c43c05d1a0826c93ed1973fcf5d9d4fb567aa105e653f4d0724a7db518"), looks := true }, kinds := [], alts := [], laidByText := true, laidKinds := [.data, .data], laidTests := true, laidLooks := .later }
def ChannelRunsUptoCardSaid : Prop := Claim7.holds Tryz.pinned (.plain (OpenSpec.upto channelRunsSpec)) channelRunsUptoCard

/-- THE SECOND FORM's CARD OF 'datumlaw24.ChannelSure'. -/
def channelSureUptoCard : Claim7 := { stood := { row := channelSureUptoRow, standIns := [], harness := (true, "609362c43c05d1a0826c93ed1973fcf5d9d4fb567aa105e653f4d0724a7db518"), looks := true }, kinds := [], alts := [], laidByText := true, laidKinds := [.data, .data], laidTests := true, laidLooks := .later }
def ChannelSureUptoCardSaid : Prop := Claim7.holds Tryz.pinned (.plain (OpenSpec.upto channelSureSpec)) channelSureUptoCard

/-- THE SECOND FORM's CARD OF 'datumlaw24.ChannelSteps'. -/
def channelStepsUptoCard : Claim7 := { stood := { row := channelStepsUptoRow, standIns := [], harness := (true, "609362c43c05d1a0826c93ed1973fcf5d9d4fb567aa105e653f4d0724a7db518"), looks := true }, kinds := [], alts := [], laidByText := true, laidKinds := [.data, .data], laidTests := true, laidLooks := .later }
def ChannelStepsUptoCardSaid : Prop := Claim7.holds Tryz.pinned (.plain (OpenSpec.upto channelStepsSpec)) channelStepsUptoCard
end Rows
end Go.Proofs.YtldineoabbodpaaGreatDoor
