/-
  DERIVED. GIVEN WITH THE SEED: THE CARDS: each row of YtaoodcnhmjokoaaGreatDoorRows.lean that lists a variable, with what it lists TIED to the program's text (the seventh form; the later family's looks); each row that meets fmt, with fmt's text TOLD by the authors' own Lean function (tested against real Go, not proved from fmt's source: count such statements apart). THE CARD IS WHAT COUNTS. Prove the row's statement (the work); the ties are given (YtaoodcnhmjokoaaGreatDoorTie.lean); close each card by the builder's one call (the guide's Derived/Test/ToyasCard.lean, 'card_holds'). Laid BY PROGRAM, IN A SANDBOX (cutbox-door.mjs). By AI agents, Wed Nov 11 2026. No macro, syntax, notation, axiom, sorry.
-/
import Derived.Test.YtaoodcnhmjokoaaGreatDoorRows
import GoSem.ClaimSeven
namespace Go.Proofs.YtaoodcnhmjokoaaGreatDoor
namespace Rows

/-- THE TIED CARD OF 'datumlaw23.JournalAppends'. -/
def journalAppendsCard : Claim7 := { stood := { row := journalAppendsRow, standIns := [], harness := (true, "1ff37027d548f51ce1d2b8e2a173bcb0d3ea3855900a44598e4af5b65eeb2f3d"), looks := true }, kinds := [], alts := [], laidByText := true, laidKinds := [.data, .data, .data, .data, .sentinel, .sentinel, .pinned], laidTests := true, laidLooks := .later }
def JournalAppendsCardSaid : Prop := Claim7.holds Tryz.pinned (.plain (OpenSpec.ofChange journalAppendsSpec)) journalAppendsCard

/-- THE TIED CARD OF 'datumlaw23.JournalTexts'. -/
def journalTextsCard : Claim7 := { stood := { row := journalTextsRow, standIns := [], harness := (true, "1ff37027d548f51ce1d2b8e2a173bcb0d3ea3855900a44598e4af5b65eeb2f3d"), looks := true }, kinds := [], alts := [], laidByText := true, laidKinds := [.data, .data, .data, .data, .sentinel, .sentinel, .pinned], laidTests := true, laidLooks := .later }
def JournalTextsCardSaid : Prop := Claim7.holds Tryz.pinned (.plain (OpenSpec.ofChange journalTextsSpec)) journalTextsCard

/-- THE TIED CARD OF 'datumlaw23.JournalBack'. -/
def journalBackCard : Claim7 := { stood := { row := journalBackRow, standIns := [], harness := (true, "1ff37027d548f51ce1d2b8e2a173bcb0d3ea3855900a44598e4af5b65eeb2f3d"), looks := true }, kinds := [], alts := [], laidByText := true, laidKinds := [.data, .data, .data, .data, .sentinel, .sentinel, .pinned], laidTests := true, laidLooks := .later }
def JournalBackCardSaid : Prop := Claim7.holds Tryz.pinned (.plain (OpenSpec.ofChange journalBackSpec)) journalBackCard

/-- THE TIED CARD OF 'datumlaw23.JournalKeeps'. -/
def journalKeepsCard : Claim7 := { stood := { row := journalKeepsRow, standIns := [], harness := (true, "1ff37027d548f51ce1d2b8e2a173bcb0d3ea3855900a44598e4af5b65eeb2f3d"), looks := true }, kinds := [], alts := [], laidByText := true, laidKinds := [.data, .data, .data, .data, .sentinel, .sentinel, .pinned], laidTests := true, laidLooks := .later }
def JournalKeepsCardSaid : Prop := Claim7.holds Tryz.pinned (.plain (OpenSpec.ofChange journalKeepsSpec)) journalKeepsCard

/-- THE SECOND FORM's CARD OF 'datumlaw23.JournalAppends'. -/
def journalAppendsUptoCard : Claim7 := { stood := { row := journalAppendsUptoRow, standIns := [], harness := (true, "1ff37027d548f51ce1d2b8e2a173bcb0d3ea3855900a44598e4af5b65eeb2f3d"), looks := true }, kinds := [], alts := [], laidByText := true, laidKinds := [.data, .data, .data, .data, .sentinel, .sentinel, .pinned], laidTests := true, laidLooks := .later }
def JournalAppendsUptoCardSaid : Prop := Claim7.holds Tryz.pinned (.plain (OpenSpec.upto journalAppendsSpec)) journalAppendsUptoCard

/-- THE SECOND FORM's CARD OF 'datumlaw23.JournalTexts'. -/
def journalTextsUptoCard : Claim7 := { stood := { row := journalTextsUptoRow, standIns := [], harness := (true, "1ff37027d548f51ce1d2b8e2a173bcb0d3ea3855900a44598e4af5b65eeb2f3d"), looks := true }, kinds := [], alts := [], laidByText := true, laidKinds := [.data, .data, .data, .data, .sentinel, .sentinel, .pinned], laidTests := true, laidLooks := .later }
def JournalTextsUptoCardSaid : Prop := Claim7.holds Tryz.pinned (.plain (OpenSpec.upto journalTextsSpec)) journalTextsUptoCard

/-- THE SECOND FORM's CARD OF 'datumlaw23.JournalBack'. -/
def journalBackUptoCard : Claim7 := { stood := { row := journalBackUptoRow, standIns := [], harness := (true, "1ff37027d548f51ce1d2b8e2a173bcb0d3ea3855900a44598e4af5b65eeb2f3d"), looks := true }, kinds := [], alts := [], laidByText := true, laidKinds := [.data, .data, .data, .data, .sentinel, .sentinel, .pinned], laidTests := true, laidLooks := .later }
def JournalBackUptoCardSaid : Prop := Claim7.holds Tryz.pinned (.plain (OpenSpec.upto journalBackSpec)) journalBackUptoCard

/-- THE SECOND FORM's CARD OF 'datumlaw23.JournalKeeps'. -/
def journalKeepsUptoCard : Claim7 := { stood := { row := journalKeepsUptoRow, standIns := [], harness := (true, "1ff37027d548f51ce1d2b8e2a173bcb0d3ea3855900a44598e4af5b65eeb2f3d"), looks := true }, kinds := [], alts := [], laidByText := true, laidKinds := [.data, .data, .data, .data, .sentinel, .sentinel, .pinned], laidTests := true, laidLooks := .later }
def JournalKeepsUptoCardSaid : Prop := Claim7.holds Tryz.pinned (.plain (OpenSpec.upto journalKeepsSpec)) journalKeepsUptoCard
end Rows
end Go.Proofs.YtaoodcnhmjokoaaGreatDoor
