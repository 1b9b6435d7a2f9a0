/-
  DERIVED. GIVEN WITH THE SEED: THE CARDS: each row of YtppehejnnjlkfaaGreatDoorRows.lean that lists a variable, with what it lists TIED to the program's text (the seventh form; the later family's looks); each row that meets fmt, with fmt's text TOLD by the authors' own Lean function (tested against real Go, not proved from fmt's source: count such statements apart). THE CARD IS WHAT COUNTS. Prove the row's statement (the work); the ties are given (YtppehejnnjlkfaaGreatDoorTie.lean); close each card by the builder's one call (the guide's Derived/Test/ToyasCard.lean, 'card_holds'). Laid BY PROGRAM, IN A SANDBOX (cutbox-door.mjs). By AI agents, Wed Nov 11 2026. No macro, syntax, notation, axiom, sorry.
-/
import Derived.Test.YtppehejnnjlkfaaGreatDoorRows
import GoSem.ClaimSeven
namespace Go.Proofs.YtppehejnnjlkfaaGreatDoor
namespace Rows

/-- THE TIED CARD OF 'datumlaw08.RecipeParses'. -/
def recipeParsesCard : Claim7 := { stood := { row := recipeParsesRow, standIns := [], harness := (true, "e225bc9c7c57e4f0de9b78aea7872bfcde41773fb7a91a0850bb2c228238edc8"), looks := true }, kinds := [], alts := [], laidByText := true, laidKinds := [.data, .data, .data, .handle, .sentinel, .sentinel], laidTests := true, laidLooks := .later }
def RecipeParsesCardSaid : Prop := Claim7.holds Tryz.pinned (.plain (OpenSpec.ofChange recipeParsesSpec)) recipeParsesCard

/-- THE TIED CARD OF 'datumlaw08.RecipePrints'. -/
def recipePrintsCard : Claim7 := { stood := { row := recipePrintsRow, standIns := [], harness := (true, "e225bc9c7c57e4f0de9b78aea7872bfcde41773fb7a91a0850bb2c228238edc8"), looks := true }, kinds := [], alts := [], laidByText := true, laidKinds := [.data, .data, .data, .handle, .sentinel, .sentinel], laidTests := true, laidLooks := .later }
def RecipePrintsCardSaid : Prop := Claim7.holds Tryz.pinned (.plain (OpenSpec.ofChange recipePrintsSpec)) recipePrintsCard

/-- THE TIED CARD OF 'datumlaw08.RecipeBack'. -/
def recipeBackCard : Claim7 := { stood := { row := recipeBackRow, standIns := [], harness := (true, "e225bc9c7c57e4f0de9b78aea7872bfcde41773fb7a91a0850bb2c228238edc8"), looks := true }, kinds := [], alts := [], laidByText := true, laidKinds := [.data, .data, .data, .handle, .sentinel, .sentinel], laidTests := true, laidLooks := .later }
def RecipeBackCardSaid : Prop := Claim7.holds Tryz.pinned (.plain (OpenSpec.ofChange recipeBackSpec)) recipeBackCard

/-- THE TIED CARD OF 'datumlaw08.RecipeAgain'. -/
def recipeAgainCard : Claim7 := { stood := { row := recipeAgainRow, standIns := [], harness := (true, "e225bc9c7c57e4f0de9b78aea7872bfcde41773fb7a91a0850bb2c228238edc8"), looks := true }, kinds := [], alts := [], laidByText := true, laidKinds := [.data, .data, .data, .handle, .sentinel, .sentinel], laidTests := true, laidLooks := .later }
def RecipeAgainCardSaid : Prop := Claim7.holds Tryz.pinned (.plain (OpenSpec.ofChange recipeAgainSpec)) recipeAgainCard

/-- THE TIED CARD OF 'datumlaw08.RecipeSwaps'. -/
def recipeSwapsCard : Claim7 := { stood := { row := recipeSwapsRow, standIns := [], harness := (true, "e225bc9c7c57e4f0de9b78aea7872bfcde41773fb7a91a0850bb2c228238edc8"), looks := true }, kinds := [], alts := [], laidByText := true, laidKinds := [.data, .data, .data, .handle, .sentinel, .sentinel], laidTests := true, laidLooks := .later }
def RecipeSwapsCardSaid : Prop := Claim7.holds Tryz.pinned (.plain (OpenSpec.ofChange recipeSwapsSpec)) recipeSwapsCard

/-- THE SECOND FORM's CARD OF 'datumlaw08.RecipeParses'. -/
def recipeParsesUptoCard : Claim7 := { stood := { row := recipeParsesUptoRow, standIns := [], harness := (true, "e225bc9c7c57e4f0de9b78aea7872bfcde41773fb7a91a0850bb2c228238edc8"), looks := true }, kinds := [], alts := [], laidByText := true, laidKinds := [.data, .data, .data, .handle, .sentinel, .sentinel], laidTests := true, laidLooks := .later }
def RecipeParsesUptoCardSaid : Prop := Claim7.holds Tryz.pinned (.plain (OpenSpec.upto recipeParsesSpec)) recipeParsesUptoCard

/-- THE SECOND FORM's CARD OF 'datumlaw08.RecipePrints'. -/
def recipePrintsUptoCard : Claim7 := { stood := { row := recipePrintsUptoRow, standIns := [], harness := (true, "e225bc9c7c57e4f0de9b78aea7872bfcde41773fb7a91a0850bb2c228238edc8"), looks := true }, kinds := [], alts := [], laidByText := true, laidKinds := [.data, .data, .data, .handle, .sentinel, .sentinel], laidTests := true, laidLooks := .later }
def RecipePrintsUptoCardSaid : Prop := Claim7.holds Tryz.pinned (.plain (OpenSpec.upto recipePrintsSpec)) recipePrintsUptoCard

/-- THE SECOND FORM's CARD OF 'datumlaw08.RecipeBack'. -/
def recipeBackUptoCard : Claim7 := { stood := { row := recipeBackUptoRow, standIns := [], harness := (true, "e225bc9c7c57e4f0de9b78aea7872bfcde41773fb7a91a0850bb2c228238edc8"), looks := true }, kinds := [], alts := [], laidByText := true, laidKinds := [.data, .data, .data, .handle, .sentinel, .sentinel], laidTests := true, laidLooks := .later }
def RecipeBackUptoCardSaid : Prop := Claim7.holds Tryz.pinned (.plain (OpenSpec.upto recipeBackSpec)) recipeBackUptoCard

/-- THE SECOND FORM's CARD OF 'datumlaw08.RecipeAgain'. -/
def recipeAgainUptoCard : Claim7 := { stood := { row := recipeAgainUptoRow, standIns := [], harness := (true, "e225bc9c7c57e4f0de9b78aea7872bfcde41773fb7a91a0850bb2c228238edc8"), looks := true }, kinds := [], alts := [], laidByText := true, laidKinds := [.data, .data, .data, .handle, .sentinel, .sentinel], laidTests := true, laidLooks := .later }
def RecipeAgainUptoCardSaid : Prop := Claim7.holds Tryz.pinned (.plain (OpenSpec.upto recipeAgainSpec)) recipeAgainUptoCard

/-- THE SECOND FORM's CARD OF 'datumlaw08.RecipeSwaps'. -/
def recipeSwapsUptoCard : Claim7 := { stood := { row := recipeSwapsUptoRow, standIns := [], harness := (true, "e225bc9c7c57e4f0de9b78aea7872bfcde41773fb7a91a0850bb2c228238edc8"), looks := true }, kinds := [], alts := [], laidByText := true, laidKinds := [.data, .data, .data, .handle, .sentinel, .sentinel], laidTests := true, laidLooks := .later }
def RecipeSwapsUptoCardSaid : Prop := Claim7.holds Tryz.pinned (.plain (OpenSpec.upto recipeSwapsSpec)) recipeSwapsUptoCard
end Rows
end Go.Proofs.YtppehejnnjlkfaaGreatDoor
