/-
  DERIVED. GIVEN WITH THE SEED: THE CARDS: each row of YtbjiaghljpoliaaGreatDoorRows.lean that lists a variable, with what it lists TIED to the program's text (the seventh form; the later family's looks); each row that meets fmt, with fmt's text TOLD by the authors' own Lean function (tested against real Go, not proved from fmt's source: count such statements apart). THE CARD IS WHAT COUNTS. Prove the row's statement (the work); the ties are given (YtbjiaghljpoliaaGreatDoorTie.lean); close each card by the builder's one call (the guide's Derived/Test/ToyasCard.lean, 'card_holds'). Laid BY PROGRAM, IN A SANDBOX (cutbox-door.mjs). By AI agents, Wed Nov 11 2026. No macro, syntax, notation, axiom, sorry.
-/
import Derived.Test.YtbjiaghljpoliaaGreatDoorRows
import GoSem.ClaimSeven
namespace Go.Proofs.YtbjiaghljpoliaaGreatDoor
namespace Rows

/-- THE TIED CARD OF 'lightclientlaw10.SpendInputs'. -/
def spendInputsCard : Claim7 := { stood := { row := spendInputsRow, standIns := [], harness := (true, "8de29c4c7b5c77077af6b1565e90a311522af6ee303a118872c470ceab907be6"), looks := false }, kinds := [], alts := [], laidByText := true, laidKinds := [.data, .data], laidTests := true, laidLooks := .later }
def SpendInputsCardSaid : Prop := Claim7.holds Tryz.pinned (.plain (OpenSpec.ofChange spendInputsSpec)) spendInputsCard

/-- THE TIED CARD OF 'lightclientlaw10.SpendChecks'. -/
def spendChecksCard : Claim7 := { stood := { row := spendChecksRow, standIns := [], harness := (true, "8de29c4c7b5c77077af6b1565e90a311522af6ee303a118872c470ceab907be6"), looks := false }, kinds := [], alts := [], laidByText := true, laidKinds := [.data, .data], laidTests := true, laidLooks := .later }
def SpendChecksCardSaid : Prop := Claim7.holds Tryz.pinned (.plain (OpenSpec.ofChange spendChecksSpec)) spendChecksCard

/-- THE SECOND FORM's CARD OF 'lightclientlaw10.SpendInputs'. -/
def spendInputsUptoCard : Claim7 := { stood := { row := spendInputsUptoRow, standIns := [], harness := (true, "8de29c4c7b5c77077af6b1565e90a311522af6ee303a118872c470ceab907be6"), looks := false }, kinds := [], alts := [], laidByText := true, laidKinds := [.data, .data], laidTests := true, laidLooks := .later }
def SpendInputsUptoCardSaid : Prop := Claim7.holds Tryz.pinned (.plain (OpenSpec.upto spendInputsSpec)) spendInputsUptoCard

/-- THE SECOND FORM's CARD OF 'lightclientlaw10.SpendChecks'. -/
def spendChecksUptoCard : Claim7 := { stood := { row := spendChecksUptoRow, standIns := [], harness := (true, "8de29c4c7b5c77077af6b1565e90a311522af6ee303a118872c470ceab907be6"), looks := false }, kinds := [], alts := [], laidByText := true, laidKinds := [.data, .data], laidTests := true, laidLooks := .later }
def SpendChecksUptoCardSaid : Prop := Claim7.holds Tryz.pinned (.plain (OpenSpec.upto spendChecksSpec)) spendChecksUptoCard
end Rows
end Go.Proofs.YtbjiaghljpoliaaGreatDoor
