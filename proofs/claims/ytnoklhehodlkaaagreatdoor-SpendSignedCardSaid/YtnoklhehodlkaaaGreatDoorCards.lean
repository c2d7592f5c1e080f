/-
  DERIVED. GIVEN WITH THE SEED: THE CARDS: each row of YtnoklhehodlkaaaGreatDoorRows.lean that lists a variable, with what it lists TIED to the program's text (the seventh form; the later family's looks); each row that meets fmt, with fmt's text TOLD by the authors' own Lean function (tested against real Go, not proved from fmt's source: count such statements apart). THE CARD IS WHAT COUNTS. Prove the row's statement (the work); the ties are given (YtnoklhehodlkaaaGreatDoorTie.lean); close each card by the builder's one call (the guide's Derived/Test/ToyasCard.lean, 'card_holds'). Laid BY PROGRAM, IN A SANDBOX (cutbox-door.mjs). By AI agents, Wed Nov 11 2026. No macro, syntax, notation, axiom, sorry.
-/
import Derived.Test.YtnoklhehodlkaaaGreatDoorRows
import GoSem.ClaimSeven
namespace Go.Proofs.YtnoklhehodlkaaaGreatDoor
namespace Rows

/-- THE TIED CARD OF 'lightclientlaw08.ScriptSigned'. -/
def scriptSignedCard : Claim7 := { stood := { row := scriptSignedRow, standIns := [], harness := (true, "eff0aca0cbb85d6dec98eaf178689af1623ea4da573d0f3d5e741652d9eb7548"), looks := false }, kinds := [], alts := [], laidByText := true, laidKinds := [.data, .data], laidTests := true, laidLooks := .later }
def ScriptSignedCardSaid : Prop := Claim7.holds Tryz.pinned (.plain (OpenSpec.ofChange scriptSignedSpec)) scriptSignedCard

/-- THE TIED CARD OF 'lightclientlaw10.SpendSigned'. -/
def spendSignedCard : Claim7 := { stood := { row := spendSignedRow, standIns := [], harness := (true, "eff0aca0cbb85d6dec98eaf178689af1623ea4da573d0f3d5e741652d9eb7548"), looks := false }, kinds := [], alts := [], laidByText := true, laidKinds := [.data, .data], laidTests := true, laidLooks := .later }
def SpendSignedCardSaid : Prop := Claim7.holds Tryz.pinned (.plain (OpenSpec.ofChange spendSignedSpec)) spendSignedCard

/-- THE SECOND FORM's CARD OF 'lightclientlaw08.ScriptSigned'. -/
def scriptSignedUptoCard : Claim7 := { stood := { row := scriptSignedUptoRow, standIns := [], harness := (true, "eff0aca0cbb85d6dec98eaf178689af1623ea4da573d0f3d5e741652d9eb7548"), looks := false }, kinds := [], alts := [], laidByText := true, laidKinds := [.data, .data], laidTests := true, laidLooks := .later }
def ScriptSignedUptoCardSaid : Prop := Claim7.holds Tryz.pinned (.plain (OpenSpec.upto scriptSignedSpec)) scriptSignedUptoCard

/-- THE SECOND FORM's CARD OF 'lightclientlaw10.SpendSigned'. -/
def spendSignedUptoCard : Claim7 := { stood := { row := spendSignedUptoRow, standIns := [], harness := (true, "eff0aca0cbb85d6dec98eaf178689af1623ea4da573d0f3d5e741652d9eb7548"), looks := false }, kinds := [], alts := [], laidByText := true, laidKinds := [.data, .data], laidTests := true, laidLooks := .later }
def SpendSignedUptoCardSaid : Prop := Claim7.holds Tryz.pinned (.plain (OpenSpec.upto spendSignedSpec)) spendSignedUptoCard
end Rows
end Go.Proofs.YtnoklhehodlkaaaGreatDoor
