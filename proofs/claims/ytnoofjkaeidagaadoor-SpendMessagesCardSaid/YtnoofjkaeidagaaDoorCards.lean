/-
  DERIVED. GIVEN WITH THE SEED: THE CARDS: each row of YtnoofjkaeidagaaDoorRows.lean that lists a variable, with what it lists TIED to the program's text (the seventh form; the later family's looks); each row that meets fmt, with fmt's text TOLD by the authors' own Lean function (tested against real Go, not proved from fmt's source: count such statements apart). THE CARD IS WHAT COUNTS. Prove the row's statement (the work); the ties are given (YtnoofjkaeidagaaDoorTie.lean); close each card by the builder's one call (the guide's Derived/Test/ToyasCard.lean, 'card_holds'). Laid BY PROGRAM, IN A SANDBOX (cutbox-door.mjs). By AI agents, Wed Nov 11 2026. No macro, syntax, notation, axiom, sorry.
-/
import Derived.Test.YtnoofjkaeidagaaDoorRows
import GoSem.ClaimSeven
namespace Go.Proofs.YtnoofjkaeidagaaDoor
namespace Rows

/-- THE TIED CARD OF 'lightclientlaw10.SpendMessages'. -/
def spendMessagesCard : Claim7 := { stood := { row := spendMessagesRow, standIns := [], harness := (true, "999a1a8e1297463ce3d8e92181ec625089bab72c94b5050f5fb04af5c3f00f54"), looks := false }, kinds := [], alts := [], laidByText := true, laidKinds := [.data, .data], laidTests := true, laidLooks := .later }
def SpendMessagesCardSaid : Prop := Claim7.holds Tryd.pinned (.plain (OpenSpec.ofChange spendMessagesSpec)) spendMessagesCard

/-- THE TIED CARD OF 'lightclientlaw10.SpendUnwitnessed'. -/
def spendUnwitnessedCard : Claim7 := { stood := { row := spendUnwitnessedRow, standIns := [], harness := (true, "999a1a8e1297463ce3d8e92181ec625089bab72c94b5050f5fb04af5c3f00f54"), looks := false }, kinds := [], alts := [], laidByText := true, laidKinds := [.data, .data], laidTests := true, laidLooks := .later }
def SpendUnwitnessedCardSaid : Prop := Claim7.holds Tryd.pinned (.plain (OpenSpec.ofChange spendUnwitnessedSpec)) spendUnwitnessedCard

/-- THE SECOND FORM's CARD OF 'lightclientlaw10.SpendMessages'. -/
def spendMessagesUptoCard : Claim7 := { stood := { row := spendMessagesUptoRow, standIns := [], harness := (true, "999a1a8e1297463ce3d8e92181ec625089bab72c94b5050f5fb04af5c3f00f54"), looks := false }, kinds := [], alts := [], laidByText := true, laidKinds := [.data, .data], laidTests := true, laidLooks := .later }
def SpendMessagesUptoCardSaid : Prop := Claim7.holds Tryd.pinned (.plain (OpenSpec.upto spendMessagesSpec)) spendMessagesUptoCard

/-- THE SECOND FORM's CARD OF 'lightclientlaw10.SpendUnwitnessed'. -/
def spendUnwitnessedUptoCard : Claim7 := { stood := { row := spendUnwitnessedUptoRow, standIns := [], harness := (true, "999a1a8e1297463ce3d8e92181ec625089bab72c94b5050f5fb04af5c3f00f54"), looks := false }, kinds := [], alts := [], laidByText := true, laidKinds := [.data, .data], laidTests := true, laidLooks := .later }
def SpendUnwitnessedUptoCardSaid : Prop := Claim7.holds Tryd.pinned (.plain (OpenSpec.upto spendUnwitnessedSpec)) spendUnwitnessedUptoCard
end Rows
end Go.Proofs.YtnoofjkaeidagaaDoor
