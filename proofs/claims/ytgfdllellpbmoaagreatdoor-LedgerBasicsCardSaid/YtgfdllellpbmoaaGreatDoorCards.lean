/-
  DERIVED. GIVEN WITH THE SEED: THE CARDS: each row of YtgfdllellpbmoaaGreatDoorRows.lean that lists a variable, with what it lists TIED to the program's text (the seventh form; the later family's looks); each row that meets fmt, with fmt's text TOLD by the authors' own Lean function (tested against real Go, not proved from fmt's source: count such statements apart). THE CARD IS WHAT COUNTS. Prove the row's statement (the work); the ties are given (YtgfdllellpbmoaaGreatDoorTie.lean); close each card by the builder's one call (the guide's Derived/Test/ToyasCard.lean, 'card_holds'). Laid BY PROGRAM, IN A SANDBOX (cutbox-door.mjs). By AI agents, Wed Nov 11 2026. No macro, syntax, notation, axiom, sorry.
-/
import Derived.Test.YtgfdllellpbmoaaGreatDoorRows
import GoSem.ClaimSeven
namespace Go.Proofs.YtgfdllellpbmoaaGreatDoor
namespace Rows

/-- THE TIED CARD OF 'lightclientlaw23.LedgerBasics'. -/
def ledgerBasicsCard : Claim7 := { stood := { row := ledgerBasicsRow, standIns := [], harness := (true, "0f1bd51025a3ec0e29c6de4e5281cc90c31c7b715a35af4ec05fde65a1c0d55a"), looks := false }, kinds := [], alts := [], laidByText := true, laidKinds := [.data, .data], laidTests := true, laidLooks := .later }
def LedgerBasicsCardSaid : Prop := Claim7.holds Tryz.pinned (.plain (OpenSpec.ofChange ledgerBasicsSpec)) ledgerBasicsCard

/-- THE SECOND FORM's CARD OF 'lightclientlaw23.LedgerBasics'. -/
def ledgerBasicsUptoCard : Claim7 := { stood := { row := ledgerBasicsUptoRow, standIns := [], harness := (true, "0f1bd51025a3ec0e29c6de4e5281cc90c31c7b715a35af4ec05fde65a1c0d55a"), looks := false }, kinds := [], alts := [], laidByText := true, laidKinds := [.data, .data], laidTests := true, laidLooks := .later }
def LedgerBasicsUptoCardSaid : Prop := Claim7.holds Tryz.pinned (.plain (OpenSpec.upto ledgerBasicsSpec)) ledgerBasicsUptoCard
end Rows
end Go.Proofs.YtgfdllellpbmoaaGreatDoor
