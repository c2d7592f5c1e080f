/-
  DERIVED. GIVEN WITH THE SEED: THE CARDS: each row of YtopdhljncajmpaaGreatDoorRows.lean that lists a variable, with what it lists TIED to the program's text (the seventh form; the later family's looks); each row that meets fmt, with fmt's text TOLD by the authors' own Lean function (tested against real Go, not proved from fmt's source: count such statements apart). THE CARD IS WHAT COUNTS. Prove the row's statement (the work); the ties are given (YtopdhljncajmpaaGreatDoorTie.lean); close each card by the builder's one call (the guide's Derived/Test/ToyasCard.lean, 'card_holds'). Laid BY PROGRAM, IN A SANDBOX (cutbox-door.mjs). By AI agents, Wed Nov 11 2026. No macro, syntax, notation, axiom, sorry.
-/
import Derived.Test.YtopdhljncajmpaaGreatDoorRows
import GoSem.ClaimSeven
namespace Go.Proofs.YtopdhljncajmpaaGreatDoor
namespace Rows

/-- THE TIED CARD OF 'lightclientlaw23.LedgerConnects'. -/
def ledgerConnectsCard : Claim7 := { stood := { row := ledgerConnectsRow, standIns := [], harness := (true, "b2e1595d9a7a121b9c4dade2d4df0a40bfaadd1aced4a6a8c3cd6b0552b3e822"), looks := false }, kinds := [], alts := [], laidByText := true, laidKinds := [.data, .data], laidTests := true, laidLooks := .later }
def LedgerConnectsCardSaid : Prop := Claim7.holds Tryz.pinned (.plain (OpenSpec.ofChange ledgerConnectsSpec)) ledgerConnectsCard

/-- THE TIED CARD OF 'lightclientlaw23.LedgerRuns'. -/
def ledgerRunsCard : Claim7 := { stood := { row := ledgerRunsRow, standIns := [], harness := (true, "b2e1595d9a7a121b9c4dade2d4df0a40bfaadd1aced4a6a8c3cd6b0552b3e822"), looks := false }, kinds := [], alts := [], laidByText := true, laidKinds := [.data, .data], laidTests := true, laidLooks := .later }
def LedgerRunsCardSaid : Prop := Claim7.holds Tryz.pinned (.plain (OpenSpec.ofChange ledgerRunsSpec)) ledgerRunsCard

/-- THE TIED CARD OF 'lightclientlaw23.LedgerMoney'. -/
def ledgerMoneyCard : Claim7 := { stood := { row := ledgerMoneyRow, standIns := [], harness := (true, "b2e1595d9a7a121b9c4dade2d4df0a40bfaadd1aced4a6a8c3cd6b0552b3e822"), looks := false }, kinds := [], alts := [], laidByText := true, laidKinds := [.data, .data], laidTests := true, laidLooks := .later }
def LedgerMoneyCardSaid : Prop := Claim7.holds Tryz.pinned (.plain (OpenSpec.ofChange ledgerMoneySpec)) ledgerMoneyCard

/-- THE TIED CARD OF 'lightclientlaw23.LedgerDisconnects'. -/
def ledgerDisconnectsCard : Claim7 := { stood := { row := ledgerDisconnectsRow, standIns := [], harness := (true, "b2e1595d9a7a121b9c4dade2d4df0a40bfaadd1aced4a6a8c3cd6b0552b3e822"), looks := false }, kinds := [], alts := [], laidByText := true, laidKinds := [.data, .data], laidTests := true, laidLooks := .later }
def LedgerDisconnectsCardSaid : Prop := Claim7.holds Tryz.pinned (.plain (OpenSpec.ofChange ledgerDisconnectsSpec)) ledgerDisconnectsCard

/-- THE TIED CARD OF 'lightclientlaw23.LedgerUndoes'. -/
def ledgerUndoesCard : Claim7 := { stood := { row := ledgerUndoesRow, standIns := [], harness := (true, "b2e1595d9a7a121b9c4dade2d4df0a40bfaadd1aced4a6a8c3cd6b0552b3e822"), looks := false }, kinds := [], alts := [], laidByText := true, laidKinds := [.data, .data], laidTests := true, laidLooks := .later }
def LedgerUndoesCardSaid : Prop := Claim7.holds Tryz.pinned (.plain (OpenSpec.ofChange ledgerUndoesSpec)) ledgerUndoesCard

/-- THE SECOND FORM's CARD OF 'lightclientlaw23.LedgerConnects'. -/
def ledgerConnectsUptoCard : Claim7 := { stood := { row := ledgerConnectsUptoRow, standIns := [], harness := (true, "b2e1595d9a7a121b9c4dade2d4df0a40bfaadd1aced4a6a8c3cd6b0552b3e822"), looks := false }, kinds := [], alts := [], laidByText := true, laidKinds := [.data, .data], laidTests := true, laidLooks := .later }
def LedgerConnectsUptoCardSaid : Prop := Claim7.holds Tryz.pinned (.plain (OpenSpec.upto ledgerConnectsSpec)) ledgerConnectsUptoCard

/-- THE SECOND FORM's CARD OF 'lightclientlaw23.LedgerRuns'. -/
def ledgerRunsUptoCard : Claim7 := { stood := { row := ledgerRunsUptoRow, standIns := [], harness := (true, "b2e1595d9a7a121b9c4dade2d4df0a40bfaadd1aced4a6a8c3cd6b0552b3e822"), looks := false }, kinds := [], alts := [], laidByText := true, laidKinds := [.data, .data], laidTests := true, laidLooks := .later }
def LedgerRunsUptoCardSaid : Prop := Claim7.holds Tryz.pinned (.plain (OpenSpec.upto ledgerRunsSpec)) ledgerRunsUptoCard

/-- THE SECOND FORM's CARD OF 'lightclientlaw23.LedgerMoney'. -/
def ledgerMoneyUptoCard : Claim7 := { stood := { row := ledgerMoneyUptoRow, standIns := [], harness := (true, "b2e1595d9a7a121b9c4dade2d4df0a40bfaadd1aced4a6a8c3cd6b0552b3e822"), looks := false }, kinds := [], alts := [], laidByText := true, laidKinds := [.data, .data], laidTests := true, laidLooks := .later }
def LedgerMoneyUptoCardSaid : Prop := Claim7.holds Tryz.pinned (.plain (OpenSpec.upto ledgerMoneySpec)) ledgerMoneyUptoCard

/-- THE SECOND FORM's CARD OF 'lightclientlaw23.LedgerDisconnects'. -/
def ledgerDisconnectsUptoCard : Claim7 := { stood := { row := ledgerDisconnectsUptoRow, standIns := [], harness := (true, "b2e1595d9a7a121b9c4dade2d4df0a40bfaadd1aced4a6a8c3cd6b0552b3e822"), looks := false }, kinds := [], alts := [], laidByText := true, laidKinds := [.data, .data], laidTests := true, laidLooks := .later }
def LedgerDisconnectsUptoCardSaid : Prop := Claim7.holds Tryz.pinned (.plain (OpenSpec.upto ledgerDisconnectsSpec)) ledgerDisconnectsUptoCard

/-- THE SECOND FORM's CARD OF 'lightclientlaw23.LedgerUndoes'. -/
def ledgerUndoesUptoCard : Claim7 := { stood := { row := ledgerUndoesUptoRow, standIns := [], harness := (true, "b2e1595d9a7a121b9c4dade2d4df0a40bfaadd1aced4a6a8c3cd6b0552b3e822"), looks := false }, kinds := [], alts := [], laidByText := true, laidKinds := [.data, .data], laidTests := true, laidLooks := .later }
def LedgerUndoesUptoCardSaid : Prop := Claim7.holds Tryz.pinned (.plain (OpenSpec.upto ledgerUndoesSpec)) ledgerUndoesUptoCard
end Rows
end Go.Proofs.YtopdhljncajmpaaGreatDoor
