/-
  DERIVED. GIVEN WITH THE SEED: THE CARDS: each row of YtnllpckhipmpgaaGreatDoorRows.lean that lists a variable, with what it lists TIED to the program's text (the seventh form; the later family's looks); each row that meets fmt, with fmt's text TOLD by the authors' own Lean function (tested against real Go, not proved from fmt's source: count such statements apart). THE CARD IS WHAT COUNTS. Prove the row's statement (the work); the ties are given (YtnllpckhipmpgaaGreatDoorTie.lean); close each card by the builder's one call (the guide's Derived/Test/ToyasCard.lean, 'card_holds'). Laid BY PROGRAM, IN A SANDBOX (cutbox-door.mjs). By AI agents, Wed Nov 11 2026. No macro, syntax, notation, axiom, sorry.
-/
import Derived.Test.YtnllpckhipmpgaaGreatDoorRows
import GoSem.ClaimSeven
namespace Go.Proofs.YtnllpckhipmpgaaGreatDoor
namespace Rows

/-- THE TIED CARD OF 'lightclientlaw08.ScriptOps'. -/
def scriptOpsCard : Claim7 := { stood := { row := scriptOpsRow, standIns := [], harness := (true, "6d3ba749cf237e66da9fddcc82731fa06dbcf2394bd5a8d6fe9fda83a9a0d3c3"), looks := false }, kinds := [], alts := [], laidByText := true, laidKinds := [.data, .data], laidTests := true, laidLooks := .later }
def ScriptOpsCardSaid : Prop := Claim7.holds Tryz.pinned (.plain (OpenSpec.ofChange scriptOpsSpec)) scriptOpsCard

/-- THE TIED CARD OF 'lightclientlaw08.ScriptRuns'. -/
def scriptRunsCard : Claim7 := { stood := { row := scriptRunsRow, standIns := [], harness := (true, "6d3ba749cf237e66da9fddcc82731fa06dbcf2394bd5a8d6fe9fda83a9a0d3c3"), looks := false }, kinds := [], alts := [], laidByText := true, laidKinds := [.data, .data], laidTests := true, laidLooks := .later }
def ScriptRunsCardSaid : Prop := Claim7.holds Tryz.pinned (.plain (OpenSpec.ofChange scriptRunsSpec)) scriptRunsCard

/-- THE SECOND FORM's CARD OF 'lightclientlaw08.ScriptOps'. -/
def scriptOpsUptoCard : Claim7 := { stood := { row := scriptOpsUptoRow, standIns := [], harness := (true, "6d3ba749cf237e66da9fddcc82731fa06dbcf2394bd5a8d6fe9fda83a9a0d3c3"), looks := false }, kinds := [], alts := [], laidByText := true, laidKinds := [.data, .data], laidTests := true, laidLooks := .later }
def ScriptOpsUptoCardSaid : Prop := Claim7.holds Tryz.pinned (.plain (OpenSpec.upto scriptOpsSpec)) scriptOpsUptoCard

/-- THE SECOND FORM's CARD OF 'lightclientlaw08.ScriptRuns'. -/
def scriptRunsUptoCard : Claim7 := { stood := { row := scriptRunsUptoRow, standIns := [], harness := (true, "6d3ba749cf237e66da9fddcc82731fa06dbcf2394bd5a8d6fe9fda83a9a0d3c3"), looks := false }, kinds := [], alts := [], laidByText := true, laidKinds := [.data, .data], laidTests := true, laidLooks := .later }
def ScriptRunsUptoCardSaid : Prop := Claim7.holds Tryz.pinned (.plain (OpenSpec.upto scriptRunsSpec)) scriptRunsUptoCard
end Rows
end Go.Proofs.YtnllpckhipmpgaaGreatDoor
