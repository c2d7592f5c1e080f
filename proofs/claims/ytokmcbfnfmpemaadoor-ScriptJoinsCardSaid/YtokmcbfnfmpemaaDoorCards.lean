/-
  DERIVED. GIVEN WITH THE SEED: THE CARDS: each row of YtokmcbfnfmpemaaDoorRows.lean that lists a variable, with what it lists TIED to the program's text (the seventh form; the later family's looks); each row that meets fmt, with fmt's text TOLD by the authors' own Lean function (tested against real Go, not proved from fmt's source: count such statements apart). THE CARD IS WHAT COUNTS. Prove the row's statement (the work); the ties are given (YtokmcbfnfmpemaaDoorTie.lean); close each card by the builder's one call (the guide's Derived/Test/ToyasCard.lean, 'card_holds'). Laid BY PROGRAM, IN A SANDBOX (cutbox-door.mjs). By AI agents, Wed Nov 11 2026. No macro, syntax, notation, axiom, sorry.
-/
import Derived.Test.YtokmcbfnfmpemaaDoorRows
import GoSem.ClaimSeven
namespace Go.Proofs.YtokmcbfnfmpemaaDoor
namespace Rows

/-- THE TIED CARD OF 'lightclientlaw08.ScriptJoins'. -/
def scriptJoinsCard : Claim7 := { stood := { row := scriptJoinsRow, standIns := [], harness := (true, "26d682b1605081fea3ec258b4420bc202d49e29bbf3cc509e7e3dcf9074e1395"), looks := false }, kinds := [], alts := [], laidByText := true, laidKinds := [.data, .data], laidTests := true, laidLooks := .later }
def ScriptJoinsCardSaid : Prop := Claim7.holds Tryd.pinned (.plain (OpenSpec.ofChange scriptJoinsSpec)) scriptJoinsCard

/-- THE TIED CARD OF 'lightclientlaw08.ScriptLater'. -/
def scriptLaterCard : Claim7 := { stood := { row := scriptLaterRow, standIns := [], harness := (true, "26d682b1605081fea3ec258b4420bc202d49e29bbf3cc509e7e3dcf9074e1395"), looks := false }, kinds := [], alts := [], laidByText := true, laidKinds := [.data, .data], laidTests := true, laidLooks := .later }
def ScriptLaterCardSaid : Prop := Claim7.holds Tryd.pinned (.plain (OpenSpec.ofChange scriptLaterSpec)) scriptLaterCard

/-- THE SECOND FORM's CARD OF 'lightclientlaw08.ScriptJoins'. -/
def scriptJoinsUptoCard : Claim7 := { stood := { row := scriptJoinsUptoRow, standIns := [], harness := (true, "26d682b1605081fea3ec258b4420bc202d49e29bbf3cc509e7e3dcf9074e1395"), looks := false }, kinds := [], alts := [], laidByText := true, laidKinds := [.data, .data], laidTests := true, laidLooks := .later }
def ScriptJoinsUptoCardSaid : Prop := Claim7.holds Tryd.pinned (.plain (OpenSpec.upto scriptJoinsSpec)) scriptJoinsUptoCard

/-- THE SECOND FORM's CARD OF 'lightclientlaw08.ScriptLater'. -/
def scriptLaterUptoCard : Claim7 := { stood := { row := scriptLaterUptoRow, standIns := [], harness := (true, "26d682b1605081fea3ec258b4420bc202d49e29bbf3cc509e7e3dcf9074e1395"), looks := false }, kinds := [], alts := [], laidByText := true, laidKinds := [.data, .data], laidTests := true, laidLooks := .later }
def ScriptLaterUptoCardSaid : Prop := Claim7.holds Tryd.pinned (.plain (OpenSpec.upto scriptLaterSpec)) scriptLaterUptoCard
end Rows
end Go.Proofs.YtokmcbfnfmpemaaDoor
