/-
  DERIVED. GIVEN WITH THE SEED: THE CARDS: each row of YtheekineakjhdaaDoorRows.lean that lists a variable, with what it lists TIED to the program's text (the seventh form; the later family's looks); each row that meets fmt, with fmt's text TOLD by the authors' own Lean function (tested against real Go, not proved from fmt's source: count such statements apart). THE CARD IS WHAT COUNTS. Prove the row's statement (the work); the ties are given (YtheekineakjhdaaDoorTie.lean); close each card by the builder's one call (the guide's Derived/Test/ToyasCard.lean, 'card_holds'). Laid BY PROGRAM, IN A SANDBOX (cutbox-door.mjs). By AI agents, Wed Nov 11 2026. No macro, syntax, notation, axiom, sorry.
-/
import Derived.Test.YtheekineakjhdaaDoorRows
import GoSem.ClaimSeven
namespace Go.Proofs.YtheekineakjhdaaDoor
namespace Rows

/-- THE TIED CARD OF 'lightclientlaw08.ScriptNumbers'. -/
def scriptNumbersCard : Claim7 := { stood := { row := scriptNumbersRow, standIns := [], harness := (true, "d6b577ccf849b5e49d9b82311f6a4f5c624d9b7b96aa28d1a3bc61bdac98995f"), looks := false }, kinds := [], alts := [], laidByText := true, laidKinds := [.data, .data], laidTests := true, laidLooks := .later }
def ScriptNumbersCardSaid : Prop := Claim7.holds Tryd.pinned (.plain (OpenSpec.ofChange scriptNumbersSpec)) scriptNumbersCard

/-- THE TIED CARD OF 'lightclientlaw08.ScriptAssembles'. -/
def scriptAssemblesCard : Claim7 := { stood := { row := scriptAssemblesRow, standIns := [], harness := (true, "d6b577ccf849b5e49d9b82311f6a4f5c624d9b7b96aa28d1a3bc61bdac98995f"), looks := false }, kinds := [], alts := [], laidByText := true, laidKinds := [.data, .data], laidTests := true, laidLooks := .later }
def ScriptAssemblesCardSaid : Prop := Claim7.holds Tryd.pinned (.plain (OpenSpec.ofChange scriptAssemblesSpec)) scriptAssemblesCard

/-- THE TIED CARD OF 'lightclientlaw08.ScriptBack'. -/
def scriptBackCard : Claim7 := { stood := { row := scriptBackRow, standIns := [], harness := (true, "d6b577ccf849b5e49d9b82311f6a4f5c624d9b7b96aa28d1a3bc61bdac98995f"), looks := false }, kinds := [], alts := [], laidByText := true, laidKinds := [.data, .data], laidTests := true, laidLooks := .later }
def ScriptBackCardSaid : Prop := Claim7.holds Tryd.pinned (.plain (OpenSpec.ofChange scriptBackSpec)) scriptBackCard

/-- THE TIED CARD OF 'lightclientlaw08.ScriptStandard'. -/
def scriptStandardCard : Claim7 := { stood := { row := scriptStandardRow, standIns := [], harness := (true, "d6b577ccf849b5e49d9b82311f6a4f5c624d9b7b96aa28d1a3bc61bdac98995f"), looks := false }, kinds := [], alts := [], laidByText := true, laidKinds := [.data, .data], laidTests := true, laidLooks := .later }
def ScriptStandardCardSaid : Prop := Claim7.holds Tryd.pinned (.plain (OpenSpec.ofChange scriptStandardSpec)) scriptStandardCard

/-- THE SECOND FORM's CARD OF 'lightclientlaw08.ScriptNumbers'. -/
def scriptNumbersUptoCard : Claim7 := { stood := { row := scriptNumbersUptoRow, standIns := [], harness := (true, "d6b577ccf849b5e49d9b82311f6a4f5c624d9b7b96aa28d1a3bc61bdac98995f"), looks := false }, kinds := [], alts := [], laidByText := true, laidKinds := [.data, .data], laidTests := true, laidLooks := .later }
def ScriptNumbersUptoCardSaid : Prop := Claim7.holds Tryd.pinned (.plain (OpenSpec.upto scriptNumbersSpec)) scriptNumbersUptoCard

/-- THE SECOND FORM's CARD OF 'lightclientlaw08.ScriptAssembles'. -/
def scriptAssemblesUptoCard : Claim7 := { stood := { row := scriptAssemblesUptoRow, standIns := [], harness := (true, "d6b577ccf849b5e49d9b82311f6a4f5c624d9b7b96aa28d1a3bc61bdac98995f"), looks := false }, kinds := [], alts := [], laidByText := true, laidKinds := [.data, .data], laidTests := true, laidLooks := .later }
def ScriptAssemblesUptoCardSaid : Prop := Claim7.holds Tryd.pinned (.plain (OpenSpec.upto scriptAssemblesSpec)) scriptAssemblesUptoCard

/-- THE SECOND FORM's CARD OF 'lightclientlaw08.ScriptBack'. -/
def scriptBackUptoCard : Claim7 := { stood := { row := scriptBackUptoRow, standIns := [], harness := (true, "d6b577ccf849b5e49d9b82311f6a4f5c624d9b7b96aa28d1a3bc61bdac98995f"), looks := false }, kinds := [], alts := [], laidByText := true, laidKinds := [.data, .data], laidTests := true, laidLooks := .later }
def ScriptBackUptoCardSaid : Prop := Claim7.holds Tryd.pinned (.plain (OpenSpec.upto scriptBackSpec)) scriptBackUptoCard

/-- THE SECOND FORM's CARD OF 'lightclientlaw08.ScriptStandard'. -/
def scriptStandardUptoCard : Claim7 := { stood := { row := scriptStandardUptoRow, standIns := [], harness := (true, "d6b577ccf849b5e49d9b82311f6a4f5c624d9b7b96aa28d1a3bc61bdac98995f"), looks := false }, kinds := [], alts := [], laidByText := true, laidKinds := [.data, .data], laidTests := true, laidLooks := .later }
def ScriptStandardUptoCardSaid : Prop := Claim7.holds Tryd.pinned (.plain (OpenSpec.upto scriptStandardSpec)) scriptStandardUptoCard
end Rows
end Go.Proofs.YtheekineakjhdaaDoor
