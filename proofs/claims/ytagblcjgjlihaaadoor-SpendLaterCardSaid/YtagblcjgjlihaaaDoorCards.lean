/-
  DERIVED. GIVEN WITH THE SEED: THE CARDS: each row of YtagblcjgjlihaaaDoorRows.lean that lists a variable, with what it lists TIED to the program's text (the seventh form; the later family's looks); each row that meets fmt, with fmt's text TOLD by the authors' own Lean function (tested against real Go, not proved from fmt's source: count such statements apart). THE CARD IS WHAT COUNTS. Prove the row's statement (the work); the ties are given (YtagblcjgjlihaaaDoorTie.lean); close each card by the builder's one call (the guide's Derived/Test/ToyasCard.lean, 'card_holds'). Laid BY PROGRAM, IN A SANDBOX (cutbox-door.mjs). By AI agents, Wed Nov 11 2026. No macro, syntax, notation, axiom, sorry.
-/
import Derived.Test.YtagblcjgjlihaaaDoorRows
import GoSem.ClaimSeven
namespace Go.Proofs.YtagblcjgjlihaaaDoor
namespace Rows

/-- THE TIED CARD OF 'lightclientlaw10.SpendLater'. -/
def spendLaterCard : Claim7 := { stood := { row := spendLaterRow, standIns := [], harness := (true, "b1a8af0440f84a24c784ed0de2839c65228f4c67497f1012f6e4ae0dc5ee5529"), looks := false }, kinds := [], alts := [], laidByText := true, laidKinds := [.data, .data], laidTests := true, laidLooks := .later }
def SpendLaterCardSaid : Prop := Claim7.holds Tryd.pinned (.plain (OpenSpec.ofChange spendLaterSpec)) spendLaterCard

/-- THE SECOND FORM's CARD OF 'lightclientlaw10.SpendLater'. -/
def spendLaterUptoCard : Claim7 := { stood := { row := spendLaterUptoRow, standIns := [], harness := (true, "b1a8af0440f84a24c784ed0de2839c65228f4c67497f1012f6e4ae0dc5ee5529"), looks := false }, kinds := [], alts := [], laidByText := true, laidKinds := [.data, .data], laidTests := true, laidLooks := .later }
def SpendLaterUptoCardSaid : Prop := Claim7.holds Tryd.pinned (.plain (OpenSpec.upto spendLaterSpec)) spendLaterUptoCard
end Rows
end Go.Proofs.YtagblcjgjlihaaaDoor
