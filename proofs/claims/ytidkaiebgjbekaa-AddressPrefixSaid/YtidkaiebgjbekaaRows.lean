/-
  No cell of these rows narrows 'for every input' (looked for: loops, veiled, ifaces, maps, wideKeys, modest, calm, conditions, laid).
  DERIVED. THE GIVEN ROWS OF THIS SEAT. 2 by the template 'for every input the law returns true; each argument reads behind the call as it read before'; 0 by the template 'total and deterministic' (their statements: YtidkaiebgjbekaaTotals.lean).
  GIVEN WITH THE SEED: the statements are not yours to turn. If you find one false, say at which input.
  Laid BY PROGRAM, IN A SANDBOX (cutbox-rows.mjs): the forced cells as the released guide's own fill.sh prints them over the translation 113a78cd841467b3… (all of the seat's roots in one cut). By AI agents, Wed Nov 11 2026. No macro, syntax, notation, axiom, sorry.
-/
import Derived.Test.YtidkaiebgjbekaaChecked
import GoSem.Claim
import GoSem.ClaimJoined
import GoSem.ClaimMapViews
import Derived.JoinedTies
import Derived.KernelRfl
namespace Go.Proofs.Ytidkaiebgjbekaa
/- THE CELL 'sum', in the pinned program and in every row, IS THE sha256 OF THE DUMP (.gsa) THAT YtidkaiebgjbekaaProg.lean LOADS. Nothing in Lean hashes anything: it is a label: what it is worth is what the hold of that sum in a sandbox is worth. -/
noncomputable def Try.pinned : Pinned := { name := "ytidkaiebgjbekaa", sum := "113a78cd841467b348f746d81194ae034547bd66a889b02c1e1b122e09a37ed4", checked := Try.checked }
namespace Rows
def none {H : Type} : Left H := { results := [], args := [] }

/-- 'lightclientlaw27.AddressDigits': WHATEVER THE INPUT: true; the input reads as it did. -/
def addressDigitsSpec : ChangeSpec := { name := "addressDigits", fn := fun _ => fun
  | [d1, d2] => { results := [.lit (.bool true)], args := [d1, d2] }
  | _ => none }
def addressDigitsRow : OpenClaim := { program := "ytidkaiebgjbekaa", sum := "113a78cd841467b348f746d81194ae034547bd66a889b02c1e1b122e09a37ed4", func := "lightclient/lightclientlaw27.AddressDigits", spec := "addressDigits", apart := false }
def AddressDigitsSaid : Prop := addressDigitsRow.holds Try.pinned (OpenSpec.ofChange addressDigitsSpec)

/-- ITS FALSE NEIGHBOUR: 'it returns false'. Refute it at one input. -/
def addressDigitsWrong : ChangeSpec := { name := "addressDigits", fn := fun _ => fun
  | [d1, d2] => { results := [.lit (.bool false)], args := [d1, d2] }
  | _ => none }
def AddressDigitsWrongFalsely : Prop := addressDigitsRow.holds Try.pinned (OpenSpec.ofChange addressDigitsWrong)

/-- 'lightclientlaw27.AddressPrefix': WHATEVER THE INPUT: true; the input reads as it did. -/
def addressPrefixSpec : ChangeSpec := { name := "addressPrefix", fn := fun _ => fun
  | [d1, d2, d3, d4] => { results := [.lit (.bool true)], args := [d1, d2, d3, d4] }
  | _ => none }
def addressPrefixRow : OpenClaim := { program := "ytidkaiebgjbekaa", sum := "113a78cd841467b348f746d81194ae034547bd66a889b02c1e1b122e09a37ed4", func := "lightclient/lightclientlaw27.AddressPrefix", spec := "addressPrefix", apart := false }
def AddressPrefixSaid : Prop := addressPrefixRow.holds Try.pinned (OpenSpec.ofChange addressPrefixSpec)

/-- ITS FALSE NEIGHBOUR: 'it returns false'. Refute it at one input. -/
def addressPrefixWrong : ChangeSpec := { name := "addressPrefix", fn := fun _ => fun
  | [d1, d2, d3, d4] => { results := [.lit (.bool false)], args := [d1, d2, d3, d4] }
  | _ => none }
def AddressPrefixWrongFalsely : Prop := addressPrefixRow.holds Try.pinned (OpenSpec.ofChange addressPrefixWrong)

/- THE SECOND FORM. 'bulk': how many values and letters a reading holds, each counted each time it is reached (what is shared counts as often as it is met; a slice's spare places count too). A statement '..UptoSaid' is the law's where the arguments, and the package variables that the reading takes, are together of bulk at most 1048576: NARROWER than '..Said'. Prove '..Said' where nothing that the law and all that it calls make is longer than what came in: it says more and counts as full. Else prove '..UptoSaid'. A law counts once. -/
mutual
def uptoBulk {H : Type} : DataW H → Nat
  | .lit (.string bytes) => bytes.length + 1
  | .lit _ => 1
  | .nil => 1
  | .ptr d => uptoBulk d + 1
  | .slice elems spare => uptoBulkAll elems + uptoBulkAll spare + 1
  | .agg parts => uptoBulkAll parts + 1
  | .iface _ d => uptoBulk d + 1
  | .map entries => uptoBulkEntries entries + 1
  | .held _ => 1
def uptoBulkAll {H : Type} : List (DataW H) → Nat
  | [] => 0
  | d :: r => uptoBulk d + uptoBulkAll r
def uptoBulkEntries {H : Type} : List (Lit × DataW H) → Nat
  | [] => 0
  | x :: r => uptoBulkEntry x + uptoBulkEntries r
def uptoBulkEntry {H : Type} : Lit × DataW H → Nat
  | (.string bytes, d) => bytes.length + uptoBulk d + 1
  | (_, d) => uptoBulk d + 1
 end
def uptoSmall : (H : Type) → List (DataW H) → Bool := fun _ ds => decide (uptoBulkAll ds ≤ 1048576)
def OpenSpec.upto (s : _root_.Go.ChangeSpec) : _root_.Go.OpenSpec := { _root_.Go.OpenSpec.ofChange s with cond := some uptoSmall }

/-- 'lightclientlaw27.AddressDigits', WHERE WHAT IT READS IS OF BULK AT MOST 1048576: true; the input reads as it did. -/
def addressDigitsUptoRow : OpenClaim := { program := "ytidkaiebgjbekaa", sum := "113a78cd841467b348f746d81194ae034547bd66a889b02c1e1b122e09a37ed4", func := "lightclient/lightclientlaw27.AddressDigits", spec := "addressDigits", apart := false, narrowed := true }
def AddressDigitsUptoSaid : Prop := addressDigitsUptoRow.holds Try.pinned (OpenSpec.upto addressDigitsSpec)

/-- 'lightclientlaw27.AddressPrefix', WHERE WHAT IT READS IS OF BULK AT MOST 1048576: true; the input reads as it did. -/
def addressPrefixUptoRow : OpenClaim := { program := "ytidkaiebgjbekaa", sum := "113a78cd841467b348f746d81194ae034547bd66a889b02c1e1b122e09a37ed4", func := "lightclient/lightclientlaw27.AddressPrefix", spec := "addressPrefix", apart := false, narrowed := true }
def AddressPrefixUptoSaid : Prop := addressPrefixUptoRow.holds Try.pinned (OpenSpec.upto addressPrefixSpec)

end Rows
end Go.Proofs.Ytidkaiebgjbekaa
