/-
  No cell of these rows narrows 'for every input' (looked for: loops, veiled, ifaces, maps, wideKeys, modest, calm, conditions, laid).
  DERIVED. THE GIVEN ROWS OF THIS SEAT. 7 by the template 'for every input the law returns true; each argument reads behind the call as it read before'; 0 by the template 'total and deterministic' (their statements: YtbcmdojknonpgaaTotals.lean).
  GIVEN WITH THE SEED: the statements are not yours to turn. If you find one false, say at which input.
  Laid BY PROGRAM, IN A SANDBOX (cutbox-rows.mjs): the forced cells as the released guide's own fill.sh prints them over the translation 408d7f2bf935eaf1… (all of the seat's roots in one cut). By AI agents, Wed Nov 11 2026. No macro, syntax, notation, axiom, sorry.
-/
import Derived.Test.YtbcmdojknonpgaaChecked
import GoSem.Claim
import GoSem.ClaimJoined
import GoSem.ClaimMapViews
import Derived.JoinedTies
import Derived.KernelRfl
namespace Go.Proofs.Ytbcmdojknonpgaa
/- THE CELL 'sum', in the pinned program and in every row, IS THE sha256 OF THE DUMP (.gsa) THAT YtbcmdojknonpgaaProg.lean LOADS. Nothing in Lean hashes anything: it is a label: what it is worth is what the hold of that sum in a sandbox is worth. -/
noncomputable def Try.pinned : Pinned := { name := "ytbcmdojknonpgaa", sum := "408d7f2bf935eaf11f223b2299fb4a1b69d3d47fa3f9dbc242f88f9ac10337de", checked := Try.checked }
namespace Rows
def none {H : Type} : Left H := { results := [], args := [] }

/-- 'lightclientlaw18.BitsAppends': WHATEVER THE INPUT: true; the input reads as it did. -/
def bitsAppendsSpec : ChangeSpec := { name := "bitsAppends", fn := fun _ => fun
  | [d1, d2, d3] => { results := [.lit (.bool true)], args := [d1, d2, d3] }
  | _ => none }
def bitsAppendsRow : OpenClaim := { program := "ytbcmdojknonpgaa", sum := "408d7f2bf935eaf11f223b2299fb4a1b69d3d47fa3f9dbc242f88f9ac10337de", func := "lightclient/lightclientlaw18.BitsAppends", spec := "bitsAppends", apart := false }
def BitsAppendsSaid : Prop := bitsAppendsRow.holds Try.pinned (OpenSpec.ofChange bitsAppendsSpec)

/-- ITS FALSE NEIGHBOUR: 'it returns false'. Refute it at one input. -/
def bitsAppendsWrong : ChangeSpec := { name := "bitsAppends", fn := fun _ => fun
  | [d1, d2, d3] => { results := [.lit (.bool false)], args := [d1, d2, d3] }
  | _ => none }
def BitsAppendsWrongFalsely : Prop := bitsAppendsRow.holds Try.pinned (OpenSpec.ofChange bitsAppendsWrong)

/-- 'lightclientlaw18.BitsRice': WHATEVER THE INPUT: true; the input reads as it did. -/
def bitsRiceSpec : ChangeSpec := { name := "bitsRice", fn := fun _ => fun
  | [d1, d2, d3] => { results := [.lit (.bool true)], args := [d1, d2, d3] }
  | _ => none }
def bitsRiceRow : OpenClaim := { program := "ytbcmdojknonpgaa", sum := "408d7f2bf935eaf11f223b2299fb4a1b69d3d47fa3f9dbc242f88f9ac10337de", func := "lightclient/lightclientlaw18.BitsRice", spec := "bitsRice", apart := false }
def BitsRiceSaid : Prop := bitsRiceRow.holds Try.pinned (OpenSpec.ofChange bitsRiceSpec)

/-- ITS FALSE NEIGHBOUR: 'it returns false'. Refute it at one input. -/
def bitsRiceWrong : ChangeSpec := { name := "bitsRice", fn := fun _ => fun
  | [d1, d2, d3] => { results := [.lit (.bool false)], args := [d1, d2, d3] }
  | _ => none }
def BitsRiceWrongFalsely : Prop := bitsRiceRow.holds Try.pinned (OpenSpec.ofChange bitsRiceWrong)

/-- 'lightclientlaw18.BitsReads': WHATEVER THE INPUT: true; the input reads as it did. -/
def bitsReadsSpec : ChangeSpec := { name := "bitsReads", fn := fun _ => fun
  | [d1, d2, d3] => { results := [.lit (.bool true)], args := [d1, d2, d3] }
  | _ => none }
def bitsReadsRow : OpenClaim := { program := "ytbcmdojknonpgaa", sum := "408d7f2bf935eaf11f223b2299fb4a1b69d3d47fa3f9dbc242f88f9ac10337de", func := "lightclient/lightclientlaw18.BitsReads", spec := "bitsReads", apart := false }
def BitsReadsSaid : Prop := bitsReadsRow.holds Try.pinned (OpenSpec.ofChange bitsReadsSpec)

/-- ITS FALSE NEIGHBOUR: 'it returns false'. Refute it at one input. -/
def bitsReadsWrong : ChangeSpec := { name := "bitsReads", fn := fun _ => fun
  | [d1, d2, d3] => { results := [.lit (.bool false)], args := [d1, d2, d3] }
  | _ => none }
def BitsReadsWrongFalsely : Prop := bitsReadsRow.holds Try.pinned (OpenSpec.ofChange bitsReadsWrong)

/-- 'lightclientlaw18.BitsBack': WHATEVER THE INPUT: true; the input reads as it did. -/
def bitsBackSpec : ChangeSpec := { name := "bitsBack", fn := fun _ => fun
  | [d1, d2, d3] => { results := [.lit (.bool true)], args := [d1, d2, d3] }
  | _ => none }
def bitsBackRow : OpenClaim := { program := "ytbcmdojknonpgaa", sum := "408d7f2bf935eaf11f223b2299fb4a1b69d3d47fa3f9dbc242f88f9ac10337de", func := "lightclient/lightclientlaw18.BitsBack", spec := "bitsBack", apart := false }
def BitsBackSaid : Prop := bitsBackRow.holds Try.pinned (OpenSpec.ofChange bitsBackSpec)

/-- ITS FALSE NEIGHBOUR: 'it returns false'. Refute it at one input. -/
def bitsBackWrong : ChangeSpec := { name := "bitsBack", fn := fun _ => fun
  | [d1, d2, d3] => { results := [.lit (.bool false)], args := [d1, d2, d3] }
  | _ => none }
def BitsBackWrongFalsely : Prop := bitsBackRow.holds Try.pinned (OpenSpec.ofChange bitsBackWrong)

/-- 'lightclientlaw18.BitsReadsRice': WHATEVER THE INPUT: true; the input reads as it did. -/
def bitsReadsRiceSpec : ChangeSpec := { name := "bitsReadsRice", fn := fun _ => fun
  | [d1, d2, d3] => { results := [.lit (.bool true)], args := [d1, d2, d3] }
  | _ => none }
def bitsReadsRiceRow : OpenClaim := { program := "ytbcmdojknonpgaa", sum := "408d7f2bf935eaf11f223b2299fb4a1b69d3d47fa3f9dbc242f88f9ac10337de", func := "lightclient/lightclientlaw18.BitsReadsRice", spec := "bitsReadsRice", apart := false }
def BitsReadsRiceSaid : Prop := bitsReadsRiceRow.holds Try.pinned (OpenSpec.ofChange bitsReadsRiceSpec)

/-- ITS FALSE NEIGHBOUR: 'it returns false'. Refute it at one input. -/
def bitsReadsRiceWrong : ChangeSpec := { name := "bitsReadsRice", fn := fun _ => fun
  | [d1, d2, d3] => { results := [.lit (.bool false)], args := [d1, d2, d3] }
  | _ => none }
def BitsReadsRiceWrongFalsely : Prop := bitsReadsRiceRow.holds Try.pinned (OpenSpec.ofChange bitsReadsRiceWrong)

/-- 'lightclientlaw18.BitsRiceBack': WHATEVER THE INPUT: true; the input reads as it did. -/
def bitsRiceBackSpec : ChangeSpec := { name := "bitsRiceBack", fn := fun _ => fun
  | [d1, d2] => { results := [.lit (.bool true)], args := [d1, d2] }
  | _ => none }
def bitsRiceBackRow : OpenClaim := { program := "ytbcmdojknonpgaa", sum := "408d7f2bf935eaf11f223b2299fb4a1b69d3d47fa3f9dbc242f88f9ac10337de", func := "lightclient/lightclientlaw18.BitsRiceBack", spec := "bitsRiceBack", apart := false }
def BitsRiceBackSaid : Prop := bitsRiceBackRow.holds Try.pinned (OpenSpec.ofChange bitsRiceBackSpec)

/-- ITS FALSE NEIGHBOUR: 'it returns false'. Refute it at one input. -/
def bitsRiceBackWrong : ChangeSpec := { name := "bitsRiceBack", fn := fun _ => fun
  | [d1, d2] => { results := [.lit (.bool false)], args := [d1, d2] }
  | _ => none }
def BitsRiceBackWrongFalsely : Prop := bitsRiceBackRow.holds Try.pinned (OpenSpec.ofChange bitsRiceBackWrong)

/-- 'lightclientlaw18.BitsCodes': WHATEVER THE INPUT: true; the input reads as it did. -/
def bitsCodesSpec : ChangeSpec := { name := "bitsCodes", fn := fun _ => fun
  | [d1, d2, d3] => { results := [.lit (.bool true)], args := [d1, d2, d3] }
  | _ => none }
def bitsCodesRow : OpenClaim := { program := "ytbcmdojknonpgaa", sum := "408d7f2bf935eaf11f223b2299fb4a1b69d3d47fa3f9dbc242f88f9ac10337de", func := "lightclient/lightclientlaw18.BitsCodes", spec := "bitsCodes", apart := false }
def BitsCodesSaid : Prop := bitsCodesRow.holds Try.pinned (OpenSpec.ofChange bitsCodesSpec)

/-- ITS FALSE NEIGHBOUR: 'it returns false'. Refute it at one input. -/
def bitsCodesWrong : ChangeSpec := { name := "bitsCodes", fn := fun _ => fun
  | [d1, d2, d3] => { results := [.lit (.bool false)], args := [d1, d2, d3] }
  | _ => none }
def BitsCodesWrongFalsely : Prop := bitsCodesRow.holds Try.pinned (OpenSpec.ofChange bitsCodesWrong)

/- THE SECOND FORM. 'bulk': how many values and letters a reading holds, each counted each time it is reached (what is shared counts as often as it is met; a slice's spare places count too). A statement '..UptoSaid' is the law's where the arguments, and the package variables that the reading takes, are together of bulk at most 1048576: NARROWER than '..Said'. Prove '..Said' where nothing that the law and all that it calls make is longer than what came in: it says more and counts as full. Else prove '..UptoSaid'. A law counts once. -/
mutual
def uptoBulk {H : Type} : DataW H → Nat
  | .lit (.string bytes) => bytes.length + 1
  | .lit _ => 1
  | .nil => 1
  | .ptr d => uptoBulk d + 1
  | .slice elems spare => uptoBulkAll elems + uptoBulkAll spare + 1
  | .agg parts => uptoBulkAll parts + 1
  | .iface _ d => uptoBulk d + 1
  | .map entries => uptoBulkEntries entries + 1
  | .held _ => 1
def uptoBulkAll {H : Type} : List (DataW H) → Nat
  | [] => 0
  | d :: r => uptoBulk d + uptoBulkAll r
def uptoBulkEntries {H : Type} : List (Lit × DataW H) → Nat
  | [] => 0
  | x :: r => uptoBulkEntry x + uptoBulkEntries r
def uptoBulkEntry {H : Type} : Lit × DataW H → Nat
  | (.string bytes, d) => bytes.length + uptoBulk d + 1
  | (_, d) => uptoBulk d + 1
 end
def uptoSmall : (H : Type) → List (DataW H) → Bool := fun _ ds => decide (uptoBulkAll ds ≤ 1048576)
def OpenSpec.upto (s : _root_.Go.ChangeSpec) : _root_.Go.OpenSpec := { _root_.Go.OpenSpec.ofChange s with cond := some uptoSmall }

/-- 'lightclientlaw18.BitsAppends', WHERE WHAT IT READS IS OF BULK AT MOST 1048576: true; the input reads as it did. -/
def bitsAppendsUptoRow : OpenClaim := { program := "ytbcmdojknonpgaa", sum := "408d7f2bf935eaf11f223b2299fb4a1b69d3d47fa3f9dbc242f88f9ac10337de", func := "lightclient/lightclientlaw18.BitsAppends", spec := "bitsAppends", apart := false, narrowed := true }
def BitsAppendsUptoSaid : Prop := bitsAppendsUptoRow.holds Try.pinned (OpenSpec.upto bitsAppendsSpec)

/-- 'lightclientlaw18.BitsRice', WHERE WHAT IT READS IS OF BULK AT MOST 1048576: true; the input reads as it did. -/
def bitsRiceUptoRow : OpenClaim := { program := "ytbcmdojknonpgaa", sum := "408d7f2bf935eaf11f223b2299fb4a1b69d3d47fa3f9dbc242f88f9ac10337de", func := "lightclient/lightclientlaw18.BitsRice", spec := "bitsRice", apart := false, narrowed := true }
def BitsRiceUptoSaid : Prop := bitsRiceUptoRow.holds Try.pinned (OpenSpec.upto bitsRiceSpec)

/-- 'lightclientlaw18.BitsReads', WHERE WHAT IT READS IS OF BULK AT MOST 1048576: true; the input reads as it did. -/
def bitsReadsUptoRow : OpenClaim := { program := "ytbcmdojknonpgaa", sum := "408d7f2bf935eaf11f223b2299fb4a1b69d3d47fa3f9dbc242f88f9ac10337de", func := "lightclient/lightclientlaw18.BitsReads", spec := "bitsReads", apart := false, narrowed := true }
def BitsReadsUptoSaid : Prop := bitsReadsUptoRow.holds Try.pinned (OpenSpec.upto bitsReadsSpec)

/-- 'lightclientlaw18.BitsBack', WHERE WHAT IT READS IS OF BULK AT MOST 1048576: true; the input reads as it did. -/
def bitsBackUptoRow : OpenClaim := { program := "ytbcmdojknonpgaa", sum := "408d7f2bf935eaf11f223b2299fb4a1b69d3d47fa3f9dbc242f88f9ac10337de", func := "lightclient/lightclientlaw18.BitsBack", spec := "bitsBack", apart := false, narrowed := true }
def BitsBackUptoSaid : Prop := bitsBackUptoRow.holds Try.pinned (OpenSpec.upto bitsBackSpec)

/-- 'lightclientlaw18.BitsReadsRice', WHERE WHAT IT READS IS OF BULK AT MOST 1048576: true; the input reads as it did. -/
def bitsReadsRiceUptoRow : OpenClaim := { program := "ytbcmdojknonpgaa", sum := "408d7f2bf935eaf11f223b2299fb4a1b69d3d47fa3f9dbc242f88f9ac10337de", func := "lightclient/lightclientlaw18.BitsReadsRice", spec := "bitsReadsRice", apart := false, narrowed := true }
def BitsReadsRiceUptoSaid : Prop := bitsReadsRiceUptoRow.holds Try.pinned (OpenSpec.upto bitsReadsRiceSpec)

/-- 'lightclientlaw18.BitsRiceBack', WHERE WHAT IT READS IS OF BULK AT MOST 1048576: true; the input reads as it did. -/
def bitsRiceBackUptoRow : OpenClaim := { program := "ytbcmdojknonpgaa", sum := "408d7f2bf935eaf11f223b2299fb4a1b69d3d47fa3f9dbc242f88f9ac10337de", func := "lightclient/lightclientlaw18.BitsRiceBack", spec := "bitsRiceBack", apart := false, narrowed := true }
def BitsRiceBackUptoSaid : Prop := bitsRiceBackUptoRow.holds Try.pinned (OpenSpec.upto bitsRiceBackSpec)

/-- 'lightclientlaw18.BitsCodes', WHERE WHAT IT READS IS OF BULK AT MOST 1048576: true; the input reads as it did. -/
def bitsCodesUptoRow : OpenClaim := { program := "ytbcmdojknonpgaa", sum := "408d7f2bf935eaf11f223b2299fb4a1b69d3d47fa3f9dbc242f88f9ac10337de", func := "lightclient/lightclientlaw18.BitsCodes", spec := "bitsCodes", apart := false, narrowed := true }
def BitsCodesUptoSaid : Prop := bitsCodesUptoRow.holds Try.pinned (OpenSpec.upto bitsCodesSpec)

end Rows
end Go.Proofs.Ytbcmdojknonpgaa
