/-
  NARROWER THAN 'FOR EVERY INPUT', by the rows' own cells (each row's printed sentence says how): AddressSums: laid · AddressEncodes: laid · AddressDecodes: laid · AddressBack: laid · AddressDetects: laid.
  DERIVED. THE GIVEN ROWS OF THIS SEAT. 5 by the template 'for every input the law returns true; each argument reads behind the call as it read before'; 0 by the template 'total and deterministic' (their statements: YtidkaiebgjbekaaDoorTotals.lean).
  GIVEN WITH THE SEED: the statements are not yours to turn. If you find one false, say at which input.
  Laid BY PROGRAM, IN A SANDBOX (cutbox-rows.mjs): the forced cells as the released guide's own fill.sh prints them over the translation 73a15d9e3c60b832… (all of the seat's roots in one cut). By AI agents, Wed Nov 11 2026. No macro, syntax, notation, axiom, sorry.
-/
import Derived.Test.YtidkaiebgjbekaaDoorChecked
import GoSem.Claim
import GoSem.ClaimJoined
import GoSem.ClaimMapViews
import Derived.JoinedTies
import Derived.KernelRfl
namespace Go.Proofs.YtidkaiebgjbekaaDoor
/- THE CELL 'sum', in the pinned program and in every row, IS THE sha256 OF THE DUMP (.gsa) THAT YtidkaiebgjbekaaDoorProg.lean LOADS. Nothing in Lean hashes anything: it is a label: what it is worth is what the hold of that sum in a sandbox is worth. -/
noncomputable def Tryd.pinned : Pinned := { name := "ytidkaiebgjbekaadoor", sum := "73a15d9e3c60b832007a53b12358da684f38bcba0e0c2df31ba28bda85c98226", checked := Tryd.checked }
namespace Rows
def none {H : Type} : Left H := { results := [], args := [] }

/- WHAT THE LISTED PACKAGE-LEVEL VARIABLES READ AS WHEN THE CALL BEGINS. Each datum BY PROGRAM (the guide's laid-datum.mjs) off the statement by which the dump's own 'gosem.cut.vars' lays the variable. In a bare row this is a premise. The card (YtidkaiebgjbekaaDoorCards.lean) ties it to the program's text. -/
def laid_lightclient_address_generators {H : Type} : DataW H := .agg [.lit (.int .u32 996825010), .lit (.int .u32 642813549), .lit (.int .u32 513874426), .lit (.int .u32 1027748829), .lit (.int .u32 705979059)]

/-- 'lightclientlaw27.AddressSums': WHATEVER THE INPUT: true; the input reads as it did. -/
def addressSumsSpec : ChangeSpec := { name := "addressSums", fn := fun _ => fun
  | [d1, d2, d3] => { results := [.lit (.bool true)], args := [d1, d2, d3] }
  | _ => none }
def addressSumsRow : OpenClaim := { program := "ytidkaiebgjbekaadoor", sum := "73a15d9e3c60b832007a53b12358da684f38bcba0e0c2df31ba28bda85c98226", func := "lightclient/lightclientlaw27.AddressSums", spec := "addressSums", named := ["lightclient/address.generators"], apart := false, laid := [("lightclient/address.generators", laid_lightclient_address_generators)] }
def AddressSumsSaid : Prop := addressSumsRow.holds Tryd.pinned (OpenSpec.ofChange addressSumsSpec)

/-- ITS FALSE NEIGHBOUR: 'it returns false'. Refute it at one input. -/
def addressSumsWrong : ChangeSpec := { name := "addressSums", fn := fun _ => fun
  | [d1, d2, d3] => { results := [.lit (.bool false)], args := [d1, d2, d3] }
  | _ => none }
def AddressSumsWrongFalsely : Prop := addressSumsRow.holds Tryd.pinned (OpenSpec.ofChange addressSumsWrong)

/-- 'lightclientlaw27.AddressEncodes': WHATEVER THE INPUT: true; the input reads as it did. -/
def addressEncodesSpec : ChangeSpec := { name := "addressEncodes", fn := fun _ => fun
  | [d1, d2, d3] => { results := [.lit (.bool true)], args := [d1, d2, d3] }
  | _ => none }
def addressEncodesRow : OpenClaim := { program := "ytidkaiebgjbekaadoor", sum := "73a15d9e3c60b832007a53b12358da684f38bcba0e0c2df31ba28bda85c98226", func := "lightclient/lightclientlaw27.AddressEncodes", spec := "addressEncodes", named := ["lightclient/address.generators"], apart := false, laid := [("lightclient/address.generators", laid_lightclient_address_generators)] }
def AddressEncodesSaid : Prop := addressEncodesRow.holds Tryd.pinned (OpenSpec.ofChange addressEncodesSpec)

/-- ITS FALSE NEIGHBOUR: 'it returns false'. Refute it at one input. -/
def addressEncodesWrong : ChangeSpec := { name := "addressEncodes", fn := fun _ => fun
  | [d1, d2, d3] => { results := [.lit (.bool false)], args := [d1, d2, d3] }
  | _ => none }
def AddressEncodesWrongFalsely : Prop := addressEncodesRow.holds Tryd.pinned (OpenSpec.ofChange addressEncodesWrong)

/-- 'lightclientlaw27.AddressDecodes': WHATEVER THE INPUT: true; the input reads as it did. -/
def addressDecodesSpec : ChangeSpec := { name := "addressDecodes", fn := fun _ => fun
  | [d1, d2, d3, d4, d5] => { results := [.lit (.bool true)], args := [d1, d2, d3, d4, d5] }
  | _ => none }
def addressDecodesRow : OpenClaim := { program := "ytidkaiebgjbekaadoor", sum := "73a15d9e3c60b832007a53b12358da684f38bcba0e0c2df31ba28bda85c98226", func := "lightclient/lightclientlaw27.AddressDecodes", spec := "addressDecodes", inPlace := ["internal/bytealg.IndexByteString"], named := ["lightclient/address.generators"], apart := false, laid := [("lightclient/address.generators", laid_lightclient_address_generators)] }
def AddressDecodesSaid : Prop := addressDecodesRow.holds Tryd.pinned (OpenSpec.ofChange addressDecodesSpec)

/-- ITS FALSE NEIGHBOUR: 'it returns false'. Refute it at one input. -/
def addressDecodesWrong : ChangeSpec := { name := "addressDecodes", fn := fun _ => fun
  | [d1, d2, d3, d4, d5] => { results := [.lit (.bool false)], args := [d1, d2, d3, d4, d5] }
  | _ => none }
def AddressDecodesWrongFalsely : Prop := addressDecodesRow.holds Tryd.pinned (OpenSpec.ofChange addressDecodesWrong)

/-- 'lightclientlaw27.AddressBack': WHATEVER THE INPUT: true; the input reads as it did. -/
def addressBackSpec : ChangeSpec := { name := "addressBack", fn := fun _ => fun
  | [d1, d2] => { results := [.lit (.bool true)], args := [d1, d2] }
  | _ => none }
def addressBackRow : OpenClaim := { program := "ytidkaiebgjbekaadoor", sum := "73a15d9e3c60b832007a53b12358da684f38bcba0e0c2df31ba28bda85c98226", func := "lightclient/lightclientlaw27.AddressBack", spec := "addressBack", inPlace := ["internal/bytealg.IndexByteString"], named := ["lightclient/address.generators"], apart := false, laid := [("lightclient/address.generators", laid_lightclient_address_generators)] }
def AddressBackSaid : Prop := addressBackRow.holds Tryd.pinned (OpenSpec.ofChange addressBackSpec)

/-- ITS FALSE NEIGHBOUR: 'it returns false'. Refute it at one input. -/
def addressBackWrong : ChangeSpec := { name := "addressBack", fn := fun _ => fun
  | [d1, d2] => { results := [.lit (.bool false)], args := [d1, d2] }
  | _ => none }
def AddressBackWrongFalsely : Prop := addressBackRow.holds Tryd.pinned (OpenSpec.ofChange addressBackWrong)

/-- 'lightclientlaw27.AddressDetects': WHATEVER THE INPUT: true; the input reads as it did. -/
def addressDetectsSpec : ChangeSpec := { name := "addressDetects", fn := fun _ => fun
  | [d1, d2, d3, d4] => { results := [.lit (.bool true)], args := [d1, d2, d3, d4] }
  | _ => none }
def addressDetectsRow : OpenClaim := { program := "ytidkaiebgjbekaadoor", sum := "73a15d9e3c60b832007a53b12358da684f38bcba0e0c2df31ba28bda85c98226", func := "lightclient/lightclientlaw27.AddressDetects", spec := "addressDetects", inPlace := ["internal/bytealg.IndexByteString"], named := ["lightclient/address.generators"], apart := false, laid := [("lightclient/address.generators", laid_lightclient_address_generators)] }
def AddressDetectsSaid : Prop := addressDetectsRow.holds Tryd.pinned (OpenSpec.ofChange addressDetectsSpec)

/-- ITS FALSE NEIGHBOUR: 'it returns false'. Refute it at one input. -/
def addressDetectsWrong : ChangeSpec := { name := "addressDetects", fn := fun _ => fun
  | [d1, d2, d3, d4] => { results := [.lit (.bool false)], args := [d1, d2, d3, d4] }
  | _ => none }
def AddressDetectsWrongFalsely : Prop := addressDetectsRow.holds Tryd.pinned (OpenSpec.ofChange addressDetectsWrong)

/- THE SECOND FORM. 'bulk': how many values and letters a reading holds, each counted each time it is reached (what is shared counts as often as it is met; a slice's spare places count too). A statement '..UptoSaid' is the law's where the arguments, and the package variables that the reading takes, are together of bulk at most 1048576: NARROWER than '..Said'. Prove '..Said' where nothing that the law and all that it calls make is longer than what came in: it says more and counts as full. Else prove '..UptoSaid'. A law counts once. -/
mutual
def uptoBulk {H : Type} : DataW H → Nat
  | .lit (.string bytes) => bytes.length + 1
  | .lit _ => 1
  | .nil => 1
  | .ptr d => uptoBulk d + 1
  | .slice elems spare => uptoBulkAll elems + uptoBulkAll spare + 1
  | .agg parts => uptoBulkAll parts + 1
  | .iface _ d => uptoBulk d + 1
  | .map entries => uptoBulkEntries entries + 1
  | .held _ => 1
def uptoBulkAll {H : Type} : List (DataW H) → Nat
  | [] => 0
  | d :: r => uptoBulk d + uptoBulkAll r
def uptoBulkEntries {H : Type} : List (Lit × DataW H) → Nat
  | [] => 0
  | x :: r => uptoBulkEntry x + uptoBulkEntries r
def uptoBulkEntry {H : Type} : Lit × DataW H → Nat
  | (.string bytes, d) => bytes.length + uptoBulk d + 1
  | (_, d) => uptoBulk d + 1
 end
def uptoSmall : (H : Type) → List (DataW H) → Bool := fun _ ds => decide (uptoBulkAll ds ≤ 1048576)
def OpenSpec.upto (s : _root_.Go.ChangeSpec) : _root_.Go.OpenSpec := { _root_.Go.OpenSpec.ofChange s with cond := some uptoSmall }

/-- 'lightclientlaw27.AddressSums', WHERE WHAT IT READS IS OF BULK AT MOST 1048576: true; the input reads as it did. -/
def addressSumsUptoRow : OpenClaim := { program := "ytidkaiebgjbekaadoor", sum := "73a15d9e3c60b832007a53b12358da684f38bcba0e0c2df31ba28bda85c98226", func := "lightclient/lightclientlaw27.AddressSums", spec := "addressSums", named := ["lightclient/address.generators"], apart := false, laid := [("lightclient/address.generators", laid_lightclient_address_generators)], narrowed := true }
def AddressSumsUptoSaid : Prop := addressSumsUptoRow.holds Tryd.pinned (OpenSpec.upto addressSumsSpec)

/-- 'lightclientlaw27.AddressEncodes', WHERE WHAT IT READS IS OF BULK AT MOST 1048576: true; the input reads as it did. -/
def addressEncodesUptoRow : OpenClaim := { program := "ytidkaiebgjbekaadoor", sum := "73a15d9e3c60b832007a53b12358da684f38bcba0e0c2df31ba28bda85c98226", func := "lightclient/lightclientlaw27.AddressEncodes", spec := "addressEncodes", named := ["lightclient/address.generators"], apart := false, laid := [("lightclient/address.generators", laid_lightclient_address_generators)], narrowed := true }
def AddressEncodesUptoSaid : Prop := addressEncodesUptoRow.holds Tryd.pinned (OpenSpec.upto addressEncodesSpec)

/-- 'lightclientlaw27.AddressDecodes', WHERE WHAT IT READS IS OF BULK AT MOST 1048576: true; the input reads as it did. -/
def addressDecodesUptoRow : OpenClaim := { program := "ytidkaiebgjbekaadoor", sum := "73a15d9e3c60b832007a53b12358da684f38bcba0e0c2df31ba28bda85c98226", func := "lightclient/lightclientlaw27.AddressDecodes", spec := "addressDecodes", inPlace := ["internal/bytealg.IndexByteString"], named := ["lightclient/address.generators"], apart := false, laid := [("lightclient/address.generators", laid_lightclient_address_generators)], narrowed := true }
def AddressDecodesUptoSaid : Prop := addressDecodesUptoRow.holds Tryd.pinned (OpenSpec.upto addressDecodesSpec)

/-- 'lightclientlaw27.AddressBack', WHERE WHAT IT READS IS OF BULK AT MOST 1048576: true; the input reads as it did. -/
def addressBackUptoRow : OpenClaim := { program := "ytidkaiebgjbekaadoor", sum := "73a15d9e3c60b832007a53b12358da684f38bcba0e0c2df31ba28bda85c98226", func := "lightclient/lightclientlaw27.AddressBack", spec := "addressBack", inPlace := ["internal/bytealg.IndexByteString"], named := ["lightclient/address.generators"], apart := false, laid := [("lightclient/address.generators", laid_lightclient_address_generators)], narrowed := true }
def AddressBackUptoSaid : Prop := addressBackUptoRow.holds Tryd.pinned (OpenSpec.upto addressBackSpec)

/-- 'lightclientlaw27.AddressDetects', WHERE WHAT IT READS IS OF BULK AT MOST 1048576: true; the input reads as it did. -/
def addressDetectsUptoRow : OpenClaim := { program := "ytidkaiebgjbekaadoor", sum := "73a15d9e3c60b832007a53b12358da684f38bcba0e0c2df31ba28bda85c98226", func := "lightclient/lightclientlaw27.AddressDetects", spec := "addressDetects", inPlace := ["internal/bytealg.IndexByteString"], named := ["lightclient/address.generators"], apart := false, laid := [("lightclient/address.generators", laid_lightclient_address_generators)], narrowed := true }
def AddressDetectsUptoSaid : Prop := addressDetectsUptoRow.holds Tryd.pinned (OpenSpec.upto addressDetectsSpec)

end Rows
end Go.Proofs.YtidkaiebgjbekaaDoor
