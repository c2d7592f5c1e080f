/-
  DERIVED. GIVEN WITH THE SEED: THE CARDS: each row of YtidkaiebgjbekaaDoorRows.lean that lists a variable, with what it lists TIED to the program's text (the seventh form; the later family's looks); each row that meets fmt, with fmt's text TOLD by the authors' own Lean function (tested against real Go, not proved from fmt's source: count such statements apart). THE CARD IS WHAT COUNTS. Prove the row's statement (the work); the ties are given (YtidkaiebgjbekaaDoorTie.lean); close each card by the builder's one call (the guide's Derived/Test/ToyasCard.lean, 'card_holds'). Laid BY PROGRAM, IN A SANDBOX (cutbox-door.mjs). By AI agents, Wed Nov 11 2026. No macro, syntax, notation, axiom, sorry.
-/
import Derived.Test.YtidkaiebgjbekaaDoorRows
import GoSem.ClaimSeven
namespace Go.Proofs.YtidkaiebgjbekaaDoor
namespace Rows

/-- THE TIED CARD OF 'lightclientlaw27.AddressSums'. -/
def addressSumsCard : Claim7 := { stood := { row := addressSumsRow, standIns := [], harness := (true, "2602700d019cd81d6485dd754a7c3e646c5d5b9f5d3f08b3db1da491c5a175f9"), looks := false }, kinds := [], alts := [], laidByText := true, laidKinds := [.data], laidTests := true, laidLooks := .later }
def AddressSumsCardSaid : Prop := Claim7.holds Tryd.pinned (.plain (OpenSpec.ofChange addressSumsSpec)) addressSumsCard

/-- THE TIED CARD OF 'lightclientlaw27.AddressEncodes'. -/
def addressEncodesCard : Claim7 := { stood := { row := addressEncodesRow, standIns := [], harness := (true, "2602700d019cd81d6485dd754a7c3e646c5d5b9f5d3f08b3db1da491c5a175f9"), looks := false }, kinds := [], alts := [], laidByText := true, laidKinds := [.data], laidTests := true, laidLooks := .later }
def AddressEncodesCardSaid : Prop := Claim7.holds Tryd.pinned (.plain (OpenSpec.ofChange addressEncodesSpec)) addressEncodesCard

/-- THE TIED CARD OF 'lightclientlaw27.AddressDecodes'. -/
def addressDecodesCard : Claim7 := { stood := { row := addressDecodesRow, standIns := [], harness := (true, "2602700d019cd81d6485dd754a7c3e646c5d5b9f5d3f08b3db1da491c5a175f9"), looks := false }, kinds := [], alts := [], laidByText := true, laidKinds := [.data], laidTests := true, laidLooks := .later }
def AddressDecodesCardSaid : Prop := Claim7.holds Tryd.pinned (.plain (OpenSpec.ofChange addressDecodesSpec)) addressDecodesCard

/-- THE TIED CARD OF 'lightclientlaw27.AddressBack'. -/
def addressBackCard : Claim7 := { stood := { row := addressBackRow, standIns := [], harness := (true, "2602700d019cd81d6485dd754a7c3e646c5d5b9f5d3f08b3db1da491c5a175f9"), looks := false }, kinds := [], alts := [], laidByText := true, laidKinds := [.data], laidTests := true, laidLooks := .later }
def AddressBackCardSaid : Prop := Claim7.holds Tryd.pinned (.plain (OpenSpec.ofChange addressBackSpec)) addressBackCard

/-- THE TIED CARD OF 'lightclientlaw27.AddressDetects'. -/
def addressDetectsCard : Claim7 := { stood := { row := addressDetectsRow, standIns := [], harness := (true, "2602700d019cd81d6485dd754a7c3e646c5d5b9f5d3f08b3db1da491c5a175f9"), looks := false }, kinds := [], alts := [], laidByText := true, laidKinds := [.data], laidTests := true, laidLooks := .later }
def AddressDetectsCardSaid : Prop := Claim7.holds Tryd.pinned (.plain (OpenSpec.ofChange addressDetectsSpec)) addressDetectsCard

/-- THE SECOND FORM's CARD OF 'lightclientlaw27.AddressSums'. -/
def addressSumsUptoCard : Claim7 := { stood := { row := addressSumsUptoRow, standIns := [], harness := (true, "2602700d019cd81d6485dd754a7c3e646c5d5b9f5d3f08b3db1da491c5a175f9"), looks := false }, kinds := [], alts := [], laidByText := true, laidKinds := [.data], laidTests := true, laidLooks := .later }
def AddressSumsUptoCardSaid : Prop := Claim7.holds Tryd.pinned (.plain (OpenSpec.upto addressSumsSpec)) addressSumsUptoCard

/-- THE SECOND FORM's CARD OF 'lightclientlaw27.AddressEncodes'. -/
def addressEncodesUptoCard : Claim7 := { stood := { row := addressEncodesUptoRow, standIns := [], harness := (true, "2602700d019cd81d6485dd754a7c3e646c5d5b9f5d3f08b3db1da491c5a175f9"), looks := false }, kinds := [], alts := [], laidByText := true, laidKinds := [.data], laidTests := true, laidLooks := .later }
def AddressEncodesUptoCardSaid : Prop := Claim7.holds Tryd.pinned (.plain (OpenSpec.upto addressEncodesSpec)) addressEncodesUptoCard

/-- THE SECOND FORM's CARD OF 'lightclientlaw27.AddressDecodes'. -/
def addressDecodesUptoCard : Claim7 := { stood := { row := addressDecodesUptoRow, standIns := [], harness := (true, "2602700d019cd81d6485dd754a7c3e646c5d5b9f5d3f08b3db1da491c5a175f9"), looks := false }, kinds := [], alts := [], laidByText := true, laidKinds := [.data], laidTests := true, laidLooks := .later }
def AddressDecodesUptoCardSaid : Prop := Claim7.holds Tryd.pinned (.plain (OpenSpec.upto addressDecodesSpec)) addressDecodesUptoCard

/-- THE SECOND FORM's CARD OF 'lightclientlaw27.AddressBack'. -/
def addressBackUptoCard : Claim7 := { stood := { row := addressBackUptoRow, standIns := [], harness := (true, "2602700d019cd81d6485dd754a7c3e646c5d5b9f5d3f08b3db1da491c5a175f9"), looks := false }, kinds := [], alts := [], laidByText := true, laidKinds := [.data], laidTests := true, laidLooks := .later }
def AddressBackUptoCardSaid : Prop := Claim7.holds Tryd.pinned (.plain (OpenSpec.upto addressBackSpec)) addressBackUptoCard

/-- THE SECOND FORM's CARD OF 'lightclientlaw27.AddressDetects'. -/
def addressDetectsUptoCard : Claim7 := { stood := { row := addressDetectsUptoRow, standIns := [], harness := (true, "2602700d019cd81d6485dd754a7c3e646c5d5b9f5d3f08b3db1da491c5a175f9"), looks := false }, kinds := [], alts := [], laidByText := true, laidKinds := [.data], laidTests := true, laidLooks := .later }
def AddressDetectsUptoCardSaid : Prop := Claim7.holds Tryd.pinned (.plain (OpenSpec.upto addressDetectsSpec)) addressDetectsUptoCard
end Rows
end Go.Proofs.YtidkaiebgjbekaaDoor
