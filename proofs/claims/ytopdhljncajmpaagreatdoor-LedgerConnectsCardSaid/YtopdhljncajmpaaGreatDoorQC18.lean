/- Texts of ours, joined. -/
import Derived.Test.YtopdhljncajmpaaGreatDoorQC16
import Derived.Test.YtopdhljncajmpaaGreatDoorQC17
set_option linter.unusedSimpArgs false
set_option linter.unusedVariables false
namespace Go.Proofs.YtopdhljncajmpaaGreatDoor
open Go Go.Vm
theorem aIX {N aC bK bY bJ bZ r} (hr:nL N aC bK bY bJ bZ=some r):
  Vm.Fn Tryz.prog 41 [some ⟨102,(eI .u32 aC.Genesis.Version)::(aN (eI .u8) aC.Genesis.Prev (aN (eI .u8) aC.Genesis.Root ((eI .u32 aC.Genesis.Time)::((eI .u32 aC.Genesis.Bits)::((eI .u32 aC.Genesis.Nonce)::(eG (eI .u64) aC.Limit [eI .i64 aC.Window,eI .u32 aC.Spacing,eI .u32 aC.Future,eI .u32 aC.Version,.row none 33 (aC.Checkpoints.map bB),eI .i64 aC.Subsidy,eI .i64 aC.Halving,eI .i64 aC.Maturity,eI .i64 bK,.mp 1,.sl 2 0 bJ.length 37 true,eI .i64 bZ]))))))⟩,some ⟨33037,bY.flatMap fG⟩,some ⟨80,bJ.flatMap aH⟩] [.ptr 0 0] (.row none 37 (r.map aP)) [some ⟨102,(eI .u32 aC.Genesis.Version)::(aN (eI .u8) aC.Genesis.Prev (aN (eI .u8) aC.Genesis.Root ((eI .u32 aC.Genesis.Time)::((eI .u32 aC.Genesis.Bits)::((eI .u32 aC.Genesis.Nonce)::(eG (eI .u64) aC.Limit [eI .i64 aC.Window,eI .u32 aC.Spacing,eI .u32 aC.Future,eI .u32 aC.Version,.row none 33 (aC.Checkpoints.map bB),eI .i64 aC.Subsidy,eI .i64 aC.Halving,eI .i64 aC.Maturity,eI .i64 bK,.mp 1,.sl 2 0 bJ.length 37 true,eI .i64 bZ]))))))⟩,some ⟨33037,bY.flatMap fG⟩,some ⟨80,bJ.flatMap aH⟩]:=aYA (N:=70000) (by decide) (fun h=>aKO h) (fun h=>oQ h) hr
end Go.Proofs.YtopdhljncajmpaaGreatDoor
