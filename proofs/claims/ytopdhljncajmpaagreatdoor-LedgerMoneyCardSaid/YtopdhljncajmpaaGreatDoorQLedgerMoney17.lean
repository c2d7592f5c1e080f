/- Texts of ours, joined: HandL. -/
import Derived.Test.YtopdhljncajmpaaGreatDoorQLedgerMoney15
import Derived.Test.YtopdhljncajmpaaGreatDoorQLedgerMoney16
set_option linter.unusedSimpArgs false
set_option linter.unusedVariables false
namespace Go.Proofs.YtopdhljncajmpaaGreatDoor
open Go Go.Vm
theorem aIq {N aB bG bT bF bX r} (hr:mX N aB bG bT bF bX=some r):
  Vm.Fn Tryz.prog 41 [some ⟨102,(eI .u32 aB.Genesis.Version)::(aL (eI .u8) aB.Genesis.Prev (aL (eI .u8) aB.Genesis.Root ((eI .u32 aB.Genesis.Time)::((eI .u32 aB.Genesis.Bits)::((eI .u32 aB.Genesis.Nonce)::(dU (eI .u64) aB.Limit [eI .i64 aB.Window,eI .u32 aB.Spacing,eI .u32 aB.Future,eI .u32 aB.Version,.row none 33 (aB.Checkpoints.map aW),eI .i64 aB.Subsidy,eI .i64 aB.Halving,eI .i64 aB.Maturity,eI .i64 bG,.mp 1,.sl 2 0 bF.length 37 true,eI .i64 bX]))))))⟩,some ⟨33037,bT.flatMap fD⟩,some ⟨80,bF.flatMap aH⟩] [.ptr 0 0] (.row none 37 (r.map aM)) [some ⟨102,(eI .u32 aB.Genesis.Version)::(aL (eI .u8) aB.Genesis.Prev (aL (eI .u8) aB.Genesis.Root ((eI .u32 aB.Genesis.Time)::((eI .u32 aB.Genesis.Bits)::((eI .u32 aB.Genesis.Nonce)::(dU (eI .u64) aB.Limit [eI .i64 aB.Window,eI .u32 aB.Spacing,eI .u32 aB.Future,eI .u32 aB.Version,.row none 33 (aB.Checkpoints.map aW),eI .i64 aB.Subsidy,eI .i64 aB.Halving,eI .i64 aB.Maturity,eI .i64 bG,.mp 1,.sl 2 0 bF.length 37 true,eI .i64 bX]))))))⟩,some ⟨33037,bT.flatMap fD⟩,some ⟨80,bF.flatMap aH⟩]:=aXP (N:=70000) (by decide) (fun h=>aKh h) (fun h=>oC h) hr
end Go.Proofs.YtopdhljncajmpaaGreatDoor
