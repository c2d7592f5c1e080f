/- The law's sanity check returns true: it is run by the kernel, in all orders that its drawn regions leave open. -/
import Derived.Test.YtheekineakjhdaaDoorVmRunG
import Derived.Test.YtheekineakjhdaaDoorProg
set_option linter.unusedSimpArgs false
set_option linter.unusedVariables false
namespace Go.Proofs.YtheekineakjhdaaDoor
open Go Go.Vm
set_option maxRecDepth 100000
def stillF : FuncId → Bool := memF [54, 60]
def growF : FuncId → Bool := memF [44, 59, 51, 52]
def runArgs : List V := [.row none 1 [eI .u8 2, eI .u8 5], .row none 1 [.row none 1 [eI .u8 7]], .agg (List.replicate 32 (eI .u8 0) ++ [eI .i64 0, eI .i64 0])]
def runRes : V := .tup [.row none 1 [.row none 1 [eI .u8 1]], eI .i64 2, eI .i64 0]
theorem mixedS : Tryd.prog.follows .mixedOrders = true := by kernel_rfl
theorem run_ok : endsR Tryd.prog stillF growF (evalG Tryd.prog stillF growF 300) 300 30 runArgs runRes = true := by kernel_rfl
theorem sane_ok : endsR Tryd.prog stillF growF (addO (evalG Tryd.prog stillF growF 300) 30 runArgs runRes) 300 7 [] (eB true) = true := by kernel_rfl
theorem run_fn : PFn Tryd.prog 30 runArgs runRes := pfn_ends (evalG_ok mixedS 300) mixedS run_ok
theorem sane_fn : PFn Tryd.prog 7 [] (eB true) := pfn_ends (addO_ok (evalG_ok mixedS 300) run_fn) mixedS sane_ok
end Go.Proofs.YtheekineakjhdaaDoor
