/- Texts of ours, joined: Wk1. -/
import Derived.Test.YtopdhljncajmpaaGreatDoorQLedgerMoney4
import Derived.Test.YtopdhljncajmpaaGreatDoorQLedgerMoney8
import Derived.Test.YtopdhljncajmpaaGreatDoorQLedgerMoney9
set_option linter.unusedVariables false
set_option linter.unusedSimpArgs false
set_option maxRecDepth 20000
set_option maxHeartbeats 8000000
namespace Go.Proofs.YtopdhljncajmpaaGreatDoor
open Go Go.Vm Go.Proofs.Tryz
instance :BdC Tryz.prog 26 (.agg ([0,0,0,0,0,0,0,0,0,0,0,0,0,0,0,0,0,0,0,0,0,0,0,0,0,0,0,0,0,0,0,0].map (eI .u8))):=⟨aHf iO oS rfl⟩
instance :BdC Tryz.prog 31 (.agg ([0,0,0,0].map (eI .u64))):=⟨aHf aHk aF6 rfl⟩
theorem qL {N:Nat}{x y c:Int}{r:Int×Int}(hr:mH N x y c=some r):Vm.Fn Tryz.prog 208 [] [eI .u64 x,eI .u64 y,eI .u64 c] (.tup [eI .u64 r.1,eI .u64 r.2]) []:=
 aUR Tryz.func208 (by kernel_rfl) (by kernel_rfl) (by kernel_rfl) (by kernel_rfl) hr
instance :CtC 208 true (aX @qL):=⟨@qL⟩
theorem jT {N x k r} (hr:lO N x k=some r):
  Fp 245 [] [eI .u32 x,eI .i64 k] (eI .u32 r) []:=
 fR func245 ntmps245 results245
instance :CtC 245 true (aX @jT):=⟨@jT⟩
theorem wG {N x y r} (hr:vQ N x y=some r):
  Fp 207 [] [eI .u64 x,eI .u64 y] (.tup [eI .u64 r.1,eI .u64 r.2]) []:=
 fR func207 ntmps207 results207
instance :CtC 207 true (aX @wG):=⟨@wG⟩
theorem aD0 {N:Nat}{x y c:Int}{r:Int×Int}(hr:aCt N x y c=some r):Vm.Fn Tryz.prog 239 [] [eI .u64 x,eI .u64 y,eI .u64 c] (.tup [eI .u64 r.1,eI .u64 r.2]) []:=
 aVn Tryz.func239 (by kernel_rfl) (by kernel_rfl) (by kernel_rfl) (by kernel_rfl) hr
instance :CtC 239 true (aX @aD0):=⟨@aD0⟩
end Go.Proofs.YtopdhljncajmpaaGreatDoor
