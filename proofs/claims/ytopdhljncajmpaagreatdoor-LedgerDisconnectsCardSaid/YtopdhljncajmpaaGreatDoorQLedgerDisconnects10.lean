/- Texts of ours, joined: Wk1. -/
import Derived.Test.YtopdhljncajmpaaGreatDoorQLedgerDisconnects4
import Derived.Test.YtopdhljncajmpaaGreatDoorQLedgerDisconnects8
import Derived.Test.YtopdhljncajmpaaGreatDoorQLedgerDisconnects9
set_option linter.unusedVariables false
set_option linter.unusedSimpArgs false
set_option maxRecDepth 20000
set_option maxHeartbeats 8000000
namespace Go.Proofs.YtopdhljncajmpaaGreatDoor
open Go Go.Vm Go.Proofs.Tryz
instance :BdC Tryz.prog 26 (.agg ([0,0,0,0,0,0,0,0,0,0,0,0,0,0,0,0,0,0,0,0,0,0,0,0,0,0,0,0,0,0,0,0].map (eI .u8))):=⟨aHq iH nF rfl⟩
instance :BdC Tryz.prog 31 (.agg ([0,0,0,0].map (eI .u64))):=⟨aHq aHw aGp rfl⟩
theorem rB {N:Nat}{x y c:Int}{r:Int×Int}(hr:nH N x y c=some r):Vm.Fn Tryz.prog 208 [] [eI .u64 x,eI .u64 y,eI .u64 c] (.tup [eI .u64 r.1,eI .u64 r.2]) []:=
 aVc Tryz.func208 (by kernel_rfl) (by kernel_rfl) (by kernel_rfl) (by kernel_rfl) hr
instance :CtC 208 true (bC @rB):=⟨@rB⟩
theorem kI {N x k r} (hr:mJ N x k=some r):
  Fp 245 [] [eI .u32 x,eI .i64 k] (eI .u32 r) []:=
 jC func245 ntmps245 results245
instance :CtC 245 true (bC @kI):=⟨@kI⟩
theorem xD {N x y r} (hr:wJ N x y=some r):
  Fp 207 [] [eI .u64 x,eI .u64 y] (.tup [eI .u64 r.1,eI .u64 r.2]) []:=
 jC func207 ntmps207 results207
instance :CtC 207 true (bC @xD):=⟨@xD⟩
theorem aEd {N:Nat}{x y c:Int}{r:Int×Int}(hr:aCw N x y c=some r):Vm.Fn Tryz.prog 239 [] [eI .u64 x,eI .u64 y,eI .u64 c] (.tup [eI .u64 r.1,eI .u64 r.2]) []:=
 aVL Tryz.func239 (by kernel_rfl) (by kernel_rfl) (by kernel_rfl) (by kernel_rfl) hr
instance :CtC 239 true (bC @aEd):=⟨@aEd⟩
end Go.Proofs.YtopdhljncajmpaaGreatDoor
