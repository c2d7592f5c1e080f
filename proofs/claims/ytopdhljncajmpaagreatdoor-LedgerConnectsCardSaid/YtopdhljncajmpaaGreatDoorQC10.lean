/- Texts of ours, joined. -/
import Derived.Test.YtopdhljncajmpaaGreatDoorQC4
import Derived.Test.YtopdhljncajmpaaGreatDoorQC8
import Derived.Test.YtopdhljncajmpaaGreatDoorQC9
set_option linter.unusedVariables false
set_option linter.unusedSimpArgs false
set_option maxRecDepth 20000
set_option maxHeartbeats 8000000
namespace Go.Proofs.YtopdhljncajmpaaGreatDoor
open Go Go.Vm Go.Proofs.Tryz
instance :BdC Tryz.prog 26 (.agg ([0,0,0,0,0,0,0,0,0,0,0,0,0,0,0,0,0,0,0,0,0,0,0,0,0,0,0,0,0,0,0,0].map (eI .u8))):=⟨aHG gZ mF rfl⟩
instance :BdC Tryz.prog 31 (.agg ([0,0,0,0].map (eI .u64))):=⟨aHG aHK aGz rfl⟩
theorem qY {N:Nat}{x y c:Int}{r:Int×Int}(hr:mQ N x y c=some r):Vm.Fn Tryz.prog 208 [] [eI .u64 x,eI .u64 y,eI .u64 c] (.tup [eI .u64 r.1,eI .u64 r.2]) []:=
 aVt Tryz.func208 (by kernel_rfl) (by kernel_rfl) (by kernel_rfl) (by kernel_rfl) hr
instance :CtC 208 true (bC @qY):=⟨@qY⟩
theorem j9 {N x k r} (hr:lX N x k=some r):
  Fp 245 [] [eI .u32 x,eI .i64 k] (eI .u32 r) []:=
 fV func245 ntmps245 results245
instance :CtC 245 true (bC @j9):=⟨@j9⟩
theorem wY {N x y r} (hr:wE N x y=some r):
  Fp 207 [] [eI .u64 x,eI .u64 y] (.tup [eI .u64 r.1,eI .u64 r.2]) []:=
 fV func207 ntmps207 results207
instance :CtC 207 true (bC @wY):=⟨@wY⟩
theorem aEn {N:Nat}{x y c:Int}{r:Int×Int}(hr:aCF N x y c=some r):Vm.Fn Tryz.prog 239 [] [eI .u64 x,eI .u64 y,eI .u64 c] (.tup [eI .u64 r.1,eI .u64 r.2]) []:=
 aV3 Tryz.func239 (by kernel_rfl) (by kernel_rfl) (by kernel_rfl) (by kernel_rfl) hr
instance :CtC 239 true (bC @aEn):=⟨@aEn⟩
end Go.Proofs.YtopdhljncajmpaaGreatDoor
