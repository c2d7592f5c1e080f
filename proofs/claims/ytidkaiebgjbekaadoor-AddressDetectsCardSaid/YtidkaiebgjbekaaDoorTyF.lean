import Derived.Test.YtidkaiebgjbekaaDoorTy
import Derived.Test.YtidkaiebgjbekaaDoorVmDrawG
import Derived.Test.YtidkaiebgjbekaaDoorVmExt
namespace Go.Proofs.YtidkaiebgjbekaaDoor
open Go Go.Vm
theorem mixed : Tryd.prog.follows .mixedOrders = true := by kernel_rfl
theorem dep : 2 ≤ Tryd.prog.depth := Nat.le_of_ble_eq_true (by kernel_rfl)
noncomputable def E0 : Env Tryd.prog := Env.zero mixed
end Go.Proofs.YtidkaiebgjbekaaDoor
