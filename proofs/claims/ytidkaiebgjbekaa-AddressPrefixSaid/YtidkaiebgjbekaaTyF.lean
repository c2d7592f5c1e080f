import Derived.Test.YtidkaiebgjbekaaTy
import Derived.Test.YtidkaiebgjbekaaVmDrawG
import Derived.Test.YtidkaiebgjbekaaVmStr
namespace Go.Proofs.Ytidkaiebgjbekaa
open Go Go.Vm
theorem mixed : Try.prog.follows .mixedOrders = true := by kernel_rfl
noncomputable def E0 : Env Try.prog := Env.zero mixed
end Go.Proofs.Ytidkaiebgjbekaa
