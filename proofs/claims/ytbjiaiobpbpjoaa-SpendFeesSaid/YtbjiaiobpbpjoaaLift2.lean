import Derived.Test.YtbjiaiobpbpjoaaPlain0
import Derived.Test.YtbjiaiobpbpjoaaLift
set_option linter.unusedSimpArgs false
set_option linter.unusedVariables false
namespace Go.Proofs.Ytbjiaiobpbpjoaa
open Go Go.Vm
def intsOf (l : List UInt8) : List Int := l.map fun b => (b.toNat : Int)
theorem intsOf_byt (l : List UInt8) : Byt (intsOf l) := by
  intro x hx
  simp only [intsOf, List.mem_map] at hx
  obtain ⟨b, _, rfl⟩ := hx
  have := UInt8.toNat_lt b
  omega
theorem bytesV_eq (l : List UInt8) : bytesV l = (intsOf l).map (eI .u8) := by simp [bytesV, intsOf, List.map_map, Function.comp_def]
end Go.Proofs.Ytbjiaiobpbpjoaa
