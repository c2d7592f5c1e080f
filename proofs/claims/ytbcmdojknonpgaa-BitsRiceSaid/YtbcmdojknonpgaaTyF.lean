import Derived.Test.YtbcmdojknonpgaaTy
import Derived.Test.YtbcmdojknonpgaaVmDrawG
namespace Go.Proofs.Ytbcmdojknonpgaa
open Go Go.Vm
theorem mixed : Try.prog.follows .mixedOrders = true := by kernel_rfl
noncomputable def E0 : Env Try.prog := Env.zero mixed
theorem fap24_0 (b off : Nat) : fieldAtV Try.prog 24 (.ptr b off) 0 = some (.ptr b (off + 0)) := by simp [fieldAtV, ti24, ti22]
theorem fae24_0 (es : List V) (i off : Nat) : fieldAtV Try.prog 24 (.eptr es i off) 0 = some (.eptr es i (off + 0)) := by simp [fieldAtV, ti24, ti22]
theorem fap24_1 (b off : Nat) : fieldAtV Try.prog 24 (.ptr b off) 1 = some (.ptr b (off + 1)) := by simp [fieldAtV, ti24, ti3]
theorem fae24_1 (es : List V) (i off : Nat) : fieldAtV Try.prog 24 (.eptr es i off) 1 = some (.eptr es i (off + 1)) := by simp [fieldAtV, ti24, ti3]
theorem fap45_0 (b off : Nat) : fieldAtV Try.prog 45 (.ptr b off) 0 = some (.ptr b (off + 0)) := by simp [fieldAtV, ti45, ti24]
theorem fae45_0 (es : List V) (i off : Nat) : fieldAtV Try.prog 45 (.eptr es i off) 0 = some (.eptr es i (off + 0)) := by simp [fieldAtV, ti45, ti24]
theorem pl24 : placesOf Try.prog 24 = some #[(0, 1), (1, 1)] := by kernel_rfl
theorem pl45 : placesOf Try.prog 45 = some #[(0, 2)] := by kernel_rfl
end Go.Proofs.Ytbcmdojknonpgaa
