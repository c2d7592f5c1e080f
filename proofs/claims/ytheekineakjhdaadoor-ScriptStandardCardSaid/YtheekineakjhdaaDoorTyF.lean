import Derived.Test.YtheekineakjhdaaDoorTy
import Derived.Test.YtheekineakjhdaaDoorVmDrawG
import Derived.Test.YtheekineakjhdaaDoorVmStl
namespace Go.Proofs.YtheekineakjhdaaDoor
open Go Go.Vm
theorem mixed : Tryd.prog.follows .mixedOrders = true := by kernel_rfl
theorem dep : 2 ≤ Tryd.prog.depth := Nat.le_of_ble_eq_true (by kernel_rfl)
noncomputable def E0 : Env Tryd.prog := Env.zero mixed
theorem fap59_0 (b off : Nat) : fieldAtV Tryd.prog 59 (.ptr b off) 0 = some (.ptr b (off + 0)) := by simp [fieldAtV, ti59, ti3]
theorem fae59_0 (es : List V) (i off : Nat) : fieldAtV Tryd.prog 59 (.eptr es i off) 0 = some (.eptr es i (off + 0)) := by simp [fieldAtV, ti59, ti3]
theorem fap59_1 (b off : Nat) : fieldAtV Tryd.prog 59 (.ptr b off) 1 = some (.ptr b (off + 1)) := by simp [fieldAtV, ti59, ti22]
theorem fae59_1 (es : List V) (i off : Nat) : fieldAtV Tryd.prog 59 (.eptr es i off) 1 = some (.eptr es i (off + 1)) := by simp [fieldAtV, ti59, ti22]
theorem fap59_2 (b off : Nat) : fieldAtV Tryd.prog 59 (.ptr b off) 2 = some (.ptr b (off + 2)) := by simp [fieldAtV, ti59, ti3]
theorem fae59_2 (es : List V) (i off : Nat) : fieldAtV Tryd.prog 59 (.eptr es i off) 2 = some (.eptr es i (off + 2)) := by simp [fieldAtV, ti59, ti3]
theorem fap59_3 (b off : Nat) : fieldAtV Tryd.prog 59 (.ptr b off) 3 = some (.ptr b (off + 3)) := by simp [fieldAtV, ti59, ti3]
theorem fae59_3 (es : List V) (i off : Nat) : fieldAtV Tryd.prog 59 (.eptr es i off) 3 = some (.eptr es i (off + 3)) := by simp [fieldAtV, ti59, ti3]
theorem pl56 : placesOf Tryd.prog 56 = some #[(0, 32), (32, 1), (33, 1)] := by kernel_rfl
theorem pl59 : placesOf Tryd.prog 59 = some #[(0, 1), (1, 1), (2, 1), (3, 1)] := by kernel_rfl
end Go.Proofs.YtheekineakjhdaaDoor
