import Derived.Test.YtidkaiebgjbekaaDoorVmEval
import Derived.Test.YtidkaiebgjbekaaDoorRows
namespace Go.Proofs.YtidkaiebgjbekaaDoor
open Go Go.Vm
@[simp] theorem ti2 : tiOf Tryd.prog 2 = some ⟨.int .i64, 1, 8, .int .i64 0⟩ := by kernel_rfl
@[simp] theorem ti3 : tiOf Tryd.prog 3 = some ⟨.int .i64, 1, 8, .int .i64 0⟩ := by kernel_rfl
@[simp] theorem ti4 : tiOf Tryd.prog 4 = some ⟨.bool, 1, 1, .bool false⟩ := by kernel_rfl
@[simp] theorem ti5 : tiOf Tryd.prog 5 = some ⟨.int .u8, 1, 1, .int .u8 0⟩ := by kernel_rfl
@[simp] theorem ti9 : tiOf Tryd.prog 9 = some ⟨.string, 1, 16, .string .empty⟩ := by kernel_rfl
@[simp] theorem ti12 : tiOf Tryd.prog 12 = some ⟨.int .u64, 1, 8, .int .u64 0⟩ := by kernel_rfl
@[simp] theorem ti21 : tiOf Tryd.prog 21 = some ⟨.int .i32, 1, 4, .int .i32 0⟩ := by kernel_rfl
@[simp] theorem ti22 : tiOf Tryd.prog 22 = some ⟨.slice 5, 1, 24, .slice none 0 0⟩ := by kernel_rfl
@[simp] theorem ti24 : tiOf Tryd.prog 24 = some ⟨.array 6 5, 6, 6, .agg #[.int .u8 0, .int .u8 0, .int .u8 0, .int .u8 0, .int .u8 0, .int .u8 0]⟩ := by kernel_rfl
@[simp] theorem ti28 : tiOf Tryd.prog 28 = some ⟨.slice 9, 1, 24, .slice none 0 0⟩ := by kernel_rfl
@[simp] theorem ti29 : tiOf Tryd.prog 29 = some ⟨.int .i64, 1, 8, .int .i64 0⟩ := by kernel_rfl
@[simp] theorem ti41 : tiOf Tryd.prog 41 = some ⟨.int .u32, 1, 4, .int .u32 0⟩ := by kernel_rfl
@[simp] theorem ti43 : tiOf Tryd.prog 43 = some ⟨.int .u64, 1, 8, .int .u64 0⟩ := by kernel_rfl
@[simp] theorem ti51 : tiOf Tryd.prog 51 = some ⟨.array 5 41, 5, 20, .agg #[.int .u32 0, .int .u32 0, .int .u32 0, .int .u32 0, .int .u32 0]⟩ := by kernel_rfl
@[simp] theorem ti63 : tiOf Tryd.prog 63 = some ⟨.pointer 5, 1, 8, .pointer none⟩ := by kernel_rfl
end Go.Proofs.YtidkaiebgjbekaaDoor
