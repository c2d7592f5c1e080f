import Derived.Test.YtidkaiebgjbekaaVmEval
import Derived.Test.YtidkaiebgjbekaaRows
namespace Go.Proofs.Ytidkaiebgjbekaa
open Go Go.Vm
@[simp] theorem ti2 : tiOf Try.prog 2 = some ⟨.int .i64, 1, 8, .int .i64 0⟩ := by kernel_rfl
@[simp] theorem ti3 : tiOf Try.prog 3 = some ⟨.int .i64, 1, 8, .int .i64 0⟩ := by kernel_rfl
@[simp] theorem ti4 : tiOf Try.prog 4 = some ⟨.bool, 1, 1, .bool false⟩ := by kernel_rfl
@[simp] theorem ti5 : tiOf Try.prog 5 = some ⟨.int .u8, 1, 1, .int .u8 0⟩ := by kernel_rfl
@[simp] theorem ti9 : tiOf Try.prog 9 = some ⟨.string, 1, 16, .string .empty⟩ := by kernel_rfl
@[simp] theorem ti12 : tiOf Try.prog 12 = some ⟨.int .u64, 1, 8, .int .u64 0⟩ := by kernel_rfl
@[simp] theorem ti21 : tiOf Try.prog 21 = some ⟨.int .i32, 1, 4, .int .i32 0⟩ := by kernel_rfl
@[simp] theorem ti22 : tiOf Try.prog 22 = some ⟨.slice 5, 1, 24, .slice none 0 0⟩ := by kernel_rfl
@[simp] theorem ti25 : tiOf Try.prog 25 = some ⟨.slice 22, 1, 24, .slice none 0 0⟩ := by kernel_rfl
@[simp] theorem ti26 : tiOf Try.prog 26 = some ⟨.int .i64, 1, 8, .int .i64 0⟩ := by kernel_rfl
@[simp] theorem ti34 : tiOf Try.prog 34 = some ⟨.int .u64, 1, 8, .int .u64 0⟩ := by kernel_rfl
@[simp] theorem ti35 : tiOf Try.prog 35 = some ⟨.int .u32, 1, 4, .int .u32 0⟩ := by kernel_rfl
@[simp] theorem ti36 : tiOf Try.prog 36 = some ⟨.slice 9, 1, 24, .slice none 0 0⟩ := by kernel_rfl
@[simp] theorem ti47 : tiOf Try.prog 47 = some ⟨.pointer 5, 1, 8, .pointer none⟩ := by kernel_rfl
end Go.Proofs.Ytidkaiebgjbekaa
