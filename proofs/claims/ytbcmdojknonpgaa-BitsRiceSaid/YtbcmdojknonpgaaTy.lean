import Derived.Test.YtbcmdojknonpgaaVmEval
import Derived.Test.YtbcmdojknonpgaaRows
namespace Go.Proofs.Ytbcmdojknonpgaa
open Go Go.Vm
@[simp] theorem ti2 : tiOf Try.prog 2 = some ⟨.int .i64, 1, 8, .int .i64 0⟩ := by kernel_rfl
@[simp] theorem ti3 : tiOf Try.prog 3 = some ⟨.int .i64, 1, 8, .int .i64 0⟩ := by kernel_rfl
@[simp] theorem ti4 : tiOf Try.prog 4 = some ⟨.bool, 1, 1, .bool false⟩ := by kernel_rfl
@[simp] theorem ti5 : tiOf Try.prog 5 = some ⟨.int .u8, 1, 1, .int .u8 0⟩ := by kernel_rfl
@[simp] theorem ti9 : tiOf Try.prog 9 = some ⟨.string, 1, 16, .string .empty⟩ := by kernel_rfl
@[simp] theorem ti12 : tiOf Try.prog 12 = some ⟨.int .u64, 1, 8, .int .u64 0⟩ := by kernel_rfl
@[simp] theorem ti21 : tiOf Try.prog 21 = some ⟨.int .i32, 1, 4, .int .i32 0⟩ := by kernel_rfl
@[simp] theorem ti22 : tiOf Try.prog 22 = some ⟨.slice 5, 1, 24, .slice none 0 0⟩ := by kernel_rfl
@[simp] theorem ti23 : tiOf Try.prog 23 = some ⟨.struct #[{ name := "Data", type := 22, offset := 0, embedded := false, tag := "", pkgPath := "", byteOffset := 0 }, { name := "N", type := 3, offset := 1, embedded := false, tag := "", pkgPath := "", byteOffset := 24 }], 2, 32, .agg #[.slice none 0 0, .int .i64 0]⟩ := by kernel_rfl
@[simp] theorem ti24 : tiOf Try.prog 24 = some ⟨.struct #[{ name := "Data", type := 22, offset := 0, embedded := false, tag := "", pkgPath := "", byteOffset := 0 }, { name := "N", type := 3, offset := 1, embedded := false, tag := "", pkgPath := "", byteOffset := 24 }], 2, 32, .agg #[.slice none 0 0, .int .i64 0]⟩ := by kernel_rfl
@[simp] theorem ti25 : tiOf Try.prog 25 = some ⟨.int .u64, 1, 8, .int .u64 0⟩ := by kernel_rfl
@[simp] theorem ti28 : tiOf Try.prog 28 = some ⟨.int .i64, 1, 8, .int .i64 0⟩ := by kernel_rfl
@[simp] theorem ti37 : tiOf Try.prog 37 = some ⟨.slice 38, 1, 24, .slice none 0 0⟩ := by kernel_rfl
@[simp] theorem ti38 : tiOf Try.prog 38 = some ⟨.int .u16, 1, 2, .int .u16 0⟩ := by kernel_rfl
@[simp] theorem ti41 : tiOf Try.prog 41 = some ⟨.pointer 45, 1, 8, .pointer none⟩ := by kernel_rfl
@[simp] theorem ti44 : tiOf Try.prog 44 = some ⟨.struct #[{ name := "Bits", type := 24, offset := 0, embedded := true, tag := "", pkgPath := "", byteOffset := 0 }], 2, 32, .agg #[.slice none 0 0, .int .i64 0]⟩ := by kernel_rfl
@[simp] theorem ti45 : tiOf Try.prog 45 = some ⟨.struct #[{ name := "Bits", type := 24, offset := 0, embedded := true, tag := "", pkgPath := "", byteOffset := 0 }], 2, 32, .agg #[.slice none 0 0, .int .i64 0]⟩ := by kernel_rfl
@[simp] theorem ti52 : tiOf Try.prog 52 = some ⟨.slice 22, 1, 24, .slice none 0 0⟩ := by kernel_rfl
@[simp] theorem ti54 : tiOf Try.prog 54 = some ⟨.int .u64, 1, 8, .int .u64 0⟩ := by kernel_rfl
@[simp] theorem ti62 : tiOf Try.prog 62 = some ⟨.int .u32, 1, 4, .int .u32 0⟩ := by kernel_rfl
@[simp] theorem ti66 : tiOf Try.prog 66 = some ⟨.pointer 5, 1, 8, .pointer none⟩ := by kernel_rfl
end Go.Proofs.Ytbcmdojknonpgaa
