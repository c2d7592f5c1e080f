/- Texts of ours, joined: TyF, Wk1. -/
import Derived.Test.YtnoklhehodlkaaaGreatDoorQSpendSigned5
namespace Go.Proofs.YtnoklhehodlkaaaGreatDoor
open Go Go.Vm
theorem mixed : Tryz.prog.follows .mixedOrders = true := by kernel_rfl
theorem dep : 2 ≤ Tryz.prog.depth := Nat.le_of_ble_eq_true (by kernel_rfl)
instance : DepC Tryz.prog := ⟨dep⟩
instance : TiC Tryz.prog 2 ⟨.int .i64,1,8,.int .i64 0⟩ := ⟨ti2⟩
instance : NoA Tryz.prog 2 := ⟨trivial⟩
instance : TiC Tryz.prog 3 ⟨.int .i64,1,8,.int .i64 0⟩ := ⟨iQ⟩
instance : NoA Tryz.prog 3 := ⟨trivial⟩
instance : TiC Tryz.prog 4 ⟨.bool,1,1,.bool false⟩ := ⟨ti4⟩
instance : NoA Tryz.prog 4 := ⟨trivial⟩
instance : TiC Tryz.prog 5 ⟨.int .u8,1,1,.int .u8 0⟩ := ⟨gX⟩
instance : NoA Tryz.prog 5 := ⟨trivial⟩
instance : TiC Tryz.prog 9 ⟨.string,1,16,.string .empty⟩ := ⟨ti9⟩
instance : NoA Tryz.prog 9 := ⟨trivial⟩
instance : TiC Tryz.prog 12 ⟨.int .u64,1,8,.int .u64 0⟩ := ⟨aS6⟩
instance : NoA Tryz.prog 12 := ⟨trivial⟩
instance : TiC Tryz.prog 21 ⟨.int .i32,1,4,.int .i32 0⟩ := ⟨aS8⟩
instance : NoA Tryz.prog 21 := ⟨trivial⟩
instance : TiC Tryz.prog 22 ⟨.slice 5,1,24,.slice none 0 0⟩ := ⟨eU⟩
instance : NoA Tryz.prog 22 := ⟨trivial⟩
instance : TiC Tryz.prog 23 ⟨.array 32 5,32,32,.agg #[.int .u8 0,.int .u8 0,.int .u8 0,.int .u8 0,.int .u8 0,.int .u8 0,.int .u8 0,.int .u8 0,.int .u8 0,.int .u8 0,.int .u8 0,.int .u8 0,.int .u8 0,.int .u8 0,.int .u8 0,.int .u8 0,.int .u8 0,.int .u8 0,.int .u8 0,.int .u8 0,.int .u8 0,.int .u8 0,.int .u8 0,.int .u8 0,.int .u8 0,.int .u8 0,.int .u8 0,.int .u8 0,.int .u8 0,.int .u8 0,.int .u8 0,.int .u8 0]⟩ := ⟨aTo⟩
instance : TiC Tryz.prog 24 ⟨.array 32 5,32,32,.agg #[.int .u8 0,.int .u8 0,.int .u8 0,.int .u8 0,.int .u8 0,.int .u8 0,.int .u8 0,.int .u8 0,.int .u8 0,.int .u8 0,.int .u8 0,.int .u8 0,.int .u8 0,.int .u8 0,.int .u8 0,.int .u8 0,.int .u8 0,.int .u8 0,.int .u8 0,.int .u8 0,.int .u8 0,.int .u8 0,.int .u8 0,.int .u8 0,.int .u8 0,.int .u8 0,.int .u8 0,.int .u8 0,.int .u8 0,.int .u8 0,.int .u8 0,.int .u8 0]⟩ := ⟨i0⟩
instance : TiC Tryz.prog 25 ⟨.int .u16,1,2,.int .u16 0⟩ := ⟨aSs⟩
instance : NoA Tryz.prog 25 := ⟨trivial⟩
instance : TiC Tryz.prog 27 ⟨.slice 31,1,24,.slice none 0 0⟩ := ⟨aTk⟩
instance : NoA Tryz.prog 27 := ⟨trivial⟩
instance : TiC Tryz.prog 28 ⟨.slice 22,1,24,.slice none 0 0⟩ := ⟨w8⟩
instance : NoA Tryz.prog 28 := ⟨trivial⟩
instance : TiC Tryz.prog 29 ⟨.int .u64,1,8,.int .u64 0⟩ := ⟨kC⟩
instance : NoA Tryz.prog 29 := ⟨trivial⟩
instance : TiC Tryz.prog 30 ⟨.array 4 29,4,32,.agg #[.int .u64 0,.int .u64 0,.int .u64 0,.int .u64 0]⟩ := ⟨aSE⟩
instance : TiC Tryz.prog 31 ⟨.array 4 29,4,32,.agg #[.int .u64 0,.int .u64 0,.int .u64 0,.int .u64 0]⟩ := ⟨bX⟩
instance : TiC Tryz.prog 33 ⟨.int .i64,1,8,.int .i64 0⟩ := ⟨aSH⟩
instance : NoA Tryz.prog 33 := ⟨trivial⟩
instance : TiC Tryz.prog 36 ⟨.struct #[{ name := "E",type := 31,offset := 0,embedded := false,tag := "",pkgPath := "",byteOffset := 0 },{ name := "S",type := 31,offset := 4,embedded := false,tag := "",pkgPath := "",byteOffset := 32 }],8,64,.agg #[.int .u64 0,.int .u64 0,.int .u64 0,.int .u64 0,.int .u64 0,.int .u64 0,.int .u64 0,.int .u64 0]⟩ := ⟨aSZ⟩
instance : TiC Tryz.prog 37 ⟨.struct #[{ name := "E",type := 31,offset := 0,embedded := false,tag := "",pkgPath := "",byteOffset := 0 },{ name := "S",type := 31,offset := 4,embedded := false,tag := "",pkgPath := "",byteOffset := 32 }],8,64,.agg #[.int .u64 0,.int .u64 0,.int .u64 0,.int .u64 0,.int .u64 0,.int .u64 0,.int .u64 0,.int .u64 0]⟩ := ⟨xH⟩
instance : TiC Tryz.prog 41 ⟨.struct #[{ name := "Message",type := 24,offset := 0,embedded := false,tag := "",pkgPath := "",byteOffset := 0 },{ name := "Height",type := 3,offset := 32,embedded := false,tag := "",pkgPath := "",byteOffset := 32 },{ name := "Age",type := 3,offset := 33,embedded := false,tag := "",pkgPath := "",byteOffset := 40 }],34,48,.agg #[.int .u8 0,.int .u8 0,.int .u8 0,.int .u8 0,.int .u8 0,.int .u8 0,.int .u8 0,.int .u8 0,.int .u8 0,.int .u8 0,.int .u8 0,.int .u8 0,.int .u8 0,.int .u8 0,.int .u8 0,.int .u8 0,.int .u8 0,.int .u8 0,.int .u8 0,.int .u8 0,.int .u8 0,.int .u8 0,.int .u8 0,.int .u8 0,.int .u8 0,.int .u8 0,.int .u8 0,.int .u8 0,.int .u8 0,.int .u8 0,.int .u8 0,.int .u8 0,.int .i64 0,.int .i64 0]⟩ := ⟨aTG⟩
instance : TiC Tryz.prog 42 ⟨.struct #[{ name := "Message",type := 24,offset := 0,embedded := false,tag := "",pkgPath := "",byteOffset := 0 },{ name := "Height",type := 3,offset := 32,embedded := false,tag := "",pkgPath := "",byteOffset := 32 },{ name := "Age",type := 3,offset := 33,embedded := false,tag := "",pkgPath := "",byteOffset := 40 }],34,48,.agg #[.int .u8 0,.int .u8 0,.int .u8 0,.int .u8 0,.int .u8 0,.int .u8 0,.int .u8 0,.int .u8 0,.int .u8 0,.int .u8 0,.int .u8 0,.int .u8 0,.int .u8 0,.int .u8 0,.int .u8 0,.int .u8 0,.int .u8 0,.int .u8 0,.int .u8 0,.int .u8 0,.int .u8 0,.int .u8 0,.int .u8 0,.int .u8 0,.int .u8 0,.int .u8 0,.int .u8 0,.int .u8 0,.int .u8 0,.int .u8 0,.int .u8 0,.int .u8 0,.int .i64 0,.int .i64 0]⟩ := ⟨aA8⟩
instance : TiC Tryz.prog 47 ⟨.int .u32,1,4,.int .u32 0⟩ := ⟨vU⟩
instance : NoA Tryz.prog 47 := ⟨trivial⟩
instance : TiC Tryz.prog 51 ⟨.slice 90,1,24,.slice none 0 0⟩ := ⟨aJH⟩
instance : NoA Tryz.prog 51 := ⟨trivial⟩
instance : TiC Tryz.prog 52 ⟨.slice 57,1,24,.slice none 0 0⟩ := ⟨aLI⟩
instance : NoA Tryz.prog 52 := ⟨trivial⟩
instance : TiC Tryz.prog 53 ⟨.struct #[{ name := "Version",type := 47,offset := 0,embedded := false,tag := "",pkgPath := "",byteOffset := 0 },{ name := "Inputs",type := 51,offset := 1,embedded := false,tag := "",pkgPath := "",byteOffset := 8 },{ name := "Outputs",type := 52,offset := 2,embedded := false,tag := "",pkgPath := "",byteOffset := 32 },{ name := "Lock",type := 47,offset := 3,embedded := false,tag := "",pkgPath := "",byteOffset := 56 }],4,64,.agg #[.int .u32 0,.slice none 0 0,.slice none 0 0,.int .u32 0]⟩ := ⟨aS2⟩
instance : NoA Tryz.prog 53 := ⟨trivial⟩
instance : TiC Tryz.prog 54 ⟨.struct #[{ name := "Version",type := 47,offset := 0,embedded := false,tag := "",pkgPath := "",byteOffset := 0 },{ name := "Inputs",type := 51,offset := 1,embedded := false,tag := "",pkgPath := "",byteOffset := 8 },{ name := "Outputs",type := 52,offset := 2,embedded := false,tag := "",pkgPath := "",byteOffset := 32 },{ name := "Lock",type := 47,offset := 3,embedded := false,tag := "",pkgPath := "",byteOffset := 56 }],4,64,.agg #[.int .u32 0,.slice none 0 0,.slice none 0 0,.int .u32 0]⟩ := ⟨aBb⟩
instance : NoA Tryz.prog 54 := ⟨trivial⟩
instance : TiC Tryz.prog 56 ⟨.struct #[{ name := "Value",type := 2,offset := 0,embedded := false,tag := "",pkgPath := "",byteOffset := 0 },{ name := "Script",type := 22,offset := 1,embedded := false,tag := "",pkgPath := "",byteOffset := 8 }],2,32,.agg #[.int .i64 0,.slice none 0 0]⟩ := ⟨aTC⟩
instance : NoA Tryz.prog 56 := ⟨trivial⟩
instance : TiC Tryz.prog 57 ⟨.struct #[{ name := "Value",type := 2,offset := 0,embedded := false,tag := "",pkgPath := "",byteOffset := 0 },{ name := "Script",type := 22,offset := 1,embedded := false,tag := "",pkgPath := "",byteOffset := 8 }],2,32,.agg #[.int .i64 0,.slice none 0 0]⟩ := ⟨aB7⟩
instance : NoA Tryz.prog 57 := ⟨trivial⟩
instance : TiC Tryz.prog 58 ⟨.slice 68,1,24,.slice none 0 0⟩ := ⟨aG8⟩
instance : NoA Tryz.prog 58 := ⟨trivial⟩
instance : TiC Tryz.prog 65 ⟨.struct #[{ name := "Tx",type := 24,offset := 0,embedded := false,tag := "",pkgPath := "",byteOffset := 0 },{ name := "Index",type := 47,offset := 32,embedded := false,tag := "",pkgPath := "",byteOffset := 32 }],33,36,.agg #[.int .u8 0,.int .u8 0,.int .u8 0,.int .u8 0,.int .u8 0,.int .u8 0,.int .u8 0,.int .u8 0,.int .u8 0,.int .u8 0,.int .u8 0,.int .u8 0,.int .u8 0,.int .u8 0,.int .u8 0,.int .u8 0,.int .u8 0,.int .u8 0,.int .u8 0,.int .u8 0,.int .u8 0,.int .u8 0,.int .u8 0,.int .u8 0,.int .u8 0,.int .u8 0,.int .u8 0,.int .u8 0,.int .u8 0,.int .u8 0,.int .u8 0,.int .u8 0,.int .u32 0]⟩ := ⟨aTn⟩
instance : TiC Tryz.prog 66 ⟨.struct #[{ name := "Tx",type := 24,offset := 0,embedded := false,tag := "",pkgPath := "",byteOffset := 0 },{ name := "Index",type := 47,offset := 32,embedded := false,tag := "",pkgPath := "",byteOffset := 32 }],33,36,.agg #[.int .u8 0,.int .u8 0,.int .u8 0,.int .u8 0,.int .u8 0,.int .u8 0,.int .u8 0,.int .u8 0,.int .u8 0,.int .u8 0,.int .u8 0,.int .u8 0,.int .u8 0,.int .u8 0,.int .u8 0,.int .u8 0,.int .u8 0,.int .u8 0,.int .u8 0,.int .u8 0,.int .u8 0,.int .u8 0,.int .u8 0,.int .u8 0,.int .u8 0,.int .u8 0,.int .u8 0,.int .u8 0,.int .u8 0,.int .u8 0,.int .u8 0,.int .u8 0,.int .u32 0]⟩ := ⟨pD⟩
instance : TiC Tryz.prog 67 ⟨.struct #[{ name := "Out",type := 66,offset := 0,embedded := false,tag := "",pkgPath := "",byteOffset := 0 },{ name := "Output",type := 57,offset := 33,embedded := false,tag := "",pkgPath := "",byteOffset := 40 },{ name := "Height",type := 3,offset := 35,embedded := false,tag := "",pkgPath := "",byteOffset := 72 },{ name := "Coinbase",type := 4,offset := 36,embedded := false,tag := "",pkgPath := "",byteOffset := 80 }],37,88,.agg #[.int .u8 0,.int .u8 0,.int .u8 0,.int .u8 0,.int .u8 0,.int .u8 0,.int .u8 0,.int .u8 0,.int .u8 0,.int .u8 0,.int .u8 0,.int .u8 0,.int .u8 0,.int .u8 0,.int .u8 0,.int .u8 0,.int .u8 0,.int .u8 0,.int .u8 0,.int .u8 0,.int .u8 0,.int .u8 0,.int .u8 0,.int .u8 0,.int .u8 0,.int .u8 0,.int .u8 0,.int .u8 0,.int .u8 0,.int .u8 0,.int .u8 0,.int .u8 0,.int .u32 0,.int .i64 0,.slice none 0 0,.int .i64 0,.bool false]⟩ := ⟨aSv⟩
instance : TiC Tryz.prog 68 ⟨.struct #[{ name := "Out",type := 66,offset := 0,embedded := false,tag := "",pkgPath := "",byteOffset := 0 },{ name := "Output",type := 57,offset := 33,embedded := false,tag := "",pkgPath := "",byteOffset := 40 },{ name := "Height",type := 3,offset := 35,embedded := false,tag := "",pkgPath := "",byteOffset := 72 },{ name := "Coinbase",type := 4,offset := 36,embedded := false,tag := "",pkgPath := "",byteOffset := 80 }],37,88,.agg #[.int .u8 0,.int .u8 0,.int .u8 0,.int .u8 0,.int .u8 0,.int .u8 0,.int .u8 0,.int .u8 0,.int .u8 0,.int .u8 0,.int .u8 0,.int .u8 0,.int .u8 0,.int .u8 0,.int .u8 0,.int .u8 0,.int .u8 0,.int .u8 0,.int .u8 0,.int .u8 0,.int .u8 0,.int .u8 0,.int .u8 0,.int .u8 0,.int .u8 0,.int .u8 0,.int .u8 0,.int .u8 0,.int .u8 0,.int .u8 0,.int .u8 0,.int .u8 0,.int .u32 0,.int .i64 0,.slice none 0 0,.int .i64 0,.bool false]⟩ := ⟨tJ⟩
instance : TiC Tryz.prog 82 ⟨.slice 85,1,24,.slice none 0 0⟩ := ⟨aRD⟩
instance : NoA Tryz.prog 82 := ⟨trivial⟩
instance : TiC Tryz.prog 84 ⟨.struct #[{ name := "Code",type := 3,offset := 0,embedded := false,tag := "",pkgPath := "",byteOffset := 0 },{ name := "Data",type := 22,offset := 1,embedded := false,tag := "",pkgPath := "",byteOffset := 8 },{ name := "M",type := 3,offset := 2,embedded := false,tag := "",pkgPath := "",byteOffset := 32 },{ name := "N",type := 3,offset := 3,embedded := false,tag := "",pkgPath := "",byteOffset := 40 }],4,48,.agg #[.int .i64 0,.slice none 0 0,.int .i64 0,.int .i64 0]⟩ := ⟨aS5⟩
instance : NoA Tryz.prog 84 := ⟨trivial⟩
instance : TiC Tryz.prog 85 ⟨.struct #[{ name := "Code",type := 3,offset := 0,embedded := false,tag := "",pkgPath := "",byteOffset := 0 },{ name := "Data",type := 22,offset := 1,embedded := false,tag := "",pkgPath := "",byteOffset := 8 },{ name := "M",type := 3,offset := 2,embedded := false,tag := "",pkgPath := "",byteOffset := 32 },{ name := "N",type := 3,offset := 3,embedded := false,tag := "",pkgPath := "",byteOffset := 40 }],4,48,.agg #[.int .i64 0,.slice none 0 0,.int .i64 0,.int .i64 0]⟩ := ⟨aBH⟩
instance : NoA Tryz.prog 85 := ⟨trivial⟩
instance : TiC Tryz.prog 89 ⟨.struct #[{ name := "Prev",type := 66,offset := 0,embedded := false,tag := "",pkgPath := "",byteOffset := 0 },{ name := "Sequence",type := 47,offset := 33,embedded := false,tag := "",pkgPath := "",byteOffset := 36 },{ name := "Witness",type := 28,offset := 34,embedded := false,tag := "",pkgPath := "",byteOffset := 40 }],35,64,.agg #[.int .u8 0,.int .u8 0,.int .u8 0,.int .u8 0,.int .u8 0,.int .u8 0,.int .u8 0,.int .u8 0,.int .u8 0,.int .u8 0,.int .u8 0,.int .u8 0,.int .u8 0,.int .u8 0,.int .u8 0,.int .u8 0,.int .u8 0,.int .u8 0,.int .u8 0,.int .u8 0,.int .u8 0,.int .u8 0,.int .u8 0,.int .u8 0,.int .u8 0,.int .u8 0,.int .u8 0,.int .u8 0,.int .u8 0,.int .u8 0,.int .u8 0,.int .u8 0,.int .u32 0,.int .u32 0,.slice none 0 0]⟩ := ⟨aTz⟩
instance : TiC Tryz.prog 90 ⟨.struct #[{ name := "Prev",type := 66,offset := 0,embedded := false,tag := "",pkgPath := "",byteOffset := 0 },{ name := "Sequence",type := 47,offset := 33,embedded := false,tag := "",pkgPath := "",byteOffset := 36 },{ name := "Witness",type := 28,offset := 34,embedded := false,tag := "",pkgPath := "",byteOffset := 40 }],35,64,.agg #[.int .u8 0,.int .u8 0,.int .u8 0,.int .u8 0,.int .u8 0,.int .u8 0,.int .u8 0,.int .u8 0,.int .u8 0,.int .u8 0,.int .u8 0,.int .u8 0,.int .u8 0,.int .u8 0,.int .u8 0,.int .u8 0,.int .u8 0,.int .u8 0,.int .u8 0,.int .u8 0,.int .u8 0,.int .u8 0,.int .u8 0,.int .u8 0,.int .u8 0,.int .u8 0,.int .u8 0,.int .u8 0,.int .u8 0,.int .u8 0,.int .u8 0,.int .u8 0,.int .u32 0,.int .u32 0,.slice none 0 0]⟩ := ⟨sH⟩
instance : TiC Tryz.prog 103 ⟨.slice 127,1,24,.slice none 0 0⟩ := ⟨aE1⟩
instance : NoA Tryz.prog 103 := ⟨trivial⟩
instance : TiC Tryz.prog 104 ⟨.struct #[{ name := "Env",type := 42,offset := 0,embedded := true,tag := "",pkgPath := "",byteOffset := 0 },{ name := "stack",type := 28,offset := 34,embedded := false,tag := "",pkgPath := "lightclient/script",byteOffset := 48 },{ name := "branches",type := 103,offset := 35,embedded := false,tag := "",pkgPath := "lightclient/script",byteOffset := 72 },{ name := "cost",type := 3,offset := 36,embedded := false,tag := "",pkgPath := "lightclient/script",byteOffset := 96 }],37,104,.agg #[.int .u8 0,.int .u8 0,.int .u8 0,.int .u8 0,.int .u8 0,.int .u8 0,.int .u8 0,.int .u8 0,.int .u8 0,.int .u8 0,.int .u8 0,.int .u8 0,.int .u8 0,.int .u8 0,.int .u8 0,.int .u8 0,.int .u8 0,.int .u8 0,.int .u8 0,.int .u8 0,.int .u8 0,.int .u8 0,.int .u8 0,.int .u8 0,.int .u8 0,.int .u8 0,.int .u8 0,.int .u8 0,.int .u8 0,.int .u8 0,.int .u8 0,.int .u8 0,.int .i64 0,.int .i64 0,.slice none 0 0,.slice none 0 0,.int .i64 0]⟩ := ⟨aRR⟩
instance : TiC Tryz.prog 105 ⟨.struct #[{ name := "Env",type := 42,offset := 0,embedded := true,tag := "",pkgPath := "",byteOffset := 0 },{ name := "stack",type := 28,offset := 34,embedded := false,tag := "",pkgPath := "lightclient/script",byteOffset := 48 },{ name := "branches",type := 103,offset := 35,embedded := false,tag := "",pkgPath := "lightclient/script",byteOffset := 72 },{ name := "cost",type := 3,offset := 36,embedded := false,tag := "",pkgPath := "lightclient/script",byteOffset := 96 }],37,104,.agg #[.int .u8 0,.int .u8 0,.int .u8 0,.int .u8 0,.int .u8 0,.int .u8 0,.int .u8 0,.int .u8 0,.int .u8 0,.int .u8 0,.int .u8 0,.int .u8 0,.int .u8 0,.int .u8 0,.int .u8 0,.int .u8 0,.int .u8 0,.int .u8 0,.int .u8 0,.int .u8 0,.int .u8 0,.int .u8 0,.int .u8 0,.int .u8 0,.int .u8 0,.int .u8 0,.int .u8 0,.int .u8 0,.int .u8 0,.int .u8 0,.int .u8 0,.int .u8 0,.int .i64 0,.int .i64 0,.slice none 0 0,.slice none 0 0,.int .i64 0]⟩ := ⟨t4⟩
instance : TiC Tryz.prog 107 ⟨.int .u64,1,8,.int .u64 0⟩ := ⟨aSm⟩
instance : NoA Tryz.prog 107 := ⟨trivial⟩
instance : TiC Tryz.prog 124 ⟨.slice 4,1,24,.slice none 0 0⟩ := ⟨aOW⟩
instance : NoA Tryz.prog 124 := ⟨trivial⟩
instance : TiC Tryz.prog 125 ⟨.pointer 105,1,8,.pointer none⟩ := ⟨aRV⟩
instance : NoA Tryz.prog 125 := ⟨trivial⟩
instance : TiC Tryz.prog 126 ⟨.struct #[{ name := "outer",type := 4,offset := 0,embedded := false,tag := "",pkgPath := "lightclient/script",byteOffset := 0 },{ name := "taken",type := 4,offset := 1,embedded := false,tag := "",pkgPath := "lightclient/script",byteOffset := 1 }],2,2,.agg #[.bool false,.bool false]⟩ := ⟨aSc⟩
instance : NoA Tryz.prog 126 := ⟨trivial⟩
instance : TiC Tryz.prog 127 ⟨.struct #[{ name := "outer",type := 4,offset := 0,embedded := false,tag := "",pkgPath := "lightclient/script",byteOffset := 0 },{ name := "taken",type := 4,offset := 1,embedded := false,tag := "",pkgPath := "lightclient/script",byteOffset := 1 }],2,2,.agg #[.bool false,.bool false]⟩ := ⟨aBi⟩
instance : NoA Tryz.prog 127 := ⟨trivial⟩
instance : TiC Tryz.prog 141 ⟨.map 66 4,1,8,.map none⟩ := ⟨aRS⟩
instance : NoA Tryz.prog 141 := ⟨trivial⟩
instance : TiC Tryz.prog 146 ⟨.array 8 47,8,32,.agg #[.int .u32 0,.int .u32 0,.int .u32 0,.int .u32 0,.int .u32 0,.int .u32 0,.int .u32 0,.int .u32 0]⟩ := ⟨aEV⟩
instance : TiC Tryz.prog 148 ⟨.array 64 5,64,64,.agg #[.int .u8 0,.int .u8 0,.int .u8 0,.int .u8 0,.int .u8 0,.int .u8 0,.int .u8 0,.int .u8 0,.int .u8 0,.int .u8 0,.int .u8 0,.int .u8 0,.int .u8 0,.int .u8 0,.int .u8 0,.int .u8 0,.int .u8 0,.int .u8 0,.int .u8 0,.int .u8 0,.int .u8 0,.int .u8 0,.int .u8 0,.int .u8 0,.int .u8 0,.int .u8 0,.int .u8 0,.int .u8 0,.int .u8 0,.int .u8 0,.int .u8 0,.int .u8 0,.int .u8 0,.int .u8 0,.int .u8 0,.int .u8 0,.int .u8 0,.int .u8 0,.int .u8 0,.int .u8 0,.int .u8 0,.int .u8 0,.int .u8 0,.int .u8 0,.int .u8 0,.int .u8 0,.int .u8 0,.int .u8 0,.int .u8 0,.int .u8 0,.int .u8 0,.int .u8 0,.int .u8 0,.int .u8 0,.int .u8 0,.int .u8 0,.int .u8 0,.int .u8 0,.int .u8 0,.int .u8 0,.int .u8 0,.int .u8 0,.int .u8 0,.int .u8 0]⟩ := ⟨aLG⟩
instance : TiC Tryz.prog 160 ⟨.array 8 29,8,64,.agg #[.int .u64 0,.int .u64 0,.int .u64 0,.int .u64 0,.int .u64 0,.int .u64 0,.int .u64 0,.int .u64 0]⟩ := ⟨aE3⟩
instance : TiC Tryz.prog 162 ⟨.slice 29,1,24,.slice none 0 0⟩ := ⟨aL1⟩
instance : NoA Tryz.prog 162 := ⟨trivial⟩
instance : TiC Tryz.prog 164 ⟨.array 64 47,64,256,.agg #[.int .u32 0,.int .u32 0,.int .u32 0,.int .u32 0,.int .u32 0,.int .u32 0,.int .u32 0,.int .u32 0,.int .u32 0,.int .u32 0,.int .u32 0,.int .u32 0,.int .u32 0,.int .u32 0,.int .u32 0,.int .u32 0,.int .u32 0,.int .u32 0,.int .u32 0,.int .u32 0,.int .u32 0,.int .u32 0,.int .u32 0,.int .u32 0,.int .u32 0,.int .u32 0,.int .u32 0,.int .u32 0,.int .u32 0,.int .u32 0,.int .u32 0,.int .u32 0,.int .u32 0,.int .u32 0,.int .u32 0,.int .u32 0,.int .u32 0,.int .u32 0,.int .u32 0,.int .u32 0,.int .u32 0,.int .u32 0,.int .u32 0,.int .u32 0,.int .u32 0,.int .u32 0,.int .u32 0,.int .u32 0,.int .u32 0,.int .u32 0,.int .u32 0,.int .u32 0,.int .u32 0,.int .u32 0,.int .u32 0,.int .u32 0,.int .u32 0,.int .u32 0,.int .u32 0,.int .u32 0,.int .u32 0,.int .u32 0,.int .u32 0,.int .u32 0]⟩ := ⟨aLM⟩
instance : TiC Tryz.prog 173 ⟨.slice 24,1,24,.slice none 0 0⟩ := ⟨aOM⟩
instance : NoA Tryz.prog 173 := ⟨trivial⟩
instance : TiC Tryz.prog 186 ⟨.pointer 5,1,8,.pointer none⟩ := ⟨aRP⟩
instance : NoA Tryz.prog 186 := ⟨trivial⟩
theorem aPe (b off : Nat) : aP Tryz.prog 37 (.ptr b off) 0 = some (.ptr b (off + 0)) := by simp [aP,xH,bX]
theorem aPg (es : List V) (i off : Nat) : aP Tryz.prog 37 (.eptr es i off) 0 = some (.eptr es i (off + 0)) := by simp [aP,xH,bX]
instance : FaC Tryz.prog 37 0 0 := ⟨aPe,aPg⟩
theorem aPr (b off : Nat) : aP Tryz.prog 37 (.ptr b off) 1 = some (.ptr b (off + 4)) := by simp [aP,xH,bX]
theorem aPb (es : List V) (i off : Nat) : aP Tryz.prog 37 (.eptr es i off) 1 = some (.eptr es i (off + 4)) := by simp [aP,xH,bX]
instance : FaC Tryz.prog 37 1 4 := ⟨aPr,aPb⟩
theorem aP5 (b off : Nat) : aP Tryz.prog 42 (.ptr b off) 0 = some (.ptr b (off + 0)) := by simp [aP,aA8,i0]
theorem aPk (es : List V) (i off : Nat) : aP Tryz.prog 42 (.eptr es i off) 0 = some (.eptr es i (off + 0)) := by simp [aP,aA8,i0]
instance : FaC Tryz.prog 42 0 0 := ⟨aP5,aPk⟩
theorem aPx (b off : Nat) : aP Tryz.prog 42 (.ptr b off) 1 = some (.ptr b (off + 32)) := by simp [aP,aA8,iQ]
theorem aPa (es : List V) (i off : Nat) : aP Tryz.prog 42 (.eptr es i off) 1 = some (.eptr es i (off + 32)) := by simp [aP,aA8,iQ]
instance : FaC Tryz.prog 42 1 32 := ⟨aPx,aPa⟩
theorem aP2 (b off : Nat) : aP Tryz.prog 42 (.ptr b off) 2 = some (.ptr b (off + 33)) := by simp [aP,aA8,iQ]
theorem aPo (es : List V) (i off : Nat) : aP Tryz.prog 42 (.eptr es i off) 2 = some (.eptr es i (off + 33)) := by simp [aP,aA8,iQ]
instance : FaC Tryz.prog 42 2 33 := ⟨aP2,aPo⟩
theorem aPj (b off : Nat) : aP Tryz.prog 54 (.ptr b off) 0 = some (.ptr b (off + 0)) := by simp [aP,aBb,vU]
theorem aPE (es : List V) (i off : Nat) : aP Tryz.prog 54 (.eptr es i off) 0 = some (.eptr es i (off + 0)) := by simp [aP,aBb,vU]
instance : FaC Tryz.prog 54 0 0 := ⟨aPj,aPE⟩
theorem aPG (b off : Nat) : aP Tryz.prog 54 (.ptr b off) 1 = some (.ptr b (off + 1)) := by simp [aP,aBb,aJH]
theorem aPf (es : List V) (i off : Nat) : aP Tryz.prog 54 (.eptr es i off) 1 = some (.eptr es i (off + 1)) := by simp [aP,aBb,aJH]
instance : FaC Tryz.prog 54 1 1 := ⟨aPG,aPf⟩
theorem aPt (b off : Nat) : aP Tryz.prog 54 (.ptr b off) 2 = some (.ptr b (off + 2)) := by simp [aP,aBb,aLI]
theorem aPh (es : List V) (i off : Nat) : aP Tryz.prog 54 (.eptr es i off) 2 = some (.eptr es i (off + 2)) := by simp [aP,aBb,aLI]
instance : FaC Tryz.prog 54 2 2 := ⟨aPt,aPh⟩
theorem aPi (b off : Nat) : aP Tryz.prog 54 (.ptr b off) 3 = some (.ptr b (off + 3)) := by simp [aP,aBb,vU]
theorem aQy (es : List V) (i off : Nat) : aP Tryz.prog 54 (.eptr es i off) 3 = some (.eptr es i (off + 3)) := by simp [aP,aBb,vU]
instance : FaC Tryz.prog 54 3 3 := ⟨aPi,aQy⟩
theorem aPm (b off : Nat) : aP Tryz.prog 57 (.ptr b off) 0 = some (.ptr b (off + 0)) := by simp [aP,aB7,ti2]
theorem aPR (es : List V) (i off : Nat) : aP Tryz.prog 57 (.eptr es i off) 0 = some (.eptr es i (off + 0)) := by simp [aP,aB7,ti2]
instance : FaC Tryz.prog 57 0 0 := ⟨aPm,aPR⟩
theorem aQn (b off : Nat) : aP Tryz.prog 57 (.ptr b off) 1 = some (.ptr b (off + 1)) := by simp [aP,aB7,eU]
theorem aQo (es : List V) (i off : Nat) : aP Tryz.prog 57 (.eptr es i off) 1 = some (.eptr es i (off + 1)) := by simp [aP,aB7,eU]
instance : FaC Tryz.prog 57 1 1 := ⟨aQn,aQo⟩
theorem aQa (b off : Nat) : aP Tryz.prog 66 (.ptr b off) 0 = some (.ptr b (off + 0)) := by simp [aP,pD,i0]
theorem aPq (es : List V) (i off : Nat) : aP Tryz.prog 66 (.eptr es i off) 0 = some (.eptr es i (off + 0)) := by simp [aP,pD,i0]
instance : FaC Tryz.prog 66 0 0 := ⟨aQa,aPq⟩
theorem aQm (b off : Nat) : aP Tryz.prog 66 (.ptr b off) 1 = some (.ptr b (off + 32)) := by simp [aP,pD,vU]
theorem aQl (es : List V) (i off : Nat) : aP Tryz.prog 66 (.eptr es i off) 1 = some (.eptr es i (off + 32)) := by simp [aP,pD,vU]
instance : FaC Tryz.prog 66 1 32 := ⟨aQm,aQl⟩
theorem aPD (b off : Nat) : aP Tryz.prog 68 (.ptr b off) 0 = some (.ptr b (off + 0)) := by simp [aP,tJ,pD]
theorem aP9 (es : List V) (i off : Nat) : aP Tryz.prog 68 (.eptr es i off) 0 = some (.eptr es i (off + 0)) := by simp [aP,tJ,pD]
instance : FaC Tryz.prog 68 0 0 := ⟨aPD,aP9⟩
theorem aE0 (b off : Nat) : aP Tryz.prog 68 (.ptr b off) 1 = some (.ptr b (off + 33)) := by simp [aP,tJ,aB7]
theorem aPW (es : List V) (i off : Nat) : aP Tryz.prog 68 (.eptr es i off) 1 = some (.eptr es i (off + 33)) := by simp [aP,tJ,aB7]
instance : FaC Tryz.prog 68 1 33 := ⟨aE0,aPW⟩
theorem aPL (b off : Nat) : aP Tryz.prog 68 (.ptr b off) 2 = some (.ptr b (off + 35)) := by simp [aP,tJ,iQ]
theorem aQv (es : List V) (i off : Nat) : aP Tryz.prog 68 (.eptr es i off) 2 = some (.eptr es i (off + 35)) := by simp [aP,tJ,iQ]
instance : FaC Tryz.prog 68 2 35 := ⟨aPL,aQv⟩
theorem aO4 (b off : Nat) : aP Tryz.prog 85 (.ptr b off) 0 = some (.ptr b (off + 0)) := by simp [aP,aBH,iQ]
theorem aQu (es : List V) (i off : Nat) : aP Tryz.prog 85 (.eptr es i off) 0 = some (.eptr es i (off + 0)) := by simp [aP,aBH,iQ]
instance : FaC Tryz.prog 85 0 0 := ⟨aO4,aQu⟩
theorem aK3 (b off : Nat) : aP Tryz.prog 85 (.ptr b off) 1 = some (.ptr b (off + 1)) := by simp [aP,aBH,eU]
theorem aO7 (es : List V) (i off : Nat) : aP Tryz.prog 85 (.eptr es i off) 1 = some (.eptr es i (off + 1)) := by simp [aP,aBH,eU]
instance : FaC Tryz.prog 85 1 1 := ⟨aK3,aO7⟩
theorem aK1 (b off : Nat) : aP Tryz.prog 85 (.ptr b off) 2 = some (.ptr b (off + 2)) := by simp [aP,aBH,iQ]
theorem aPn (es : List V) (i off : Nat) : aP Tryz.prog 85 (.eptr es i off) 2 = some (.eptr es i (off + 2)) := by simp [aP,aBH,iQ]
instance : FaC Tryz.prog 85 2 2 := ⟨aK1,aPn⟩
theorem tG (b off : Nat) : aP Tryz.prog 85 (.ptr b off) 3 = some (.ptr b (off + 3)) := by simp [aP,aBH,iQ]
theorem aPB (es : List V) (i off : Nat) : aP Tryz.prog 85 (.eptr es i off) 3 = some (.eptr es i (off + 3)) := by simp [aP,aBH,iQ]
instance : FaC Tryz.prog 85 3 3 := ⟨tG,aPB⟩
theorem aQj (b off : Nat) : aP Tryz.prog 90 (.ptr b off) 0 = some (.ptr b (off + 0)) := by simp [aP,sH,pD]
theorem aQc (es : List V) (i off : Nat) : aP Tryz.prog 90 (.eptr es i off) 0 = some (.eptr es i (off + 0)) := by simp [aP,sH,pD]
instance : FaC Tryz.prog 90 0 0 := ⟨aQj,aQc⟩
theorem aQh (b off : Nat) : aP Tryz.prog 90 (.ptr b off) 1 = some (.ptr b (off + 33)) := by simp [aP,sH,vU]
theorem aPP (es : List V) (i off : Nat) : aP Tryz.prog 90 (.eptr es i off) 1 = some (.eptr es i (off + 33)) := by simp [aP,sH,vU]
instance : FaC Tryz.prog 90 1 33 := ⟨aQh,aPP⟩
theorem aPA (b off : Nat) : aP Tryz.prog 90 (.ptr b off) 2 = some (.ptr b (off + 34)) := by simp [aP,sH,w8]
theorem aPC (es : List V) (i off : Nat) : aP Tryz.prog 90 (.eptr es i off) 2 = some (.eptr es i (off + 34)) := by simp [aP,sH,w8]
instance : FaC Tryz.prog 90 2 34 := ⟨aPA,aPC⟩
theorem aNj (b off : Nat) : aP Tryz.prog 105 (.ptr b off) 0 = some (.ptr b (off + 0)) := by simp [aP,t4,aA8]
theorem aOm (es : List V) (i off : Nat) : aP Tryz.prog 105 (.eptr es i off) 0 = some (.eptr es i (off + 0)) := by simp [aP,t4,aA8]
instance : FaC Tryz.prog 105 0 0 := ⟨aNj,aOm⟩
theorem aOo (b off : Nat) : aP Tryz.prog 105 (.ptr b off) 1 = some (.ptr b (off + 34)) := by simp [aP,t4,w8]
theorem aN0 (es : List V) (i off : Nat) : aP Tryz.prog 105 (.eptr es i off) 1 = some (.eptr es i (off + 34)) := by simp [aP,t4,w8]
instance : FaC Tryz.prog 105 1 34 := ⟨aOo,aN0⟩
theorem aOG (b off : Nat) : aP Tryz.prog 105 (.ptr b off) 2 = some (.ptr b (off + 35)) := by simp [aP,t4,aE1]
theorem aNV (es : List V) (i off : Nat) : aP Tryz.prog 105 (.eptr es i off) 2 = some (.eptr es i (off + 35)) := by simp [aP,t4,aE1]
instance : FaC Tryz.prog 105 2 35 := ⟨aOG,aNV⟩
theorem aOF (b off : Nat) : aP Tryz.prog 105 (.ptr b off) 3 = some (.ptr b (off + 36)) := by simp [aP,t4,iQ]
theorem aOI (es : List V) (i off : Nat) : aP Tryz.prog 105 (.eptr es i off) 3 = some (.eptr es i (off + 36)) := by simp [aP,t4,iQ]
instance : FaC Tryz.prog 105 3 36 := ⟨aOF,aOI⟩
theorem aOE (b off : Nat) : aP Tryz.prog 127 (.ptr b off) 0 = some (.ptr b (off + 0)) := by simp [aP,aBi,ti4]
theorem aNm (es : List V) (i off : Nat) : aP Tryz.prog 127 (.eptr es i off) 0 = some (.eptr es i (off + 0)) := by simp [aP,aBi,ti4]
instance : FaC Tryz.prog 127 0 0 := ⟨aOE,aNm⟩
theorem aOq (b off : Nat) : aP Tryz.prog 127 (.ptr b off) 1 = some (.ptr b (off + 1)) := by simp [aP,aBi,ti4]
theorem aNM (es : List V) (i off : Nat) : aP Tryz.prog 127 (.eptr es i off) 1 = some (.eptr es i (off + 1)) := by simp [aP,aBi,ti4]
instance : FaC Tryz.prog 127 1 1 := ⟨aOq,aNM⟩
theorem aHx : kK Tryz.prog 37 = some #[(0,4),(4,4)] := by kernel_rfl
instance : PlC Tryz.prog 37 #[(0,4),(4,4)] := ⟨aHx⟩
theorem aQ9 : kK Tryz.prog 42 = some #[(0,32),(32,1),(33,1)] := by kernel_rfl
instance : PlC Tryz.prog 42 #[(0,32),(32,1),(33,1)] := ⟨aQ9⟩
theorem aS1 : kK Tryz.prog 54 = some #[(0,1),(1,1),(2,1),(3,1)] := by kernel_rfl
instance : PlC Tryz.prog 54 #[(0,1),(1,1),(2,1),(3,1)] := ⟨aS1⟩
theorem aSK : kK Tryz.prog 57 = some #[(0,1),(1,1)] := by kernel_rfl
instance : PlC Tryz.prog 57 #[(0,1),(1,1)] := ⟨aSK⟩
theorem aFF : kK Tryz.prog 66 = some #[(0,32),(32,1)] := by kernel_rfl
instance : PlC Tryz.prog 66 #[(0,32),(32,1)] := ⟨aFF⟩
theorem aLd : kK Tryz.prog 68 = some #[(0,33),(33,2),(35,1),(36,1)] := by kernel_rfl
instance : PlC Tryz.prog 68 #[(0,33),(33,2),(35,1),(36,1)] := ⟨aLd⟩
theorem aTq : kK Tryz.prog 85 = some #[(0,1),(1,1),(2,1),(3,1)] := by kernel_rfl
instance : PlC Tryz.prog 85 #[(0,1),(1,1),(2,1),(3,1)] := ⟨aTq⟩
theorem aLq : kK Tryz.prog 90 = some #[(0,33),(33,1),(34,1)] := by kernel_rfl
instance : PlC Tryz.prog 90 #[(0,33),(33,1),(34,1)] := ⟨aLq⟩
theorem aLX : kK Tryz.prog 105 = some #[(0,34),(34,1),(35,1),(36,1)] := by kernel_rfl
instance : PlC Tryz.prog 105 #[(0,34),(34,1),(35,1),(36,1)] := ⟨aLX⟩
theorem aSl : kK Tryz.prog 127 = some #[(0,1),(1,1)] := by kernel_rfl
instance : PlC Tryz.prog 127 #[(0,1),(1,1)] := ⟨aSl⟩
theorem aMa : v4 Tryz.prog 9 66 = some ((List.replicate 32 ([.int .u8])).flatten ++ [.int .u32]) := by kernel_rfl
theorem aOK : Tryz.prog.eqGuardType Tryz.prog.depth 66 = false := by kernel_rfl
noncomputable def aBM : MT := (tY Tryz.prog 141).getD default
theorem aF3 : tY Tryz.prog 141 = some aBM := by kernel_rfl
theorem aGM : aBM.code = 33000 := by kernel_rfl
theorem aIM : lU aBM.dk = 33 := by kernel_rfl
theorem aIS : lU aBM.de = 0 := by kernel_rfl
theorem aLF : ofValue aBM.de.zero = (eB false) := by kernel_rfl
theorem aRB : aBM.kt = 66 := by kernel_rfl
theorem aIK : aCn Tryz.prog aBM.kt (fun a : aQ => .agg (aTj (fI a)).toArray) mS := by
 rw [aRB]; exact aLo (d := 9) pD rfl aMa (Nat.le_of_ble_eq_true rfl) (fun _ => rfl) (fun _ _ => rfl)
theorem zH {p : Prop} (h : p := by (simp only [jE,d8,iJ,pB,Blk.rn,V.rns,V.rn,sg,List.map_cons,List.map_nil,Option.map_some,Option.map_none,List.drop_succ_cons,List.drop_zero,List.drop_nil,List.set_cons_zero,List.set_cons_succ,List.cons_append,List.nil_append,List.append_nil,iT,iS,uW,uX,g7,iC,c8,c9,dJ,dG,eY,eV,eF,eH,mM,fK,fL,rK,rF,oE,oC,oJ,rG,n9,List.getElem?_cons_zero,List.getElem?_cons_succ,List.getElem?_nil,List.length_cons,List.length_nil,Nat.reduceAdd,Nat.reduceSub,Nat.add_zero,Nat.zero_add,Nat.sub_self,Nat.sub_zero] <;> rfl)) : p := h
theorem zB {f : FuncId} {hs hs' hb hb' : Hp} {args xs : List V} {r v : V} (hc : Vm.Fn Tryz.prog f hs args r hs') (ρ : List Nat) (hnd : ρ.Nodup := by decide) (hlt : ρ.all (fun b => Nat.blt b hb.length) = true := by rfl)
  (hl : Lend (sg ρ hb.length) hb ρ hs := by repeat (first | exact Lend.nil | refine Lend.cons rfl rfl ?_ | refine Lend.cons rfl (n7 (fun _ => rfl) _) ?_ | refine Lend.cons rfl (gL (fun _ => rfl) _) ?_)) (hx : V.rns (sg ρ hb.length) args = xs := by first | rfl | (simp only [V.rn,V.rns,iT,iS] <;> rfl)) (hr : r.rn (sg ρ hb.length) = v := by first | rfl | (simp only [V.rn,V.rns,iT,iS] <;> rfl)) (hh : jE hb ρ hs' = hb' := by (simp only [jE,d8,iJ,pB,Blk.rn,V.rns,V.rn,sg,List.map_cons,List.map_nil,Option.map_some,Option.map_none,List.drop_succ_cons,List.drop_zero,List.drop_nil,List.set_cons_zero,List.set_cons_succ,List.cons_append,List.nil_append,List.append_nil,iT,iS,uW,uX,g7,iC,c8,c9,dJ,dG,eY,eV,eF,eH,mM,fK,fL,rK,rF,oE,oC,oJ,rG,n9,List.getElem?_cons_zero,List.getElem?_cons_succ,List.getElem?_nil,List.length_cons,List.length_nil,Nat.reduceAdd,Nat.reduceSub,Nat.add_zero,Nat.zero_add,Nat.sub_self,Nat.sub_zero] <;> rfl)) : Vm.Fn Tryz.prog f hb xs v hb' := Vm.Fn.lendB hc ρ hnd hlt hl hx hr hh
theorem zL {f : FuncId} {hs hs' hb hb' : Hp} {args xs : List V} {r v : V} (hc : Vm.Fn Tryz.prog f hs args r hs') (ρ β : List Nat) (hnd : ρ.Nodup := by decide) (hlt : ρ.all (fun b => Nat.blt b hb.length) = true := by rfl) (hdis : ∀ b ∈ β,b ∉ ρ := by decide)
  (hl : Lend (sg ρ hb.length) hb ρ hs := by repeat (first | exact Lend.nil | refine Lend.cons rfl rfl ?_ | refine Lend.cons rfl (n7 (fun _ => rfl) _) ?_ | refine Lend.cons rfl (gL (fun _ => rfl) _) ?_))
  (hx : Brw (sg ρ hb.length) (only β hb) xs args := by repeat (first | exact Brw.nil | refine Brw.same rfl ?_ | refine Brw.row (aHg rfl rfl (fun _ => rfl)) ?_ | refine Brw.same (by simp only [V.rn,V.rns,iT,iS]) ?_))
  (hrf : r.rf = true := by first | rfl | simp [V.rf,V.rfs,aGz,aGf]) (hrb : rfB hs' := by repeat (first | exact rfB.nil | refine rfB.dead ?_ | refine rfB.live rfl ?_ | refine rfB.live (aBE (fun _ => rfl) _) ?_ | refine rfB.live (rfs_flat (fun _ => rfl) _) ?_))
  (hr : r.rn (sg ρ hb.length) = v := by first | rfl | (simp only [V.rn,V.rns,iT,iS] <;> rfl)) (hh : jE hb ρ hs' = hb' := by simp only [jE,d8,iJ,pB,Blk.rn,V.rns,V.rn,sg,List.map_cons,List.map_nil,Option.map_some,Option.map_none,List.drop_succ_cons,List.drop_zero,List.drop_nil,List.set_cons_zero,List.set_cons_succ,List.cons_append,List.nil_append,List.append_nil,iT,iS,uW,uX,g7,iC,c8,c9,dJ,dG,eY,eV,eF,eH,mM,fK,fL,rK,rF,oE,oC,oJ,rG,n9,List.getElem?_cons_zero,List.getElem?_cons_succ,List.getElem?_nil,List.length_cons,List.length_nil,Nat.reduceAdd,Nat.reduceSub,Nat.add_zero,Nat.zero_add,Nat.sub_self,Nat.sub_zero]) : Vm.Fn Tryz.prog f hb xs v hb' := Vm.Fn.lendR hc ρ β hnd hlt hdis hl hx hrf hrb hr hh
theorem zc {f : FuncId} {hb : Hp} {args xs : List V} {r : V} {N n t : Nat} {ops : Array Oper} {l : List Oper} {fr : List (Nat × V)} {K : List V → Hp → Prop} {ty : TypeId} {pos : String} {aft : Array Edge} {ws : List Operand} {ts : Array TypeId} {hs hs' hb' : Hp} {v : V} (hc : Vm.Fn Tryz.prog f hs args r hs') (ρ : List Nat) (k : OpsX Tryz.prog N none ops l (aK n ((t,v) :: fr)) hb' K) (hw : rV n fr ws = some xs := by rfl) (hnd : ρ.Nodup := by decide) (hlt : ρ.all (fun b => Nat.blt b hb.length) = true := by rfl) (hl : Lend (sg ρ hb.length) hb ρ hs := by repeat (first | exact Lend.nil | refine Lend.cons rfl rfl ?_ | refine Lend.cons rfl (n7 (fun _ => rfl) _) ?_ | refine Lend.cons rfl (gL (fun _ => rfl) _) ?_)) (hx : V.les noN xs (V.rns (sg ρ hb.length) args) := by repeat (first | exact V.les_refl _ _ | exact V.les_nil | apply V.les_cons | exact V.le_refl _ _ | exact V.le_nil | exact V.le_row | exact V.le_arr (fun _ => rfl) | apply V.le_agg)) (hr : r.rn (sg ρ hb.length) = v := by (simp only [jE,d8,iJ,pB,Blk.rn,V.rns,V.rn,sg,List.map_cons,List.map_nil,Option.map_some,Option.map_none,List.drop_succ_cons,List.drop_zero,List.drop_nil,List.set_cons_zero,List.set_cons_succ,List.cons_append,List.nil_append,List.append_nil,iT,iS,uW,uX,g7,iC,c8,c9,dJ,dG,eY,eV,eF,eH,mM,fK,fL,rK,rF,oE,oC,oJ,rG,n9,List.getElem?_cons_zero,List.getElem?_cons_succ,List.getElem?_nil,List.length_cons,List.length_nil,Nat.reduceAdd,Nat.reduceSub,Nat.add_zero,Nat.zero_add,Nat.sub_self,Nat.sub_zero] <;> rfl)) (hh : jE hb ρ hs' = hb' := by (simp only [jE,d8,iJ,pB,Blk.rn,V.rns,V.rn,sg,List.map_cons,List.map_nil,Option.map_some,Option.map_none,List.drop_succ_cons,List.drop_zero,List.drop_nil,List.set_cons_zero,List.set_cons_succ,List.cons_append,List.nil_append,List.append_nil,iT,iS,uW,uX,g7,iC,c8,c9,dJ,dG,eY,eV,eF,eH,mM,fK,fL,rK,rF,oE,oC,oJ,rG,n9,List.getElem?_cons_zero,List.getElem?_cons_succ,List.getElem?_nil,List.length_cons,List.length_nil,Nat.reduceAdd,Nat.reduceSub,Nat.add_zero,Nat.zero_add,Nat.sub_self,Nat.sub_zero] <;> rfl)) : OpsX Tryz.prog N none ops (⟨some t,.call ⟨.value (.func f),ws.toArray,ts⟩,ty,pos,aft,none⟩ :: l) (aK n fr) hb K := xC hw (Vm.Fn.argsLe (Vm.Fn.lendB hc ρ hnd hlt hl rfl hr hh) hx) k
theorem xV {f : FuncId} {hb : Hp} {args xs : List V} {r : V} {N n t : Nat} {ops : Array Oper} {l : List Oper} {fr : List (Nat × V)} {K : List V → Hp → Prop} {ty : TypeId} {pos : String} {aft : Array Edge} {ws : List Operand} {ts : Array TypeId} {hs hs' hb' : Hp} {v : V} (hc : Vm.Fn Tryz.prog f hs args r hs') (ρ β : List Nat) (k : OpsX Tryz.prog N none ops l (aK n ((t,v) :: fr)) hb' K) (hw : rV n fr ws = some xs := by rfl) (hnd : ρ.Nodup := by decide) (hlt : ρ.all (fun b => Nat.blt b hb.length) = true := by rfl) (hdis : ∀ b ∈ β,b ∉ ρ := by decide) (hl : Lend (sg ρ hb.length) hb ρ hs := by repeat (first | exact Lend.nil | refine Lend.cons rfl rfl ?_ | refine Lend.cons rfl (n7 (fun _ => rfl) _) ?_ | refine Lend.cons rfl (gL (fun _ => rfl) _) ?_)) (hx : Brw (sg ρ hb.length) (only β hb) xs args := by repeat (first | exact Brw.nil | refine Brw.same rfl ?_ | refine Brw.row (aHg (by first | exact rfl | (simp only [b8,b7]; done) | exact aZ (by assumption) | exact cB (by assumption)) rfl (fun _ => rfl)) ?_ | refine Brw.row (xA (fun _ => rfl) zl (by first | exact rfl | (simp only [b8,b7]; done) | exact aZ (by assumption) | exact cB (by assumption)) rfl (fun _ => rfl)) ?_ | refine Brw.same (by simp only [V.rn,V.rns,iT,iS]) ?_ | refine Brw.le V.le_nil ?_ | refine Brw.le V.le_row ?_)) (hrf : r.rf = true := by first | rfl | simp [V.rf,V.rfs,aGz,aGf]) (hrb : rfB hs' := by repeat (first | exact rfB.nil | refine rfB.dead ?_ | refine rfB.live rfl ?_ | refine rfB.live (aBE (fun _ => rfl) _) ?_ | refine rfB.live (rfs_flat (fun _ => rfl) _) ?_)) (hr : r.rn (sg ρ hb.length) = v := by (simp only [jE,d8,iJ,pB,Blk.rn,V.rns,V.rn,sg,List.map_cons,List.map_nil,Option.map_some,Option.map_none,List.drop_succ_cons,List.drop_zero,List.drop_nil,List.set_cons_zero,List.set_cons_succ,List.cons_append,List.nil_append,List.append_nil,iT,iS,uW,uX,g7,iC,c8,c9,dJ,dG,eY,eV,eF,eH,mM,fK,fL,rK,rF,oE,oC,oJ,rG,n9,List.getElem?_cons_zero,List.getElem?_cons_succ,List.getElem?_nil,List.length_cons,List.length_nil,Nat.reduceAdd,Nat.reduceSub,Nat.add_zero,Nat.zero_add,Nat.sub_self,Nat.sub_zero] <;> rfl)) (hh : jE hb ρ hs' = hb' := by (simp only [jE,d8,iJ,pB,Blk.rn,V.rns,V.rn,sg,List.map_cons,List.map_nil,Option.map_some,Option.map_none,List.drop_succ_cons,List.drop_zero,List.drop_nil,List.set_cons_zero,List.set_cons_succ,List.cons_append,List.nil_append,List.append_nil,iT,iS,uW,uX,g7,iC,c8,c9,dJ,dG,eY,eV,eF,eH,mM,fK,fL,rK,rF,oE,oC,oJ,rG,n9,List.getElem?_cons_zero,List.getElem?_cons_succ,List.getElem?_nil,List.length_cons,List.length_nil,Nat.reduceAdd,Nat.reduceSub,Nat.add_zero,Nat.zero_add,Nat.sub_self,Nat.sub_zero] <;> rfl)) : OpsX Tryz.prog N none ops (⟨some t,.call ⟨.value (.func f),ws.toArray,ts⟩,ty,pos,aft,none⟩ :: l) (aK n fr) hb K := xC hw (Vm.Fn.lendR hc ρ β hnd hlt hdis hl hx hrf hrb hr hh) k
theorem zg {f : FuncId} {hb : Hp} {args xs : List V} {r : V} {N n t : Nat} {ops : Array Oper} {l : List Oper} {fr : List (Nat × V)} {K : List V → Hp → Prop} {ty : TypeId} {pos : String} {aft : Array Edge} {ws : List Operand} {ts : Array TypeId} {hs hs' hb' : Hp} {v : V} {F G : List Nat} {gd : Option (Nat × Bool)} (hc : Vm.Fn Tryz.prog f hs args r hs') (ρ : List Nat) (k : OpsX Tryz.prog N (some (F,G)) ops l (aK n ((t,v) :: fr)) hb' K) (hw : rV n fr ws = some xs := by rfl) (hnd : ρ.Nodup := by decide) (hlt : ρ.all (fun b => Nat.blt b hb.length) = true := by rfl) (hl : Lend (sg ρ hb.length) hb ρ hs := by repeat (first | exact Lend.nil | refine Lend.cons rfl rfl ?_ | refine Lend.cons rfl (n7 (fun _ => rfl) _) ?_ | refine Lend.cons rfl (gL (fun _ => rfl) _) ?_)) (hx : V.les noN xs (V.rns (sg ρ hb.length) args) := by repeat (first | exact V.les_refl _ _ | exact V.les_nil | apply V.les_cons | exact V.le_refl _ _ | exact V.le_nil | exact V.le_row | exact V.le_arr (fun _ => rfl) | apply V.le_agg)) (hr : r.rn (sg ρ hb.length) = v := by (simp only [jE,d8,iJ,pB,Blk.rn,V.rns,V.rn,sg,List.map_cons,List.map_nil,Option.map_some,Option.map_none,List.drop_succ_cons,List.drop_zero,List.drop_nil,List.set_cons_zero,List.set_cons_succ,List.cons_append,List.nil_append,List.append_nil,iT,iS,uW,uX,g7,iC,c8,c9,dJ,dG,eY,eV,eF,eH,mM,fK,fL,rK,rF,oE,oC,oJ,rG,n9,List.getElem?_cons_zero,List.getElem?_cons_succ,List.getElem?_nil,List.length_cons,List.length_nil,Nat.reduceAdd,Nat.reduceSub,Nat.add_zero,Nat.zero_add,Nat.sub_self,Nat.sub_zero] <;> rfl)) (hh : jE hb ρ hs' = hb' := by (simp only [jE,d8,iJ,pB,Blk.rn,V.rns,V.rn,sg,List.map_cons,List.map_nil,Option.map_some,Option.map_none,List.drop_succ_cons,List.drop_zero,List.drop_nil,List.set_cons_zero,List.set_cons_succ,List.cons_append,List.nil_append,List.append_nil,iT,iS,uW,uX,g7,iC,c8,c9,dJ,dG,eY,eV,eF,eH,mM,fK,fL,rK,rF,oE,oC,oJ,rG,n9,List.getElem?_cons_zero,List.getElem?_cons_succ,List.getElem?_nil,List.length_cons,List.length_nil,Nat.reduceAdd,Nat.reduceSub,Nat.add_zero,Nat.zero_add,Nat.sub_self,Nat.sub_zero] <;> rfl)) (hF : d7 F f = false := by rfl) (hG : d7 G f = true → ∃ news,hb' = hb ++ news := by first | exact (fun _ => ⟨_,rfl⟩) | exact (fun _ => ⟨[],(List.append_nil _).symm⟩) | exact (fun h => absurd h (by decide))) (hg : Gd ops n fr gd := by exact gD) : OpsX Tryz.prog N (some (F,G)) ops (⟨some t,.call ⟨.value (.func f),ws.toArray,ts⟩,ty,pos,aft,gd⟩ :: l) (aK n fr) hb K := xG hw (Vm.Fn.argsLe (Vm.Fn.lendB hc ρ hnd hlt hl rfl hr hh) hx) k hF hG hg
theorem zgL {f : FuncId} {hb : Hp} {args xs : List V} {r : V} {N n t : Nat} {ops : Array Oper} {l : List Oper} {fr : List (Nat × V)} {K : List V → Hp → Prop} {ty : TypeId} {pos : String} {aft : Array Edge} {ws : List Operand} {ts : Array TypeId} {hs hs' hb' : Hp} {v : V} {F G : List Nat} {gd : Option (Nat × Bool)} (hc : Vm.Fn Tryz.prog f hs args r hs') (ρ β : List Nat) (k : OpsX Tryz.prog N (some (F,G)) ops l (aK n ((t,v) :: fr)) hb' K) (hw : rV n fr ws = some xs := by rfl) (hnd : ρ.Nodup := by decide) (hlt : ρ.all (fun b => Nat.blt b hb.length) = true := by rfl) (hdis : ∀ b ∈ β,b ∉ ρ := by decide) (hl : Lend (sg ρ hb.length) hb ρ hs := by repeat (first | exact Lend.nil | refine Lend.cons rfl rfl ?_ | refine Lend.cons rfl (n7 (fun _ => rfl) _) ?_ | refine Lend.cons rfl (gL (fun _ => rfl) _) ?_)) (hx : Brw (sg ρ hb.length) (only β hb) xs args := by repeat (first | exact Brw.nil | refine Brw.same rfl ?_ | refine Brw.row (aHg (by first | exact rfl | (simp only [b8,b7]; done) | exact aZ (by assumption) | exact cB (by assumption)) rfl (fun _ => rfl)) ?_ | refine Brw.row (xA (fun _ => rfl) zl (by first | exact rfl | (simp only [b8,b7]; done) | exact aZ (by assumption) | exact cB (by assumption)) rfl (fun _ => rfl)) ?_ | refine Brw.same (by simp only [V.rn,V.rns,iT,iS]) ?_ | refine Brw.le V.le_nil ?_ | refine Brw.le V.le_row ?_)) (hrf : r.rf = true := by first | rfl | simp [V.rf,V.rfs,aGz,aGf]) (hrb : rfB hs' := by repeat (first | exact rfB.nil | refine rfB.dead ?_ | refine rfB.live rfl ?_ | refine rfB.live (aBE (fun _ => rfl) _) ?_ | refine rfB.live (rfs_flat (fun _ => rfl) _) ?_)) (hr : r.rn (sg ρ hb.length) = v := by (simp only [jE,d8,iJ,pB,Blk.rn,V.rns,V.rn,sg,List.map_cons,List.map_nil,Option.map_some,Option.map_none,List.drop_succ_cons,List.drop_zero,List.drop_nil,List.set_cons_zero,List.set_cons_succ,List.cons_append,List.nil_append,List.append_nil,iT,iS,uW,uX,g7,iC,c8,c9,dJ,dG,eY,eV,eF,eH,mM,fK,fL,rK,rF,oE,oC,oJ,rG,n9,List.getElem?_cons_zero,List.getElem?_cons_succ,List.getElem?_nil,List.length_cons,List.length_nil,Nat.reduceAdd,Nat.reduceSub,Nat.add_zero,Nat.zero_add,Nat.sub_self,Nat.sub_zero] <;> rfl)) (hh : jE hb ρ hs' = hb' := by (simp only [jE,d8,iJ,pB,Blk.rn,V.rns,V.rn,sg,List.map_cons,List.map_nil,Option.map_some,Option.map_none,List.drop_succ_cons,List.drop_zero,List.drop_nil,List.set_cons_zero,List.set_cons_succ,List.cons_append,List.nil_append,List.append_nil,iT,iS,uW,uX,g7,iC,c8,c9,dJ,dG,eY,eV,eF,eH,mM,fK,fL,rK,rF,oE,oC,oJ,rG,n9,List.getElem?_cons_zero,List.getElem?_cons_succ,List.getElem?_nil,List.length_cons,List.length_nil,Nat.reduceAdd,Nat.reduceSub,Nat.add_zero,Nat.zero_add,Nat.sub_self,Nat.sub_zero] <;> rfl)) (hF : d7 F f = false := by rfl) (hG : d7 G f = true → ∃ news,hb' = hb ++ news := by first | exact (fun _ => ⟨_,rfl⟩) | exact (fun _ => ⟨[],(List.append_nil _).symm⟩) | exact (fun h => absurd h (by decide))) (hg : Gd ops n fr gd := by exact gD) : OpsX Tryz.prog N (some (F,G)) ops (⟨some t,.call ⟨.value (.func f),ws.toArray,ts⟩,ty,pos,aft,gd⟩ :: l) (aK n fr) hb K := xG hw (Vm.Fn.lendR hc ρ β hnd hlt hdis hl hx hrf hrb hr hh) k hF hG hg
theorem xp {f : FuncId} {hb : Hp} {args xs : List V} {r : V} {N n t : Nat} {ops : Array Oper} {l : List Oper} {fr : List (Nat × V)} {K : List V → Hp → Prop} {ty : TypeId} {pos : String} {aft : Array Edge} {ws : List Operand} {ts : Array TypeId} (hc : Vm.Fn Tryz.prog f [] args r []) (k : OpsX Tryz.prog N none ops l (aK n ((t,r) :: fr)) hb K) (hw : rV n fr ws = some xs := by rfl) (hx : V.les noN xs args := by repeat (first | exact V.les_refl _ _ | exact V.les_nil | apply V.les_cons | exact V.le_refl _ _ | exact V.le_nil | exact V.le_row | exact V.le_arr (fun _ => rfl) | apply V.le_agg)) (ha : V.rns (sg [] hb.length) args = args := by first | rfl | (simp only [V.rn,V.rns,iT,iS] <;> rfl)) (hr : r.rn (sg [] hb.length) = r := by first | rfl | (simp only [V.rn,V.rns,iT,iS] <;> rfl)) : OpsX Tryz.prog N none ops (⟨some t,.call ⟨.value (.func f),ws.toArray,ts⟩,ty,pos,aft,none⟩ :: l) (aK n fr) hb K := xC hw (Vm.Fn.argsLe (Vm.Fn.pure hc ha hr) hx) k
theorem xu {f : FuncId} {hb : Hp} {args xs : List V} {r : V} {N n t : Nat} {ops : Array Oper} {l : List Oper} {fr : List (Nat × V)} {K : List V → Hp → Prop} {ty : TypeId} {pos : String} {aft : Array Edge} {ws : List Operand} {ts : Array TypeId} {F G : List Nat} {gd : Option (Nat × Bool)} (hc : Vm.Fn Tryz.prog f [] args r []) (k : OpsX Tryz.prog N (some (F,G)) ops l (aK n ((t,r) :: fr)) hb K) (hw : rV n fr ws = some xs := by rfl) (hx : V.les noN xs args := by repeat (first | exact V.les_refl _ _ | exact V.les_nil | apply V.les_cons | exact V.le_refl _ _ | exact V.le_nil | exact V.le_row | exact V.le_arr (fun _ => rfl) | apply V.le_agg)) (ha : ∀ L,V.rns (sg [] L) args = args := by (intro L; first | rfl | (simp only [V.rn,V.rns,iT,iS] <;> rfl))) (hr : ∀ L,r.rn (sg [] L) = r := by (intro L; first | rfl | (simp only [V.rn,V.rns,iT,iS] <;> rfl))) (hG : d7 G f = false := by rfl) (hg : Gd ops n fr gd := by exact gD) : OpsX Tryz.prog N (some (F,G)) ops (⟨some t,.call ⟨.value (.func f),ws.toArray,ts⟩,ty,pos,aft,gd⟩ :: l) (aK n fr) hb K := xU hw (fun _ => Vm.Fn.argsLe (Vm.Fn.pure hc (ha _) (hr _)) hx) k hG hg
end Go.Proofs.YtnoklhehodlkaaaGreatDoor
set_option linter.unusedVariables false
set_option linter.unusedSimpArgs false
set_option maxRecDepth 20000
set_option maxHeartbeats 1000000
namespace Go.Proofs.YtnoklhehodlkaaaGreatDoor
open Go Go.Vm
theorem aGt {N : Nat} {code : Int} {r : Bool} (hr : u7 N code = some r) :
  Vm.Fn Tryz.prog 97 [] [(eI .i64 code)] (eB r) [] := by
 refine zf Tryz.func97 Tryz.ntmps97 ?_
 unfold u7 at hr
 refine zz ?_
 refine AB.seq_g fun K1 hK1 hG1 => ?_
 have J1 : ∀ (x2 : Bool),pZ N x2 = some r → K1 (aK 9 [(2,(eB x2))]) [] := by
  intro x2 hr
  unfold pZ at hr
  refine hK1 _ _ ?_
  refine zz ?_
  obtain rfl := sj hr
  exact bL Tryz.results97 []
 rcases Bool.eq_false_or_eq_true (decide (1 ≤ code)) with h1 | h1
 ·replace hr := eO hr h1
  refine xr ?_
  refine zz ?_
  exact hG1 _ _ _ _ (zG []) (J1 (decide (code ≤ 17)) hr)
 ·replace hr := eP hr h1
  refine xr ?_
  refine zz ?_
  exact hG1 _ _ _ _ (zG []) (J1 false hr)
theorem aDT {N : Nat} {parts : List (List Int)} {r : (List Int)} (hr : sI N parts = some r) :
  Vm.Fn Tryz.prog 37 [] [(.row none 1 (parts.map (eL 1 (eI .u8))))] (.sl 0 0 r.length 1 false) [some ⟨5,r.map (eI .u8)⟩] := by
 refine zf Tryz.func37 Tryz.ntmps37 ?_
 unfold sI at hr
 refine zz ?_
 refine AB.seq_g fun K1 hK1 hG1 => ?_
 have J1 : ∀ (l0 : List Int),aA6 N l0 = some r → K1 (aK 17 [(3,(.sl 0 0 l0.length 1 false))]) [some ⟨5,l0.map (eI .u8)⟩] := by
  intro l0 hr
  unfold aA6 at hr
  refine hK1 _ _ ?_
  refine zz ?_
  obtain rfl := sj hr
  exact bL Tryz.results37 [0]
 obtain ⟨bO,hL2,hr⟩ := aC hr
 refine zz ?_
 refine AB.block <| AB.loopN (fun m s h => ∃ (x8 : Int) (a9 : List Int),lB N parts m x8 a9 = some bO ∧ Ghost 0 s h (aK 17 [(3,(.sl 0 0 a9.length 1 false)),(6,(.row none 1 (parts.map (eL 1 (eI .u8))))),(7,(eI .i64 (parts.length : Int))),(8,(eI .i64 x8))]) [some ⟨5,a9.map (eI .u8)⟩]) (n := N) ⟨0,[],hL2,(zW 5 [0])⟩ (by rintro s h ⟨_,_,h0,_⟩; simp [lB] at h0) ?_
 rintro m2 s h ⟨x8,a9,hr2,hg⟩
 refine AB.ghost hg ?_
 clear hg hL2
 rw [lB] at hr2
 refine zz ?_
 refine AB.seq ?_
 refine zk hr2 rfl (fun h1 hr2 => ?_) (fun h1 hr2 => ?_)
 ·refine zz ?_
  refine AB.seq <| AB.block ?_
  obtain ⟨bV,h_2,hr2⟩ := aC hr2
  obtain ⟨bH,h_3,hr2⟩ := aC hr2
  refine zz ?_
  exact ⟨IntKind.i64.wrap (x8 + 1),bH,hr2,(zG [1])⟩
 ·refine zz ?_
  obtain rfl := sj hr2
  refine zz ?_
  exact hG1 _ _ _ _ (zG [0]) (J1 a9 hr)
theorem aFb {N : Nat} {vm : Int} {vn : Int} {r : Bool} (hr : rQ N vm vn = some r) :
  Vm.Fn Tryz.prog 98 [] [(eI .i64 vm),(eI .i64 vn)] (eB r) [] := by
 refine zf Tryz.func98 Tryz.ntmps98 ?_
 unfold rQ at hr
 refine zz ?_
 refine AB.seq_g fun K1 hK1 hG1 => ?_
 have J1 : ∀ (x4 : Bool),iU N x4 = some r → K1 (aK 20 [(4,(eB x4))]) [] := by
  intro x4 hr
  unfold iU at hr
  refine hK1 _ _ ?_
  refine zz ?_
  obtain rfl := sj hr
  exact bL Tryz.results98 []
 rcases Bool.eq_false_or_eq_true (decide (1 ≤ vn)) with h1 | h1
 ·replace hr := eO hr h1
  rcases Bool.eq_false_or_eq_true (decide (vn ≤ 15)) with h2 | h2
  ·replace hr := eO hr h2
   rcases Bool.eq_false_or_eq_true (decide (1 ≤ vm)) with h3 | h3
   ·replace hr := eO hr h3
    refine xr ?_
    refine zz ?_
    exact hG1 _ _ _ _ (zG []) (J1 (decide (vm ≤ vn)) hr)
   ·replace hr := eP hr h3
    refine xr ?_
    refine zz ?_
    exact hG1 _ _ _ _ (zG []) (J1 false hr)
  ·replace hr := eP hr h2
   refine xr ?_
   refine zz ?_
   refine xX rfl <| xX rfl <| xX rfl ?_
   refine zz ?_
   exact hG1 _ _ _ _ (zG []) (J1 false hr)
 ·replace hr := eP hr h1
  refine xr ?_
  refine zz ?_
  refine xX rfl <| xX rfl ?_
  refine zz ?_
  refine xX rfl <| xX rfl <| xX rfl ?_
  refine zz ?_
  exact hG1 _ _ _ _ (zG []) (J1 false hr)
theorem aHe {N : Nat} {b : List Int} {r : Int × (List Int) × Int × Int × (List Int) × Int} (hr : v8 N b = some r) :
  Vm.Fn Tryz.prog 81 [] [(.row none 1 (b.map (eI .u8)))] (.tup [(.agg [(eI .i64 r.1),(.sl 0 0 r.2.1.length 1 false),(eI .i64 r.2.2.1),(eI .i64 r.2.2.2.1)]),(.row none 1 (r.2.2.2.2.1.map (eI .u8))),(eI .i64 r.2.2.2.2.2)]) [some ⟨5,r.2.1.map (eI .u8)⟩] := by
 refine zf Tryz.func81 Tryz.ntmps81 ?_
 unfold v8 at hr
 obtain ⟨x8,h_1,hr⟩ := aC hr
 refine zz ?_
 refine AB.seq ?_
 obtain ⟨bH,h_2,hr⟩ := aC hr
 refine zz ?_
 refine xp (aGt h_2) ?_
 refine zz ?_
 refine zk hr rfl (fun h3 hr => ?_) (fun h3 hr => ?_)
 ·refine zz ?_
  obtain rfl := sj hr
  exact zr3 Tryz.results81 bM bM bM (zW 5 [2])
 ·obtain ⟨x18,h_4,hr⟩ := aC hr
  refine zz ?_
  refine AB.seq_g fun K1 hK1 hG1 => ?_
  have J1 : ∀ (b_1 : List Int) (c1 : Int) (aJy : Int) (l2 : List Int),lL N x8 b_1 c1 aJy l2 = some r → K1 (aK 78 [(0,(.row none 1 (b_1.map (eI .u8)))),(2,(.ptr 0 0)),(5,(.ptr 1 0))]) [some ⟨85,[(eI .i64 0),(.row (some true) 1 []),(eI .i64 0),(eI .i64 0)]⟩,some ⟨85,[(eI .i64 (IntKind.i64.wrap x8)),(.sl 2 0 l2.length 1 false),(eI .i64 c1),(eI .i64 aJy)]⟩,some ⟨5,l2.map (eI .u8)⟩] := by
   intro b_1 c1 aJy l2 hr
   unfold lL at hr
   refine hK1 _ _ ?_
   refine zz ?_
   obtain rfl := sj hr
   exact zr3 Tryz.results81 bM bM bM (zG [2])
  refine zz ?_
  refine AB.block ?_
  refine zz ?_
  refine zk hr rfl (fun h5 hr => ?_) (fun h5 hr => ?_)
  ·refine AB.seq ?_
   refine AB.seq_g fun K2 hK2 hG2 => ?_
   have J2 : ∀ (x35 : Bool),rT N x8 x18 x35 = some r → K2 (aK 78 [(0,(.row none 1 (x18.map (eI .u8)))),(2,(.ptr 0 0)),(5,(.ptr 1 0)),(35,(eB x35))]) [some ⟨85,[(eI .i64 0),(.row (some true) 1 []),(eI .i64 0),(eI .i64 0)]⟩,some ⟨85,[(eI .i64 (IntKind.i64.wrap x8)),(.row (some true) 1 []),(eI .i64 0),(eI .i64 0)]⟩] := by
    intro x35 hr
    unfold rT at hr
    refine hK2 _ _ ?_
    refine zk hr rfl (fun h6 hr => ?_) (fun h6 hr => ?_)
    ·refine zz ?_
     obtain rfl := sj hr
     exact zr3 Tryz.results81 bM bM bM (zW 5 [2])
    ·obtain ⟨x38,h_7,hr⟩ := aC hr
     obtain ⟨x44,h_8,hr⟩ := aC hr
     obtain ⟨x46,h_9,hr⟩ := aC hr
     obtain ⟨x49,h_11,hr⟩ := aC hr
     refine zz ?_
     refine AB.rd (d7 []) (d7 [37]) mixed <| DrawG.pick (n := 10) (i := 0) (by decide +kernel) rfl (gS (v := (.row none 1 (x18.map (eI .u8)))) (sv (iR rfl))) <| DrawG.pick (n := 9) (i := 1) (by decide +kernel) rfl (gS (v := (eI .i64 (IntKind.i64.wrap (1 + (IntKind.i64.wrap x38))))) (sv (iR rfl))) <| DrawG.pick (n := 8) (i := 2) (by decide +kernel) rfl (gS (v := (.row none 1 (x44.map (eI .u8)))) (sv (eT rfl rfl rfl (slR eU gX rfl rfl h_8)))) <| DrawG.pick (n := 7) (i := 3) (by decide +kernel) rfl (gS (v := (.sl 2 0 1 1 false)) (h' := [some ⟨85,[(eI .i64 0),(.row (some true) 1 []),(eI .i64 0),(eI .i64 0)]⟩,some ⟨85,[(eI .i64 (IntKind.i64.wrap x8)),(.row (some true) 1 []),(eI .i64 0),(eI .i64 0)]⟩,some ⟨22,[x44].map (eL 1 (eI .u8))⟩]) (sv (lF rfl (aIH (xs := [x44].map (eL 1 (eI .u8))) w8 eU zl zl rfl rfl rfl rfl rfl rfl rfl)))) ?_
     refine DrawG.pick (n := 6) (i := 4) (by decide +kernel) rfl (gC (v := (.sl 3 0 x46.length 1 false)) (h' := [some ⟨85,[(eI .i64 0),(.row (some true) 1 []),(eI .i64 0),(eI .i64 0)]⟩,some ⟨85,[(eI .i64 (IntKind.i64.wrap x8)),(.row (some true) 1 []),(eI .i64 0),(eI .i64 0)]⟩,some ⟨22,[x44].map (eL 1 (eI .u8))⟩,some ⟨5,x46.map (eI .u8)⟩]) (zL (aDT h_9) [] [2]) rfl (fun _ => ⟨_,rfl⟩) (sv (d6 rfl fH))) <| DrawG.pick (n := 5) (i := 5) (by decide +kernel) rfl (gS (v := (.row none 1 (x18.map (eI .u8)))) (sv (iR rfl))) <| DrawG.pick (n := 4) (i := 6) (by decide +kernel) rfl (gS (v := (eI .i64 (IntKind.i64.wrap (1 + (IntKind.i64.wrap x38))))) (sv (iR rfl))) ?_
     refine DrawG.pick (n := 3) (i := 8) (by decide +kernel) rfl (gS (v := (.ptr 1 1)) (sv (vT rfl (aK3 ..)))) ?_
     refine DrawG.jn (m := 1) (L := lst [0,1,2,3,4,5,6,7,8,9] 11) (s1 := aK 78 [(0,(.row none 1 (x18.map (eI .u8)))),(2,(.ptr 0 0)),(5,(.ptr 1 0)),(49,(.row none 1 (x49.map (eI .u8))))]) (h1 := [some ⟨85,[(eI .i64 0),(.row (some true) 1 []),(eI .i64 0),(eI .i64 0)]⟩,some ⟨85,[(eI .i64 (IntKind.i64.wrap x8)),(.sl 2 0 x46.length 1 false),(eI .i64 0),(eI .i64 0)]⟩,some ⟨5,x46.map (eI .u8)⟩]) ?_ (fun J => ?_)
     ·refine DrawG.pick (n := 0) (i := 10) (by decide +kernel) rfl (gS (v := (.row none 1 (x49.map (eI .u8)))) (sv (q4 rfl))) <| DrawG.nil (by decide +kernel) ?_
      refine zz ?_
      exact hG1 _ _ _ _ (zG [0,1,2]) (J1 x49 0 0 x46 hr)
     ·refine DrawG.fork (n := 2) [7,9] (by decide +kernel) (by decide) ?_
      refine (Fork.cons rfl (gS (v := (.row none 1 (x49.map (eI .u8)))) (sv (eT rfl rfl rfl (slR eU gX rfl rfl h_11)))) ?_ (Fork.cons rfl (gN (h' := [some ⟨85,[(eI .i64 0),(.row (some true) 1 []),(eI .i64 0),(eI .i64 0)]⟩,some ⟨85,[(eI .i64 (IntKind.i64.wrap x8)),(.sl 3 0 x46.length 1 false),(eI .i64 0),(eI .i64 0)]⟩,some ⟨22,[x44].map (eL 1 (eI .u8))⟩,some ⟨5,x46.map (eI .u8)⟩]) (sv (bN rfl rfl (sV eU rfl rfl rfl zl rfl)))) ?_ Fork.nil))
      ·refine DrawG.pick (n := 1) (i := 9) (by decide +kernel) rfl (gN (h' := [some ⟨85,[(eI .i64 0),(.row (some true) 1 []),(eI .i64 0),(eI .i64 0)]⟩,some ⟨85,[(eI .i64 (IntKind.i64.wrap x8)),(.sl 3 0 x46.length 1 false),(eI .i64 0),(eI .i64 0)]⟩,some ⟨22,[x44].map (eL 1 (eI .u8))⟩,some ⟨5,x46.map (eI .u8)⟩]) (sv (bN rfl rfl (sV eU rfl rfl rfl zl rfl)))) ?_
       exact DrawG.jg (by decide +kernel) (by decide +kernel) (zG [0,1,3]) J
      ·refine DrawG.pick (n := 1) (i := 7) (by decide +kernel) rfl (gS (v := (.row none 1 (x49.map (eI .u8)))) (sv (eT rfl rfl rfl (slR eU gX rfl rfl h_11)))) ?_
       exact DrawG.jg (by decide +kernel) (by decide +kernel) (zG [0,1,3]) J
   rcases Bool.eq_false_or_eq_true ((x18.length : Int) == 0) with h12 | h12
   ·replace hr := eO hr h12
    refine xr ?_
    refine zz ?_
    exact hG2 _ _ _ _ (zG [0,1]) (J2 true hr)
   ·replace hr := eP hr h12
    obtain ⟨cM,h_13,hr⟩ := aC hr
    refine xr ?_
    refine zz ?_
    exact hG2 _ _ _ _ (zG [0,1]) (J2 (decide ((IntKind.i64.wrap ((x18.length : Int) - 1)) < (IntKind.i64.wrap cM))) hr)
  ·refine zz ?_
   refine zk hr rfl (fun h14 hr => ?_) (fun h14 hr => ?_)
   ·refine AB.seq ?_
    refine zz ?_
    refine zk hr rfl (fun h15 hr => ?_) (fun h15 hr => ?_)
    ·refine zz ?_
     obtain rfl := sj hr
     exact zr3 Tryz.results81 bM bM bM (zW 5 [2])
    ·refine zz ?_
     refine AB.seq ?_
     obtain ⟨x58,h_16,hr⟩ := aC hr
     obtain ⟨x62,h_17,hr⟩ := aC hr
     obtain ⟨x66,h_18,hr⟩ := aC hr
     refine AB.rd (d7 []) (d7 []) mixed <| DrawG.pick (n := 14) (i := 0) (by decide +kernel) rfl (gS (v := (.row none 1 (x18.map (eI .u8)))) (sv (iR rfl))) <| DrawG.pick (n := 13) (i := 1) (by decide +kernel) rfl (gS (sv (aAn rfl rfl (iaR eU gX h_16)))) <| DrawG.pick (n := 12) (i := 2) (by decide +kernel) rfl (gS (v := (eI .u8 x58)) (sv (bW rfl (ldR h_16 (aAK gX rfl rfl))))) <| DrawG.pick (n := 11) (i := 3) (by decide +kernel) rfl (gS (v := (eI .i64 (IntKind.i64.wrap x58))) (sv (sX rfl (qP _ ⟨_,gX⟩ iQ rfl)))) <| DrawG.pick (n := 10) (i := 4) (by decide +kernel) rfl (gS (v := (.row none 1 (x18.map (eI .u8)))) (sv (iR rfl))) ?_
     refine DrawG.pick (n := 9) (i := 5) (by decide +kernel) rfl (gS (sv (aAn rfl rfl (iaR eU gX h_17)))) <| DrawG.pick (n := 8) (i := 8) (by decide +kernel) rfl (gS (v := (.row none 1 (x18.map (eI .u8)))) (sv (iR rfl))) <| DrawG.pick (n := 7) (i := 10) (by decide +kernel) rfl (gS (v := (.ptr 1 2)) (sv (vT rfl (aK1 ..)))) ?_
     refine DrawG.jn (m := 1) (L := lst [0,1,2,3,4,5,6,7,8,9,10,11,12,13] 15) (s1 := aK 78 [(0,(.row none 1 (x18.map (eI .u8)))),(2,(.ptr 0 0)),(5,(.ptr 1 0)),(66,(.row none 1 (x66.map (eI .u8))))]) (h1 := [some ⟨85,[(eI .i64 0),(.row (some true) 1 []),(eI .i64 0),(eI .i64 0)]⟩,some ⟨85,[(eI .i64 (IntKind.i64.wrap x8)),(.row (some true) 1 []),(eI .i64 (IntKind.i64.wrap x58)),(eI .i64 (IntKind.i64.wrap x62))]⟩]) ?_ (fun J => ?_)
     ·refine DrawG.pick (n := 0) (i := 14) (by decide +kernel) rfl (gS (v := (.row none 1 (x66.map (eI .u8)))) (sv (q4 rfl))) <| DrawG.nil (by decide +kernel) ?_
      obtain ⟨x73,h_19,hr⟩ := aC hr
      refine zz ?_
      refine xp (aFb h_19) ?_
      refine zz ?_
      refine zk hr rfl (fun h20 hr => ?_) (fun h20 hr => ?_)
      ·refine zz ?_
       obtain rfl := sj hr
       exact zr3 Tryz.results81 bM bM bM (zW 5 [2])
      ·refine zz ?_
       exact hG1 _ _ _ _ (Ghost.trans (Ghost.virt (fr' := [(0,(.row none 1 (x66.map (eI .u8)))),(2,(.ptr 0 0)),(5,(.ptr 1 0))]) (h1 := [some ⟨85,[(eI .i64 0),(.row (some true) 1 []),(eI .i64 0),(eI .i64 0)]⟩,some ⟨85,[(eI .i64 (IntKind.i64.wrap x8)),(.sl 2 0 0 1 false),(eI .i64 (IntKind.i64.wrap x58)),(eI .i64 (IntKind.i64.wrap x62))]⟩]) 5 (FLe.same rfl (FLe.same rfl (FLe.same rfl FLe.nil))) (HLv.live (V.les_refl _ _) rfl (HLv.live (V.les_cons (V.le_refl _ _) (V.les_cons (V.le_virt rfl) (V.les_cons (V.le_refl _ _) (V.les_cons (V.le_refl _ _) V.les_nil)))) rfl HLv.nil))) (qH [0,1,2])) (J1 x66 (IntKind.i64.wrap x58) (IntKind.i64.wrap x62) [] hr)
     ·refine DrawG.fork (n := 6) [6,9,11] (by decide +kernel) (by decide) ?_
      refine (Fork.cons rfl (gS (v := (eI .u8 x62)) (sv (bW rfl (ldR h_17 (aAK gX rfl rfl))))) ?_ (Fork.cons rfl (gS (v := (.row none 1 (x66.map (eI .u8)))) (sv (eT rfl rfl rfl (slR eU gX rfl rfl h_18)))) ?_ (Fork.cons rfl (gN (h' := [some ⟨85,[(eI .i64 0),(.row (some true) 1 []),(eI .i64 0),(eI .i64 0)]⟩,some ⟨85,[(eI .i64 (IntKind.i64.wrap x8)),(.row (some true) 1 []),(eI .i64 (IntKind.i64.wrap x58)),(eI .i64 0)]⟩]) (sv (bN rfl rfl (sV iQ rfl rfl rfl zl rfl)))) ?_ Fork.nil)))
      ·refine DrawG.fork (n := 5) [7,9,11] (by decide +kernel) (by decide) ?_
       refine (Fork.cons rfl (gS (v := (eI .i64 (IntKind.i64.wrap x62))) (sv (sX rfl (qP _ ⟨_,gX⟩ iQ rfl)))) ?_ (Fork.cons rfl (gS (v := (.row none 1 (x66.map (eI .u8)))) (sv (eT rfl rfl rfl (slR eU gX rfl rfl h_18)))) ?_ (Fork.cons rfl (gN (h' := [some ⟨85,[(eI .i64 0),(.row (some true) 1 []),(eI .i64 0),(eI .i64 0)]⟩,some ⟨85,[(eI .i64 (IntKind.i64.wrap x8)),(.row (some true) 1 []),(eI .i64 (IntKind.i64.wrap x58)),(eI .i64 0)]⟩]) (sv (bN rfl rfl (sV iQ rfl rfl rfl zl rfl)))) ?_ Fork.nil)))
       ·refine DrawG.fork (n := 4) [9,11] (by decide +kernel) (by decide) ?_
        refine (Fork.cons rfl (gS (v := (.row none 1 (x66.map (eI .u8)))) (sv (eT rfl rfl rfl (slR eU gX rfl rfl h_18)))) ?_ (Fork.cons rfl (gN (h' := [some ⟨85,[(eI .i64 0),(.row (some true) 1 []),(eI .i64 0),(eI .i64 0)]⟩,some ⟨85,[(eI .i64 (IntKind.i64.wrap x8)),(.row (some true) 1 []),(eI .i64 (IntKind.i64.wrap x58)),(eI .i64 0)]⟩]) (sv (bN rfl rfl (sV iQ rfl rfl rfl zl rfl)))) ?_ Fork.nil))
        ·refine DrawG.pick (n := 3) (i := 11) (by decide +kernel) rfl (gN (h' := [some ⟨85,[(eI .i64 0),(.row (some true) 1 []),(eI .i64 0),(eI .i64 0)]⟩,some ⟨85,[(eI .i64 (IntKind.i64.wrap x8)),(.row (some true) 1 []),(eI .i64 (IntKind.i64.wrap x58)),(eI .i64 0)]⟩]) (sv (bN rfl rfl (sV iQ rfl rfl rfl zl rfl)))) <| DrawG.pick (n := 2) (i := 12) (by decide +kernel) rfl (gS (v := (.ptr 1 3)) (sv (vT rfl (tG ..)))) <| DrawG.pick (n := 1) (i := 13) (by decide +kernel) rfl (gN (h' := [some ⟨85,[(eI .i64 0),(.row (some true) 1 []),(eI .i64 0),(eI .i64 0)]⟩,some ⟨85,[(eI .i64 (IntKind.i64.wrap x8)),(.row (some true) 1 []),(eI .i64 (IntKind.i64.wrap x58)),(eI .i64 (IntKind.i64.wrap x62))]⟩]) (sv (bN rfl rfl (sV iQ rfl rfl rfl zl rfl)))) ?_
         exact DrawG.jg (by decide +kernel) (by decide +kernel) (zG [0,1]) J
        ·refine DrawG.pick (n := 3) (i := 12) (by decide +kernel) rfl (gS (v := (.ptr 1 3)) (sv (vT rfl (tG ..)))) <| DrawG.fork (n := 2) [9,13] (by decide +kernel) (by decide) ?_
         refine (Fork.cons rfl (gS (v := (.row none 1 (x66.map (eI .u8)))) (sv (eT rfl rfl rfl (slR eU gX rfl rfl h_18)))) ?_ (Fork.cons rfl (gN (h' := [some ⟨85,[(eI .i64 0),(.row (some true) 1 []),(eI .i64 0),(eI .i64 0)]⟩,some ⟨85,[(eI .i64 (IntKind.i64.wrap x8)),(.row (some true) 1 []),(eI .i64 (IntKind.i64.wrap x58)),(eI .i64 (IntKind.i64.wrap x62))]⟩]) (sv (bN rfl rfl (sV iQ rfl rfl rfl zl rfl)))) ?_ Fork.nil))
         ·refine DrawG.pick (n := 1) (i := 13) (by decide +kernel) rfl (gN (h' := [some ⟨85,[(eI .i64 0),(.row (some true) 1 []),(eI .i64 0),(eI .i64 0)]⟩,some ⟨85,[(eI .i64 (IntKind.i64.wrap x8)),(.row (some true) 1 []),(eI .i64 (IntKind.i64.wrap x58)),(eI .i64 (IntKind.i64.wrap x62))]⟩]) (sv (bN rfl rfl (sV iQ rfl rfl rfl zl rfl)))) ?_
          exact DrawG.jg (by decide +kernel) (by decide +kernel) (zG [0,1]) J
         ·refine DrawG.pick (n := 1) (i := 9) (by decide +kernel) rfl (gS (v := (.row none 1 (x66.map (eI .u8)))) (sv (eT rfl rfl rfl (slR eU gX rfl rfl h_18)))) ?_
          exact DrawG.jg (by decide +kernel) (by decide +kernel) (zG [0,1]) J
       ·refine DrawG.fork (n := 4) [7,11] (by decide +kernel) (by decide) ?_
        refine (Fork.cons rfl (gS (v := (eI .i64 (IntKind.i64.wrap x62))) (sv (sX rfl (qP _ ⟨_,gX⟩ iQ rfl)))) ?_ (Fork.cons rfl (gN (h' := [some ⟨85,[(eI .i64 0),(.row (some true) 1 []),(eI .i64 0),(eI .i64 0)]⟩,some ⟨85,[(eI .i64 (IntKind.i64.wrap x8)),(.row (some true) 1 []),(eI .i64 (IntKind.i64.wrap x58)),(eI .i64 0)]⟩]) (sv (bN rfl rfl (sV iQ rfl rfl rfl zl rfl)))) ?_ Fork.nil))
        ·refine DrawG.pick (n := 3) (i := 11) (by decide +kernel) rfl (gN (h' := [some ⟨85,[(eI .i64 0),(.row (some true) 1 []),(eI .i64 0),(eI .i64 0)]⟩,some ⟨85,[(eI .i64 (IntKind.i64.wrap x8)),(.row (some true) 1 []),(eI .i64 (IntKind.i64.wrap x58)),(eI .i64 0)]⟩]) (sv (bN rfl rfl (sV iQ rfl rfl rfl zl rfl)))) <| DrawG.pick (n := 2) (i := 12) (by decide +kernel) rfl (gS (v := (.ptr 1 3)) (sv (vT rfl (tG ..)))) <| DrawG.pick (n := 1) (i := 13) (by decide +kernel) rfl (gN (h' := [some ⟨85,[(eI .i64 0),(.row (some true) 1 []),(eI .i64 0),(eI .i64 0)]⟩,some ⟨85,[(eI .i64 (IntKind.i64.wrap x8)),(.row (some true) 1 []),(eI .i64 (IntKind.i64.wrap x58)),(eI .i64 (IntKind.i64.wrap x62))]⟩]) (sv (bN rfl rfl (sV iQ rfl rfl rfl zl rfl)))) ?_
         exact DrawG.jg (by decide +kernel) (by decide +kernel) (zG [0,1]) J
        ·refine DrawG.pick (n := 3) (i := 7) (by decide +kernel) rfl (gS (v := (eI .i64 (IntKind.i64.wrap x62))) (sv (sX rfl (qP _ ⟨_,gX⟩ iQ rfl)))) <| DrawG.pick (n := 2) (i := 12) (by decide +kernel) rfl (gS (v := (.ptr 1 3)) (sv (vT rfl (tG ..)))) <| DrawG.pick (n := 1) (i := 13) (by decide +kernel) rfl (gN (h' := [some ⟨85,[(eI .i64 0),(.row (some true) 1 []),(eI .i64 0),(eI .i64 0)]⟩,some ⟨85,[(eI .i64 (IntKind.i64.wrap x8)),(.row (some true) 1 []),(eI .i64 (IntKind.i64.wrap x58)),(eI .i64 (IntKind.i64.wrap x62))]⟩]) (sv (bN rfl rfl (sV iQ rfl rfl rfl zl rfl)))) ?_
         exact DrawG.jg (by decide +kernel) (by decide +kernel) (zG [0,1]) J
       ·refine DrawG.pick (n := 4) (i := 7) (by decide +kernel) rfl (gS (v := (eI .i64 (IntKind.i64.wrap x62))) (sv (sX rfl (qP _ ⟨_,gX⟩ iQ rfl)))) <| DrawG.pick (n := 3) (i := 12) (by decide +kernel) rfl (gS (v := (.ptr 1 3)) (sv (vT rfl (tG ..)))) <| DrawG.fork (n := 2) [9,13] (by decide +kernel) (by decide) ?_
        refine (Fork.cons rfl (gS (v := (.row none 1 (x66.map (eI .u8)))) (sv (eT rfl rfl rfl (slR eU gX rfl rfl h_18)))) ?_ (Fork.cons rfl (gN (h' := [some ⟨85,[(eI .i64 0),(.row (some true) 1 []),(eI .i64 0),(eI .i64 0)]⟩,some ⟨85,[(eI .i64 (IntKind.i64.wrap x8)),(.row (some true) 1 []),(eI .i64 (IntKind.i64.wrap x58)),(eI .i64 (IntKind.i64.wrap x62))]⟩]) (sv (bN rfl rfl (sV iQ rfl rfl rfl zl rfl)))) ?_ Fork.nil))
        ·refine DrawG.pick (n := 1) (i := 13) (by decide +kernel) rfl (gN (h' := [some ⟨85,[(eI .i64 0),(.row (some true) 1 []),(eI .i64 0),(eI .i64 0)]⟩,some ⟨85,[(eI .i64 (IntKind.i64.wrap x8)),(.row (some true) 1 []),(eI .i64 (IntKind.i64.wrap x58)),(eI .i64 (IntKind.i64.wrap x62))]⟩]) (sv (bN rfl rfl (sV iQ rfl rfl rfl zl rfl)))) ?_
         exact DrawG.jg (by decide +kernel) (by decide +kernel) (zG [0,1]) J
        ·refine DrawG.pick (n := 1) (i := 9) (by decide +kernel) rfl (gS (v := (.row none 1 (x66.map (eI .u8)))) (sv (eT rfl rfl rfl (slR eU gX rfl rfl h_18)))) ?_
         exact DrawG.jg (by decide +kernel) (by decide +kernel) (zG [0,1]) J
      ·refine DrawG.fork (n := 5) [6,11] (by decide +kernel) (by decide) ?_
       refine (Fork.cons rfl (gS (v := (eI .u8 x62)) (sv (bW rfl (ldR h_17 (aAK gX rfl rfl))))) ?_ (Fork.cons rfl (gN (h' := [some ⟨85,[(eI .i64 0),(.row (some true) 1 []),(eI .i64 0),(eI .i64 0)]⟩,some ⟨85,[(eI .i64 (IntKind.i64.wrap x8)),(.row (some true) 1 []),(eI .i64 (IntKind.i64.wrap x58)),(eI .i64 0)]⟩]) (sv (bN rfl rfl (sV iQ rfl rfl rfl zl rfl)))) ?_ Fork.nil))
       ·refine DrawG.fork (n := 4) [7,11] (by decide +kernel) (by decide) ?_
        refine (Fork.cons rfl (gS (v := (eI .i64 (IntKind.i64.wrap x62))) (sv (sX rfl (qP _ ⟨_,gX⟩ iQ rfl)))) ?_ (Fork.cons rfl (gN (h' := [some ⟨85,[(eI .i64 0),(.row (some true) 1 []),(eI .i64 0),(eI .i64 0)]⟩,some ⟨85,[(eI .i64 (IntKind.i64.wrap x8)),(.row (some true) 1 []),(eI .i64 (IntKind.i64.wrap x58)),(eI .i64 0)]⟩]) (sv (bN rfl rfl (sV iQ rfl rfl rfl zl rfl)))) ?_ Fork.nil))
        ·refine DrawG.pick (n := 3) (i := 11) (by decide +kernel) rfl (gN (h' := [some ⟨85,[(eI .i64 0),(.row (some true) 1 []),(eI .i64 0),(eI .i64 0)]⟩,some ⟨85,[(eI .i64 (IntKind.i64.wrap x8)),(.row (some true) 1 []),(eI .i64 (IntKind.i64.wrap x58)),(eI .i64 0)]⟩]) (sv (bN rfl rfl (sV iQ rfl rfl rfl zl rfl)))) <| DrawG.pick (n := 2) (i := 12) (by decide +kernel) rfl (gS (v := (.ptr 1 3)) (sv (vT rfl (tG ..)))) <| DrawG.pick (n := 1) (i := 13) (by decide +kernel) rfl (gN (h' := [some ⟨85,[(eI .i64 0),(.row (some true) 1 []),(eI .i64 0),(eI .i64 0)]⟩,some ⟨85,[(eI .i64 (IntKind.i64.wrap x8)),(.row (some true) 1 []),(eI .i64 (IntKind.i64.wrap x58)),(eI .i64 (IntKind.i64.wrap x62))]⟩]) (sv (bN rfl rfl (sV iQ rfl rfl rfl zl rfl)))) ?_
         exact DrawG.jg (by decide +kernel) (by decide +kernel) (zG [0,1]) J
        ·refine DrawG.pick (n := 3) (i := 7) (by decide +kernel) rfl (gS (v := (eI .i64 (IntKind.i64.wrap x62))) (sv (sX rfl (qP _ ⟨_,gX⟩ iQ rfl)))) <| DrawG.pick (n := 2) (i := 12) (by decide +kernel) rfl (gS (v := (.ptr 1 3)) (sv (vT rfl (tG ..)))) <| DrawG.pick (n := 1) (i := 13) (by decide +kernel) rfl (gN (h' := [some ⟨85,[(eI .i64 0),(.row (some true) 1 []),(eI .i64 0),(eI .i64 0)]⟩,some ⟨85,[(eI .i64 (IntKind.i64.wrap x8)),(.row (some true) 1 []),(eI .i64 (IntKind.i64.wrap x58)),(eI .i64 (IntKind.i64.wrap x62))]⟩]) (sv (bN rfl rfl (sV iQ rfl rfl rfl zl rfl)))) ?_
         exact DrawG.jg (by decide +kernel) (by decide +kernel) (zG [0,1]) J
       ·refine DrawG.pick (n := 4) (i := 6) (by decide +kernel) rfl (gS (v := (eI .u8 x62)) (sv (bW rfl (ldR h_17 (aAK gX rfl rfl))))) <| DrawG.pick (n := 3) (i := 7) (by decide +kernel) rfl (gS (v := (eI .i64 (IntKind.i64.wrap x62))) (sv (sX rfl (qP _ ⟨_,gX⟩ iQ rfl)))) <| DrawG.pick (n := 2) (i := 12) (by decide +kernel) rfl (gS (v := (.ptr 1 3)) (sv (vT rfl (tG ..)))) <| DrawG.pick (n := 1) (i := 13) (by decide +kernel) rfl (gN (h' := [some ⟨85,[(eI .i64 0),(.row (some true) 1 []),(eI .i64 0),(eI .i64 0)]⟩,some ⟨85,[(eI .i64 (IntKind.i64.wrap x8)),(.row (some true) 1 []),(eI .i64 (IntKind.i64.wrap x58)),(eI .i64 (IntKind.i64.wrap x62))]⟩]) (sv (bN rfl rfl (sV iQ rfl rfl rfl zl rfl)))) ?_
        exact DrawG.jg (by decide +kernel) (by decide +kernel) (zG [0,1]) J
      ·refine DrawG.pick (n := 5) (i := 6) (by decide +kernel) rfl (gS (v := (eI .u8 x62)) (sv (bW rfl (ldR h_17 (aAK gX rfl rfl))))) <| DrawG.pick (n := 4) (i := 7) (by decide +kernel) rfl (gS (v := (eI .i64 (IntKind.i64.wrap x62))) (sv (sX rfl (qP _ ⟨_,gX⟩ iQ rfl)))) <| DrawG.pick (n := 3) (i := 12) (by decide +kernel) rfl (gS (v := (.ptr 1 3)) (sv (vT rfl (tG ..)))) <| DrawG.fork (n := 2) [9,13] (by decide +kernel) (by decide) ?_
       refine (Fork.cons rfl (gS (v := (.row none 1 (x66.map (eI .u8)))) (sv (eT rfl rfl rfl (slR eU gX rfl rfl h_18)))) ?_ (Fork.cons rfl (gN (h' := [some ⟨85,[(eI .i64 0),(.row (some true) 1 []),(eI .i64 0),(eI .i64 0)]⟩,some ⟨85,[(eI .i64 (IntKind.i64.wrap x8)),(.row (some true) 1 []),(eI .i64 (IntKind.i64.wrap x58)),(eI .i64 (IntKind.i64.wrap x62))]⟩]) (sv (bN rfl rfl (sV iQ rfl rfl rfl zl rfl)))) ?_ Fork.nil))
       ·refine DrawG.pick (n := 1) (i := 13) (by decide +kernel) rfl (gN (h' := [some ⟨85,[(eI .i64 0),(.row (some true) 1 []),(eI .i64 0),(eI .i64 0)]⟩,some ⟨85,[(eI .i64 (IntKind.i64.wrap x8)),(.row (some true) 1 []),(eI .i64 (IntKind.i64.wrap x58)),(eI .i64 (IntKind.i64.wrap x62))]⟩]) (sv (bN rfl rfl (sV iQ rfl rfl rfl zl rfl)))) ?_
        exact DrawG.jg (by decide +kernel) (by decide +kernel) (zG [0,1]) J
       ·refine DrawG.pick (n := 1) (i := 9) (by decide +kernel) rfl (gS (v := (.row none 1 (x66.map (eI .u8)))) (sv (eT rfl rfl rfl (slR eU gX rfl rfl h_18)))) ?_
        exact DrawG.jg (by decide +kernel) (by decide +kernel) (zG [0,1]) J
   ·refine zz ?_
    exact hG1 _ _ _ _ (Ghost.trans (Ghost.virt (fr' := [(0,(.row none 1 (x18.map (eI .u8)))),(2,(.ptr 0 0)),(5,(.ptr 1 0))]) (h1 := [some ⟨85,[(eI .i64 0),(.row (some true) 1 []),(eI .i64 0),(eI .i64 0)]⟩,some ⟨85,[(eI .i64 (IntKind.i64.wrap x8)),(.sl 2 0 0 1 false),(eI .i64 0),(eI .i64 0)]⟩]) 5 (FLe.same rfl (FLe.same rfl (FLe.same rfl FLe.nil))) (HLv.live (V.les_refl _ _) rfl (HLv.live (V.les_cons (V.le_refl _ _) (V.les_cons (V.le_virt rfl) (V.les_cons (V.le_refl _ _) (V.les_cons (V.le_refl _ _) V.les_nil)))) rfl HLv.nil))) (qH [0,1,2])) (J1 x18 0 0 [] hr)
theorem aGO {N : Nat} {b : List Int} {r : (List bC) × Int} (hr : u9 N b = some r) :
  Vm.Fn Tryz.prog 52 [] [(.row none 1 (b.map (eI .u8)))] (.tup [(.sl 0 0 r.1.length 4 true),(eI .i64 r.2)]) [some ⟨85,r.1.flatMap e9⟩] := by
 refine zf Tryz.func52 Tryz.ntmps52 ?_
 unfold u9 at hr
 refine zz ?_
 refine AB.seq ?_
 refine zz ?_
 refine zk hr rfl (fun h1 hr => ?_) (fun h1 hr => ?_)
 ·refine zz ?_
  obtain rfl := sj hr
  exact wM Tryz.results52 bM bM (zW 85 [0])
 ·refine zz ?_
  refine AB.seq_g fun K1 hK1 hG1 => ?_
  have J1 : ∀ (l0 : List bC),yT N l0 = some r → K1 (aK 29 [(4,(.sl 0 0 l0.length 4 true))]) [some ⟨85,l0.flatMap e9⟩] := by
   intro l0 hr
   unfold yT at hr
   refine hK1 _ _ ?_
   refine zz ?_
   obtain rfl := sj hr
   exact zd2 Tryz.results52 [0]
  obtain ⟨bO,hL2,hr⟩ := aC hr
  refine AB.block <| AB.loopN (fun m s h => ∃ (b_1 : List Int) (a9 : List bC),kX N m b_1 a9 = some bO ∧ Ghost 0 s h (aK 29 [(0,(.row none 1 (b_1.map (eI .u8)))),(4,(.sl 0 0 a9.length 4 true))]) [some ⟨85,a9.flatMap e9⟩]) (n := N) ⟨b,[],hL2,(zW 85 [0])⟩ (by rintro s h ⟨_,_,h0,_⟩; simp [kX] at h0) ?_
  rintro m2 s h ⟨b_1,a9,hr2,hg⟩
  refine AB.ghost hg ?_
  clear hg hL2
  rw [kX] at hr2
  refine AB.seq ?_
  refine zz ?_
  refine zk hr2 rfl (fun h2 hr2 => ?_) (fun h2 hr2 => ?_)
  ·refine zz ?_
   refine AB.block ?_
   obtain ⟨x16,h_3,hr2⟩ := aC hr2
   refine zz ?_
   refine zc (aHe h_3) [] ?_
   refine zz ?_
   refine AB.seq ?_
   refine zz ?_
   refine zk hr2 rfl (fun h4 hr2 => ?_) (fun h4 hr2 => ?_)
   ·refine zz ?_
    obtain rfl := sj hr2
    obtain rfl := sj hr
    exact wM Tryz.results52 bM bM (zW 85 [3])
   ·obtain ⟨x26,h_5,hr2⟩ := aC hr2
    refine zz ?_
    refine OpsX.ghost (Ghost.conv (fr' := [(0,(.row none 1 (b_1.map (eI .u8)))),(4,(.sl 0 0 a9.length 4 true)),(5,(.ptr 2 0)),(6,(.row none 1 (x16.2.2.2.2.1.map (eI .u8)))),(7,(eI .i64 x16.2.2.2.2.2)),(11,(.row none 1 (b_1.map (eI .u8)))),(12,(eI .i64 (b_1.length : Int))),(13,(eB (decide (0 < (b_1.length : Int))))),(14,(.tup [(.agg [(eI .i64 x16.1),(.row none 1 (x16.2.1.map (eI .u8))),(eI .i64 x16.2.2.1),(eI .i64 x16.2.2.2.1)]),(.row none 1 (x16.2.2.2.2.1.map (eI .u8))),(eI .i64 x16.2.2.2.2.2)])),(15,(.row none 1 (b_1.map (eI .u8)))),(16,(.tup [(.agg [(eI .i64 x16.1),(.row none 1 (x16.2.1.map (eI .u8))),(eI .i64 x16.2.2.1),(eI .i64 x16.2.2.2.1)]),(.row none 1 (x16.2.2.2.2.1.map (eI .u8))),(eI .i64 x16.2.2.2.2.2)])),(17,(.agg [(eI .i64 x16.1),(.row none 1 (x16.2.1.map (eI .u8))),(eI .i64 x16.2.2.1),(eI .i64 x16.2.2.2.1)])),(18,(.row none 1 (x16.2.2.2.2.1.map (eI .u8)))),(19,(eI .i64 x16.2.2.2.2.2)),(20,(eI .i64 x16.2.2.2.2.2)),(21,(eB (x16.2.2.2.2.2 != 0))),(23,(.sl 0 0 a9.length 4 true)),(24,(.agg [(eI .i64 x16.1),(.row none 1 (x16.2.1.map (eI .u8))),(eI .i64 x16.2.2.1),(eI .i64 x16.2.2.2.1)]))]) (h' := [some ⟨85,a9.flatMap e9⟩,none,some ⟨85,[(eI .i64 x16.1),(.row none 1 (x16.2.1.map (eI .u8))),(eI .i64 x16.2.2.1),(eI .i64 x16.2.2.2.1)]⟩]) (FCv.cons rfl (Conv.same (bD rfl)) (FCv.cons rfl (Conv.same (bD rfl)) (FCv.cons rfl (Conv.same (bD rfl)) (FCv.cons rfl (Conv.same (bD rfl)) (FCv.cons rfl (Conv.same (bD rfl)) (FCv.cons rfl (Conv.same (bD rfl)) (FCv.cons rfl (Conv.same (bD rfl)) (FCv.cons rfl (Conv.same (bD rfl)) (FCv.cons rfl (Conv.tup (Convs.cons (Conv.agg (Convs.cons (Conv.same (bD rfl)) (Convs.cons (Conv.row (bD rfl) rfl rfl (xJ (fun _ => rfl)) (by first | rfl | (simp only [List.length_map,b8,b7]; done))) (Convs.cons (Conv.same (bD rfl)) (Convs.cons (Conv.same (bD rfl)) Convs.nil))))) (Convs.cons (Conv.same (bD rfl)) (Convs.cons (Conv.same (bD rfl)) Convs.nil)))) (FCv.cons rfl (Conv.same (bD rfl)) (FCv.cons rfl (Conv.tup (Convs.cons (Conv.agg (Convs.cons (Conv.same (bD rfl)) (Convs.cons (Conv.row (bD rfl) rfl rfl (xJ (fun _ => rfl)) (by first | rfl | (simp only [List.length_map,b8,b7]; done))) (Convs.cons (Conv.same (bD rfl)) (Convs.cons (Conv.same (bD rfl)) Convs.nil))))) (Convs.cons (Conv.same (bD rfl)) (Convs.cons (Conv.same (bD rfl)) Convs.nil)))) (FCv.cons rfl (Conv.agg (Convs.cons (Conv.same (bD rfl)) (Convs.cons (Conv.row (bD rfl) rfl rfl (xJ (fun _ => rfl)) (by first | rfl | (simp only [List.length_map,b8,b7]; done))) (Convs.cons (Conv.same (bD rfl)) (Convs.cons (Conv.same (bD rfl)) Convs.nil))))) (FCv.cons rfl (Conv.same (bD rfl)) (FCv.cons rfl (Conv.same (bD rfl)) (FCv.cons rfl (Conv.same (bD rfl)) (FCv.cons rfl (Conv.same (bD rfl)) (FCv.cons rfl (Conv.same (bD rfl)) (FCv.cons rfl (Conv.agg (Convs.cons (Conv.same (bD rfl)) (Convs.cons (Conv.row (bD rfl) rfl rfl (xJ (fun _ => rfl)) (by first | rfl | (simp only [List.length_map,b8,b7]; done))) (Convs.cons (Conv.same (bD rfl)) (Convs.cons (Conv.same (bD rfl)) Convs.nil))))) FCv.nil)))))))))))))))))) (HCv.live (Convs.same (bD rfl)) (o5 (fun _ => rfl) _) (HCv.dead (HCv.live (Convs.cons (Conv.same (bD rfl)) (Convs.cons (Conv.row (bD rfl) rfl rfl (xJ (fun _ => rfl)) (by first | rfl | (simp only [List.length_map,b8,b7]; done))) (Convs.cons (Conv.same (bD rfl)) (Convs.cons (Conv.same (bD rfl)) Convs.nil)))) rfl HCv.nil)))) ?_
    refine xw (v := (.sl 3 0 1 4 true)) (h' := [some ⟨85,a9.flatMap e9⟩,none,some ⟨85,[(eI .i64 x16.1),(.row none 1 (x16.2.1.map (eI .u8))),(eI .i64 x16.2.2.1),(eI .i64 x16.2.2.2.1)]⟩,some ⟨85,[(bC.mk x16.1 x16.2.1 x16.2.2.1 x16.2.2.2.1)].flatMap e9⟩]) (lF rfl (aBw (C := e9) (xs := [(bC.mk x16.1 x16.2.1 x16.2.2.1 x16.2.2.2.1)]) (K := 4) (fun _ => rfl) (fun _ => rfl) aRD aBH ⟨zl,zl,zl⟩ rfl rfl rfl rfl rfl rfl)) ?_
    refine zz ?_
    exact ⟨x16.2.2.2.2.1,x26,hr2,(zG [4])⟩
  ·refine zz ?_
   obtain rfl := sj hr2
   refine zz ?_
   exact hG1 _ _ _ _ (zG [0]) (J1 a9 hr)
theorem aFt {N : Nat} {l : List bC} {r : Bool} (hr : sY N l = some r) :
  Vm.Fn Tryz.prog 53 [] [(.row none 4 (l.map aDk))] (eB r) [] := by
 refine zf Tryz.func53 Tryz.ntmps53 ?_
 unfold sY at hr
 refine zz ?_
 refine AB.seq_g fun K1 hK1 hG1 => ?_
 have J1 : ∀ (l0 : List Bool),wX N l0 = some r → K1 (aK 47 [(3,(.sl 0 0 l0.length 1 false))]) [some ⟨4,l0.map eB⟩] := by
  intro l0 hr
  unfold wX at hr
  refine hK1 _ _ ?_
  refine zz ?_
  obtain rfl := sj hr
  exact bL Tryz.results53 []
 obtain ⟨bO,hL2,hr⟩ := aC hr
 refine zz ?_
 refine AB.block <| AB.loopN (fun m s h => ∃ (x9 : Int) (a9 : List Bool),dC N l m x9 a9 = some bO ∧ Ghost 0 s h (aK 47 [(3,(.sl 0 0 a9.length 1 false)),(7,(.row none 4 (l.map aDk))),(8,(eI .i64 (l.length : Int))),(9,(eI .i64 x9))]) [some ⟨4,a9.map eB⟩]) (n := N) ⟨0,[],hL2,(zW 4 [0])⟩ (by rintro s h ⟨_,_,h0,_⟩; simp [dC] at h0) ?_
 rintro m2 s h ⟨x9,a9,hr2,hg⟩
 refine AB.ghost hg ?_
 clear hg hL2
 rw [dC] at hr2
 refine zz ?_
 refine AB.seq ?_
 refine zk hr2 rfl (fun h1 hr2 => ?_) (fun h1 hr2 => ?_)
 ·refine zz ?_
  refine AB.seq_g fun K3 hK3 hG3 => ?_
  have J3 : ∀ (jM : List Bool),jP N l x9 (dC N l m2) jM = some bO → K3 (aK 47 [(3,(.sl 0 0 jM.length 1 false)),(7,(.row none 4 (l.map aDk))),(8,(eI .i64 (l.length : Int))),(9,(eI .i64 x9))]) [some ⟨4,jM.map eB⟩] := by
   intro jM hr2
   unfold jP at hr2
   refine hK3 _ _ ?_
   refine zz ?_
   exact ⟨IntKind.i64.wrap (x9 + 1),jM,hr2,(zG [0])⟩
  refine AB.block ?_
  obtain ⟨b4,h_2,hr2⟩ := aC hr2
  refine zz ?_
  refine AB.block ?_
  refine zz ?_
  refine zk hr2 rfl (fun h3 hr2 => ?_) (fun h3 hr2 => ?_)
  ·obtain ⟨c5,h_4,hr2⟩ := aC hr2
   refine zz ?_
   exact hG3 _ _ _ _ (zG [3]) (J3 c5 hr2)
  ·refine zz ?_
   refine zk hr2 rfl (fun h5 hr2 => ?_) (fun h5 hr2 => ?_)
   ·refine AB.seq ?_
    refine AB.seq_g fun K4 hK4 hG4 => ?_
    have J4 : ∀ (kL : Bool),oW N l x9 a9 (dC N l m2) kL = some bO → K4 (aK 47 [(3,(.sl 0 0 a9.length 1 false)),(6,(eI .i64 (IntKind.i64.wrap ((a9.length : Int) - 1)))),(7,(.row none 4 (l.map aDk))),(8,(eI .i64 (l.length : Int))),(9,(eI .i64 x9)),(32,(eB kL))]) [some ⟨4,a9.map eB⟩] := by
     intro kL hr2
     unfold oW at hr2
     refine hK4 _ _ ?_
     refine zk hr2 rfl (fun h6 hr2 => ?_) (fun h6 hr2 => ?_)
     ·refine zz ?_
      obtain rfl := sj hr2
      obtain rfl := sj hr
      exact bL Tryz.results53 []
     ·obtain ⟨x35,h_7,hr2⟩ := aC hr2
      refine zz ?_
      exact hG3 _ _ _ _ (qH [0]) (J3 (a9.set (Int.toNat (IntKind.i64.wrap ((a9.length : Int) - 1))) true) hr2)
    rcases Bool.eq_false_or_eq_true (decide ((IntKind.i64.wrap ((a9.length : Int) - 1)) < 0)) with h8 | h8
    ·replace hr2 := eO hr2 h8
     refine xr ?_
     refine zz ?_
     exact hG4 _ _ _ _ (zG [0]) (J4 true hr2)
    ·replace hr2 := eP hr2 h8
     obtain ⟨j4,h_9,hr2⟩ := aC hr2
     refine xr ?_
     refine zz ?_
     exact hG4 _ _ _ _ (zG [0]) (J4 j4 hr2)
   ·refine zz ?_
    refine zk hr2 rfl (fun h10 hr2 => ?_) (fun h10 hr2 => ?_)
    ·refine AB.seq ?_
     refine zz ?_
     refine zk hr2 rfl (fun h11 hr2 => ?_) (fun h11 hr2 => ?_)
     ·refine zz ?_
      obtain rfl := sj hr2
      obtain rfl := sj hr
      exact bL Tryz.results53 []
     ·obtain ⟨x42,h_12,hr2⟩ := aC hr2
      refine zz ?_
      refine xw (v := (.sl 0 0 x42.length 1 false)) (eT rfl rfl rfl (aLk (l := a9) rfl aOW ti4 rfl rfl rfl h_12)) ?_
      refine OpsX.ghost (Ghost.cutM (t := 42) (E := eB) (l := a9) (h' := [some ⟨4,x42.map eB⟩,some ⟨85,[(eI .i64 b4.Code),(.row none 1 (b4.Data.map (eI .u8))),(eI .i64 b4.M),(eI .i64 b4.N)]⟩]) rfl rfl h_12 rfl) ?_
      refine zz ?_
      exact hG3 _ _ _ _ (zG [0]) (J3 x42 hr2)
    ·refine zz ?_
     exact hG3 _ _ _ _ (zG [0]) (J3 a9 hr2)
 ·refine zz ?_
  obtain rfl := sj hr2
  refine zz ?_
  exact hG1 _ _ _ _ (zG [0]) (J1 a9 hr)
theorem aFc {N : Nat} {stack : List (List Int)} {r : Bool} (hr : rM N stack = some r) :
  Vm.Fn Tryz.prog 54 [] [(.row none 1 (stack.map (eL 1 (eI .u8))))] (eB r) [] := by
 refine zf Tryz.func54 Tryz.ntmps54 ?_
 unfold rM at hr
 refine zz ?_
 refine AB.seq ?_
 refine zz ?_
 refine zk hr rfl (fun h1 hr => ?_) (fun h1 hr => ?_)
 ·refine zz ?_
  obtain rfl := sj hr
  exact bL Tryz.results54 []
 ·refine zz ?_
  refine AB.seq_g fun K1 hK1 hG1 => ?_
  have J1 : vS N = some r → K1 (aK 18 []) [] := by
   intro hr
   unfold vS at hr
   refine hK1 _ _ ?_
   refine zz ?_
   obtain rfl := sj hr
   exact bL Tryz.results54 []
  obtain ⟨bO,hL2,hr⟩ := aC hr
  refine zz ?_
  refine AB.block <| AB.loopN (fun m s h => ∃ (bV : Int),gB N stack m bV = some bO ∧ Ghost 0 s h (aK 18 [(8,(.row none 1 (stack.map (eL 1 (eI .u8))))),(9,(eI .i64 (stack.length : Int))),(10,(eI .i64 bV))]) []) (n := N) ⟨0,hL2,(zG [])⟩ (by rintro s h ⟨_,h0,_⟩; simp [gB] at h0) ?_
  rintro m2 s h ⟨bV,hr2,hg⟩
  refine AB.ghost hg ?_
  clear hg hL2
  rw [gB] at hr2
  refine zz ?_
  refine AB.seq ?_
  refine zk hr2 rfl (fun h2 hr2 => ?_) (fun h2 hr2 => ?_)
  ·refine zz ?_
   refine AB.seq <| AB.block ?_
   obtain ⟨eM,h_3,hr2⟩ := aC hr2
   refine zz ?_
   refine zk hr2 rfl (fun h4 hr2 => ?_) (fun h4 hr2 => ?_)
   ·refine zz ?_
    obtain rfl := sj hr2
    obtain rfl := sj hr
    exact bL Tryz.results54 []
   ·refine zz ?_
    exact ⟨IntKind.i64.wrap (bV + 1),hr2,(zG [])⟩
  ·refine zz ?_
   obtain rfl := sj hr2
   refine zz ?_
   exact hG1 _ _ _ _ (zG []) (J1 hr)
theorem xE {N : Nat} {stack : List (List Int)} {r : (List (List Int))} (hr : pF N stack = some r) :
  Vm.Fn Tryz.prog 55 [] [(.row none 1 (stack.map (eL 1 (eI .u8))))] (.sl 0 0 r.length 1 false) [some ⟨22,r.map (eL 1 (eI .u8))⟩] := by
 refine zf Tryz.func55 Tryz.ntmps55 ?_
 unfold pF at hr
 refine zz ?_
 refine AB.seq_g fun K1 hK1 hG1 => ?_
 have J1 : ∀ (l0 : List (List Int)),sB N l0 = some r → K1 (aK 20 [(3,(.sl 0 0 l0.length 1 false))]) [some ⟨22,l0.map (eL 1 (eI .u8))⟩] := by
  intro l0 hr
  unfold sB at hr
  refine hK1 _ _ ?_
  refine zz ?_
  obtain rfl := sj hr
  exact bL Tryz.results55 [0]
 obtain ⟨bO,hL2,hr⟩ := aC hr
 refine zz ?_
 refine AB.block <| AB.loopN (fun m s h => ∃ (x8 : Int) (a9 : List (List Int)),jQ N stack m x8 a9 = some bO ∧ Ghost 0 s h (aK 20 [(3,(.sl 0 0 a9.length 1 false)),(6,(.row none 1 (stack.map (eL 1 (eI .u8))))),(7,(eI .i64 (stack.length : Int))),(8,(eI .i64 x8))]) [some ⟨22,a9.map (eL 1 (eI .u8))⟩]) (n := N) ⟨0,[],hL2,(zW 22 [0])⟩ (by rintro s h ⟨_,_,h0,_⟩; simp [jQ] at h0) ?_
 rintro m2 s h ⟨x8,a9,hr2,hg⟩
 refine AB.ghost hg ?_
 clear hg hL2
 rw [jQ] at hr2
 refine zz ?_
 refine AB.seq ?_
 refine zk hr2 rfl (fun h1 hr2 => ?_) (fun h1 hr2 => ?_)
 ·refine zz ?_
  refine AB.seq <| AB.block ?_
  obtain ⟨bV,h_2,hr2⟩ := aC hr2
  obtain ⟨x15,h_3,hr2⟩ := aC hr2
  obtain ⟨x17,h_4,hr2⟩ := aC hr2
  refine zz ?_
  refine xV (aDT h_3) [] [1] ?_
  refine OpsX.ghost (zv 2) ?_
  refine zz ?_
  exact ⟨IntKind.i64.wrap (x8 + 1),x17,hr2,(zG [4])⟩
 ·refine zz ?_
  obtain rfl := sj hr2
  refine zz ?_
  exact hG1 _ _ _ _ (zG [0]) (J1 a9 hr)
theorem aB1 {N : Nat} {aG : List Int} {aJ : Int} {aO : Int} {aL : List (List Int)} {aI : List aN} {aW : Int} {r : Bool} (hr : mP N aG aJ aO aL aI aW = some r) :
  Vm.Fn Tryz.prog 82 [some ⟨105,(bG (eI .u8) aG [(eI .i64 aJ),(eI .i64 aO),(.sl 1 0 aL.length 1 false),(.sl 2 0 aI.length 2 true),(eI .i64 aW)])⟩,some ⟨22,aL.map (eL 1 (eI .u8))⟩,some ⟨127,aI.flatMap aU⟩] [(.ptr 0 0)] (eB r) [some ⟨105,(bG (eI .u8) aG [(eI .i64 aJ),(eI .i64 aO),(.sl 1 0 aL.length 1 false),(.sl 2 0 aI.length 2 true),(eI .i64 aW)])⟩,some ⟨22,aL.map (eL 1 (eI .u8))⟩,some ⟨127,aI.flatMap aU⟩] := by
 refine zf Tryz.func82 Tryz.ntmps82 ?_
 unfold mP at hr
 refine zz ?_
 refine AB.seq ?_
 refine zz ?_
 refine zk hr rfl (fun h1 hr => ?_) (fun h1 hr => ?_)
 ·refine zz ?_
  obtain rfl := sj hr
  exact bL Tryz.results82 [0,1,2]
 ·refine zz ?_
  refine AB.seq ?_
  obtain ⟨dX,h_2,hr⟩ := aC hr
  refine AB.rs mixed [] [] [[0,1,2,3,4,5,6,7,8,9,10,11,12,13]] ?_
  refine zz ?_
  refine xw (v := (.agg [(eB dX.outer),(eB dX.taken)])) (bW rfl (aOZ (C := aU) (K := 2) (fun _ => rfl) rfl h_2 (vI (ds := [(eB dX.outer),(eB dX.taken)]) aBi rfl zl rfl))) ?_
  refine zz ?_
  refine AB.seq_g fun K1 hK1 hG1 => ?_
  have J1 : ∀ (x2 : Bool),iB N aG aJ aO aL aI aW x2 = some r → K1 (aK 28 [(2,(eB x2))]) [some ⟨105,(bG (eI .u8) aG [(eI .i64 aJ),(eI .i64 aO),(.sl 1 0 aL.length 1 false),(.sl 2 0 aI.length 2 true),(eI .i64 aW)])⟩,some ⟨22,aL.map (eL 1 (eI .u8))⟩,some ⟨127,aI.flatMap aU⟩] := by
   intro x2 hr
   unfold iB at hr
   refine hK1 _ _ ?_
   refine zz ?_
   obtain rfl := sj hr
   exact bL Tryz.results82 [0,1,2]
  rcases Bool.eq_false_or_eq_true dX.outer with h3 | h3
  ·replace hr := eO hr h3
   refine xr ?_
   refine zz ?_
   exact hG1 _ _ _ _ (zG [0,1,2]) (J1 dX.taken hr)
  ·replace hr := eP hr h3
   refine xr ?_
   refine zz ?_
   exact hG1 _ _ _ _ (zG [0,1,2]) (J1 false hr)
theorem aF1 {N : Nat} {aY : Int} {bR : List Int} {dS : Int} {dL : Int} {r : Int} (hr : vE N aY bR dS dL = some r) :
  Vm.Fn Tryz.prog 83 [] [(.agg [(eI .i64 aY),(.row none 1 (bR.map (eI .u8))),(eI .i64 dS),(eI .i64 dL)])] (eI .i64 r) [] := by
 refine zf Tryz.func83 Tryz.ntmps83 ?_
 unfold vE at hr
 refine zz ?_
 refine AB.seq ?_
 refine zz ?_
 refine AB.block ?_
 refine zz ?_
 refine zk hr rfl (fun h1 hr => ?_) (fun h1 hr => ?_)
 ·refine zz ?_
  obtain rfl := sj hr
  exact bL Tryz.results83 []
 ·refine zz ?_
  refine zk hr rfl (fun h2 hr => ?_) (fun h2 hr => ?_)
  ·refine zz ?_
   obtain rfl := sj hr
   exact bL Tryz.results83 []
  ·refine zz ?_
   refine zk hr rfl (fun h3 hr => ?_) (fun h3 hr => ?_)
   ·refine zz ?_
    obtain rfl := sj hr
    exact bL Tryz.results83 []
   ·refine zz ?_
    obtain rfl := sj hr
    exact bL Tryz.results83 []
theorem aGY {N : Nat} {aY : Int} {bR : List Int} {dS : Int} {dL : Int} {r : Int} (hr : u5 N aY bR dS dL = some r) :
  Vm.Fn Tryz.prog 84 [] [(.agg [(eI .i64 aY),(.row none 1 (bR.map (eI .u8))),(eI .i64 dS),(eI .i64 dL)])] (eI .i64 r) [] := by
 refine zf Tryz.func84 Tryz.ntmps84 ?_
 unfold u5 at hr
 refine zz ?_
 refine AB.seq ?_
 refine zz ?_
 refine AB.block ?_
 refine AB.seq_g fun K1 hK1 hG1 => ?_
 have J1 : ∀ (x5 : Bool),kW N aY bR dS dL x5 = some r → K1 (aK 19 [(1,(.ptr 0 0)),(4,(eI .i64 aY)),(5,(eB x5))]) [some ⟨85,[(eI .i64 aY),(.row none 1 (bR.map (eI .u8))),(eI .i64 dS),(eI .i64 dL)]⟩] := by
  intro x5 hr
  unfold kW at hr
  refine hK1 _ _ ?_
  refine zk hr rfl (fun h1 hr => ?_) (fun h1 hr => ?_)
  ·refine zz ?_
   obtain rfl := sj hr
   exact bL Tryz.results84 []
  ·refine AB.seq_g fun K2 hK2 hG2 => ?_
   have J2 : ∀ (bV : Bool),mY N aY bR dS dL bV = some r → K2 (aK 19 [(1,(.ptr 0 0)),(4,(eI .i64 aY)),(10,(eB bV))]) [some ⟨85,[(eI .i64 aY),(.row none 1 (bR.map (eI .u8))),(eI .i64 dS),(eI .i64 dL)]⟩] := by
    intro bV hr
    unfold mY at hr
    refine hK2 _ _ ?_
    refine zk hr rfl (fun h2 hr => ?_) (fun h2 hr => ?_)
    ·refine zz ?_
     obtain rfl := sj hr
     exact bL Tryz.results84 []
    ·refine zz ?_
     refine zk hr rfl (fun h3 hr => ?_) (fun h3 hr => ?_)
     ·refine zz ?_
      obtain rfl := sj hr
      exact bL Tryz.results84 []
     ·refine zz ?_
      obtain rfl := sj hr
      exact bL Tryz.results84 []
   refine zz ?_
   refine zk hr rfl (fun h4 hr => ?_) (fun h4 hr => ?_)
   ·refine zz ?_
    exact hG2 _ _ _ _ (zG [0]) (J2 (aY == 4) hr)
   ·refine zz ?_
    refine zk hr rfl (fun h5 hr => ?_) (fun h5 hr => ?_)
    ·refine zz ?_
     exact hG2 _ _ _ _ (zG [0]) (J2 (aY == 5) hr)
    ·refine zz ?_
     exact hG2 _ _ _ _ (zG [0]) (J2 (aY == 10) hr)
 refine zz ?_
 refine zk hr rfl (fun h6 hr => ?_) (fun h6 hr => ?_)
 ·refine zz ?_
  exact hG1 _ _ _ _ (zG [0]) (J1 (aY == 1) hr)
 ·refine zz ?_
  refine zk hr rfl (fun h7 hr => ?_) (fun h7 hr => ?_)
  ·refine zz ?_
   exact hG1 _ _ _ _ (zG [0]) (J1 (aY == 15) hr)
  ·refine zz ?_
   refine zk hr rfl (fun h8 hr => ?_) (fun h8 hr => ?_)
   ·refine zz ?_
    exact hG1 _ _ _ _ (zG [0]) (J1 (aY == 16) hr)
   ·refine zz ?_
    exact hG1 _ _ _ _ (zG [0]) (J1 (aY == 17) hr)
theorem dO {N : Nat} {aG : List Int} {aJ : Int} {aO : Int} {aL : List (List Int)} {aI : List aN} {aW : Int} {r : (List Int)} (hr : cF N aG aJ aO aL aI aW = some r) :
  Vm.Fn Tryz.prog 85 [some ⟨105,(bG (eI .u8) aG [(eI .i64 aJ),(eI .i64 aO),(.sl 1 0 aL.length 1 false),(.sl 2 0 aI.length 2 true),(eI .i64 aW)])⟩,some ⟨22,aL.map (eL 1 (eI .u8))⟩,some ⟨127,aI.flatMap aU⟩] [(.ptr 0 0)] (.row none 1 (r.map (eI .u8))) [some ⟨105,(bG (eI .u8) aG [(eI .i64 aJ),(eI .i64 aO),(.sl 1 0 aL.length 1 false),(.sl 2 0 aI.length 2 true),(eI .i64 aW)])⟩,some ⟨22,aL.map (eL 1 (eI .u8))⟩,some ⟨127,aI.flatMap aU⟩] := by
 refine zf Tryz.func85 Tryz.ntmps85 ?_
 unfold cF at hr
 refine zz ?_
 refine AB.seq ?_
 obtain ⟨eD,h_1,hr⟩ := aC hr
 refine AB.rs mixed [] [] [[0,1,2,3,4,5,6,7,8,9,10,11,12]] ?_
 refine zz ?_
 obtain rfl := sj hr
 exact bL Tryz.results85 [0,1,2]
theorem tV {N : Nat} {iX : List Int} {r : Bool} (hr : mI N iX = some r) :
  Vm.Fn Tryz.prog 36 [] [(.row none 1 (iX.map (eI .u8)))] (eB r) [] := by
 refine zf Tryz.func36 Tryz.ntmps36 ?_
 unfold mI at hr
 refine zz ?_
 refine AB.seq_g fun K1 hK1 hG1 => ?_
 have J1 : yD N = some r → K1 (aK 14 []) [] := by
  intro hr
  unfold yD at hr
  refine hK1 _ _ ?_
  refine zz ?_
  obtain rfl := sj hr
  exact bL Tryz.results36 []
 obtain ⟨bO,hL2,hr⟩ := aC hr
 refine zz ?_
 refine AB.block <| AB.loopN (fun m s h => ∃ (x7 : Int),i5 N iX m x7 = some bO ∧ Ghost 0 s h (aK 14 [(5,(.row none 1 (iX.map (eI .u8)))),(6,(eI .i64 (iX.length : Int))),(7,(eI .i64 x7))]) []) (n := N) ⟨0,hL2,(zG [])⟩ (by rintro s h ⟨_,h0,_⟩; simp [i5] at h0) ?_
 rintro m2 s h ⟨x7,hr2,hg⟩
 refine AB.ghost hg ?_
 clear hg hL2
 rw [i5] at hr2
 refine zz ?_
 refine AB.seq ?_
 refine zk hr2 rfl (fun h1 hr2 => ?_) (fun h1 hr2 => ?_)
 ·refine zz ?_
  refine AB.seq <| AB.block ?_
  obtain ⟨x9,h_2,hr2⟩ := aC hr2
  refine zz ?_
  refine zk hr2 rfl (fun h3 hr2 => ?_) (fun h3 hr2 => ?_)
  ·refine zz ?_
   obtain rfl := sj hr2
   obtain rfl := sj hr
   exact bL Tryz.results36 []
  ·refine zz ?_
   exact ⟨IntKind.i64.wrap (x7 + 1),hr2,(zG [])⟩
 ·refine zz ?_
  obtain rfl := sj hr2
  refine zz ?_
  exact hG1 _ _ _ _ (zG []) (J1 hr)
theorem l9 {N : Nat} {aG : List Int} {aJ : Int} {aO : Int} {aL : List (List Int)} {aI : List aN} {aW : Int} {vn : Int} {r : (List Int) × Int × Int × (List (List Int)) × (List aN) × Int} (hr : dQ N aG aJ aO aL aI aW vn = some r) :
  Vm.Fn Tryz.prog 86 [some ⟨105,(bG (eI .u8) aG [(eI .i64 aJ),(eI .i64 aO),(.sl 1 0 aL.length 1 false),(.sl 2 0 aI.length 2 true),(eI .i64 aW)])⟩,some ⟨22,aL.map (eL 1 (eI .u8))⟩,some ⟨127,aI.flatMap aU⟩] [(.ptr 0 0),(eI .i64 vn)] (.tup []) [some ⟨105,(bG (eI .u8) r.1 [(eI .i64 r.2.1),(eI .i64 r.2.2.1),(.sl 3 0 r.2.2.2.1.length 1 false),(.sl 4 0 r.2.2.2.2.1.length 2 true),(eI .i64 r.2.2.2.2.2)])⟩,none,none,some ⟨22,r.2.2.2.1.map (eL 1 (eI .u8))⟩,some ⟨127,r.2.2.2.2.1.flatMap aU⟩] := by
 refine zf Tryz.func86 Tryz.ntmps86 ?_
 unfold dQ at hr
 obtain ⟨x16,h_1,hr⟩ := aC hr
 refine AB.rs mixed [] [] [[0,1,2,3,4,5,6,7,8,9,10,11,12],[13,14,15]] ?_
 refine zz ?_
 refine xw (v := (.sl 1 0 x16.length 1 false)) (eT rfl rfl rfl (aLk (l := aL) rfl w8 eU rfl rfl rfl h_1)) ?_
 refine zz ?_
 refine ⟨_,_,(Ghost.cutM (t := 16) (E := (eL 1 (eI .u8))) (l := aL) (h' := [some ⟨105,(bG (eI .u8) aG [(eI .i64 aJ),(eI .i64 aO),(.sl 1 0 aL.length 1 false),(.sl 2 0 aI.length 2 true),(eI .i64 aW)])⟩,some ⟨22,x16.map (eL 1 (eI .u8))⟩,some ⟨127,aI.flatMap aU⟩]) rfl rfl h_1 rfl), ?_⟩
 refine zz ?_
 obtain rfl := sj hr
 exact zn0 Tryz.results86 (zG [0,1,2,1,2])
theorem qW {N : Nat} {aG : List Int} {aJ : Int} {aO : Int} {aL : List (List Int)} {aI : List aN} {aW : Int} {iX : List Int} {r : Int × (List Int) × Int × Int × (List (List Int)) × (List aN) × Int} (hr : gH N aG aJ aO aL aI aW iX = some r) :
  Vm.Fn Tryz.prog 108 [some ⟨105,(bG (eI .u8) aG [(eI .i64 aJ),(eI .i64 aO),(.sl 1 0 aL.length 1 false),(.sl 2 0 aI.length 2 true),(eI .i64 aW)])⟩,some ⟨22,aL.map (eL 1 (eI .u8))⟩,some ⟨127,aI.flatMap aU⟩] [(.ptr 0 0),(.row none 1 (iX.map (eI .u8)))] (eI .i64 r.1) [some ⟨105,(bG (eI .u8) r.2.1 [(eI .i64 r.2.2.1),(eI .i64 r.2.2.2.1),(.sl 3 0 r.2.2.2.2.1.length 1 false),(.sl 4 0 r.2.2.2.2.2.1.length 2 true),(eI .i64 r.2.2.2.2.2.2)])⟩,none,none,some ⟨22,r.2.2.2.2.1.map (eL 1 (eI .u8))⟩,some ⟨127,r.2.2.2.2.2.1.flatMap aU⟩] := by
 refine zf Tryz.func108 Tryz.ntmps108 ?_
 unfold gH at hr
 refine zz ?_
 refine AB.seq ?_
 refine zz ?_
 refine zk hr rfl (fun h1 hr => ?_) (fun h1 hr => ?_)
 ·refine zz ?_
  obtain rfl := sj hr
  exact bL Tryz.results108 [0,1,2,1,2]
 ·obtain ⟨x18,h_2,hr⟩ := aC hr
  refine zz ?_
  obtain rfl := sj hr
  exact bL Tryz.results108 [0,1,2,4,2]
theorem aHa {N : Nat} {va : List Int} {b : List Int} {r : Bool} (hr : aAE N va b = some r) :
  Vm.Fn Tryz.prog 111 [] [(.row none 1 (va.map (eI .u8))),(.row none 1 (b.map (eI .u8)))] (eB r) [] := by
 refine zf Tryz.func111 Tryz.ntmps111 ?_
 unfold aAE at hr
 refine zz ?_
 refine xw (v := (eS (aBg va))) (sX rfl (aOV eU ti9 gX (aG6 (fun _ => rfl)))) ?_
 refine zz ?_
 refine xw (v := (eS (aBg b))) (sX rfl (aOV eU ti9 gX (aG6 (fun _ => rfl)))) <| xw (xZ rfl rfl (aNi ..)) ?_
 refine zz ?_
 obtain rfl := sj hr
 exact bL Tryz.results111 []
theorem aAc {N : Nat} {vn : Int} {r : (List Int)} (hr : jC N vn = some r) :
  Vm.Fn Tryz.prog 24 [] [(eI .u32 vn)] (.sl 0 0 r.length 1 false) [some ⟨5,r.map (eI .u8)⟩] := by
 refine zf Tryz.func24 Tryz.ntmps24 ?_
 unfold jC at hr
 refine zz ?_
 refine AB.seq_g fun K1 hK1 hG1 => ?_
 have J1 : ∀ (l0 : List Int),vO N l0 = some r → K1 (aK 14 [(3,(.sl 0 0 l0.length 1 false))]) [some ⟨5,l0.map (eI .u8)⟩] := by
  intro l0 hr
  unfold vO at hr
  refine hK1 _ _ ?_
  refine zz ?_
  obtain rfl := sj hr
  exact bL Tryz.results24 [0]
 obtain ⟨bO,hL2,hr⟩ := aC hr
 refine AB.block <| AB.loopN (fun m s h => ∃ (m9 : Int) (a9 : List Int),fN N m m9 a9 = some bO ∧ Ghost 0 s h (aK 14 [(0,(eI .u32 m9)),(3,(.sl 0 0 a9.length 1 false))]) [some ⟨5,a9.map (eI .u8)⟩]) (n := N) ⟨vn,[],hL2,(zW 5 [0])⟩ (by rintro s h ⟨_,_,h0,_⟩; simp [fN] at h0) ?_
 rintro m2 s h ⟨m9,a9,hr2,hg⟩
 refine AB.ghost hg ?_
 clear hg hL2
 rw [fN] at hr2
 refine AB.seq ?_
 refine zz ?_
 refine zk hr2 rfl (fun h1 hr2 => ?_) (fun h1 hr2 => ?_)
 ·refine zz ?_
  refine AB.seq <| AB.block ?_
  obtain ⟨eM,h_2,hr2⟩ := aC hr2
  obtain ⟨x7,h_3,hr2⟩ := aC hr2
  refine zz ?_
  exact ⟨x7,eM,hr2,(zG [2])⟩
 ·refine zz ?_
  obtain rfl := sj hr2
  refine zz ?_
  exact hG1 _ _ _ _ (zG [0]) (J1 a9 hr)
theorem aAq {N : Nat} {v : Bool} {r : (List Int)} (hr : nS N v = some r) :
  Vm.Fn Tryz.prog 110 [] [(eB v)] (.sl 0 0 r.length 1 false) [some ⟨5,r.map (eI .u8)⟩] := by
 refine zf Tryz.func110 Tryz.ntmps110 ?_
 unfold nS at hr
 refine zz ?_
 refine AB.seq ?_
 refine zz ?_
 refine zk hr rfl (fun h1 hr => ?_) (fun h1 hr => ?_)
 ·obtain ⟨x4,h_2,hr⟩ := aC hr
  refine zz ?_
  refine zc (aAc h_2) [] ?_
  refine zz ?_
  obtain rfl := sj hr
  exact bL Tryz.results110 [0]
 ·obtain ⟨x5,h_3,hr⟩ := aC hr
  refine zz ?_
  refine zc (aAc h_3) [] ?_
  refine zz ?_
  obtain rfl := sj hr
  exact bL Tryz.results110 [0]
theorem j6 {N : Nat} {aG : List Int} {aJ : Int} {aO : Int} {aL : List (List Int)} {aI : List aN} {aW : Int} {vn : Int} {iX : List Int} {r : (List Int) × Int × Int × (List (List Int)) × (List aN) × Int} (hr : cU N aG aJ aO aL aI aW vn iX = some r) :
  Vm.Fn Tryz.prog 109 [some ⟨105,(bG (eI .u8) aG [(eI .i64 aJ),(eI .i64 aO),(.sl 1 0 aL.length 1 false),(.sl 2 0 aI.length 2 true),(eI .i64 aW)])⟩,some ⟨22,aL.map (eL 1 (eI .u8))⟩,some ⟨127,aI.flatMap aU⟩] [(.ptr 0 0),(eI .i64 vn),(.row none 1 (iX.map (eI .u8)))] (.tup []) [some ⟨105,(bG (eI .u8) r.1 [(eI .i64 r.2.1),(eI .i64 r.2.2.1),(.sl 3 0 r.2.2.2.1.length 1 false),(.sl 4 0 r.2.2.2.2.1.length 2 true),(eI .i64 r.2.2.2.2.2)])⟩,none,none,some ⟨22,r.2.2.2.1.map (eL 1 (eI .u8))⟩,some ⟨127,r.2.2.2.2.1.flatMap aU⟩] := by
 refine zf Tryz.func109 Tryz.ntmps109 ?_
 unfold cU at hr
 obtain ⟨x8,h_1,hr⟩ := aC hr
 refine zz ?_
 refine zc (l9 h_1) [0,1,2] ?_
 obtain ⟨x16,h_2,hr⟩ := aC hr
 refine zz ?_
 obtain rfl := sj hr
 exact zn0 Tryz.results109 (zG [0,1,2,6,4])
theorem aLA {N : Nat} {vn : Int} {r : (List Int)} (hr : aC4 N vn = some r) :
  Vm.Fn Tryz.prog 106 [] [(eI .u64 vn)] (.sl 0 0 r.length 1 false) [some ⟨5,r.map (eI .u8)⟩] := by
 refine zf Tryz.func106 Tryz.ntmps106 ?_
 unfold aC4 at hr
 obtain ⟨x15,h_1,hr⟩ := aC hr
 refine zz ?_
 refine xw (v := (.sl 0 0 x15.length 1 false)) (h' := [some ⟨5,x15.map (eI .u8)⟩]) (aLy rfl rfl (mkL (E := (eI .u8)) (y := 0) eU gX ⟨zl,rfl,rfl⟩ rfl rfl rfl h_1 rfl rfl)) ?_
 obtain ⟨x17,h_2,hr⟩ := aC hr
 refine zz ?_
 refine AB.seq_g fun K1 hK1 hG1 => ?_
 have J1 : ∀ (l0 : List Int),aDA N l0 = some r → K1 (aK 33 [(4,(.sl 0 0 l0.length 1 false))]) [some ⟨5,l0.map (eI .u8)⟩] := by
  intro l0 hr
  unfold aDA at hr
  refine hK1 _ _ ?_
  refine zz ?_
  obtain rfl := sj hr
  exact bL Tryz.results106 [0]
 obtain ⟨bO,hL2,hr⟩ := aC hr
 refine zz ?_
 refine AB.block <| AB.loopN (fun m s h => ∃ (x18 : Int) (a9 : List Int),qK N vn m x18 a9 = some bO ∧ Ghost 0 s h (aK 33 [(0,(eI .u64 vn)),(4,(.sl 0 0 a9.length 1 false)),(18,(eI .i64 x18))]) [some ⟨5,a9.map (eI .u8)⟩]) (n := N) ⟨0,x15.set (Int.toNat 0) 128,hL2,(qH [0])⟩ (by rintro s h ⟨_,_,h0,_⟩; simp [qK] at h0) ?_
 rintro m2 s h ⟨x18,a9,hr2,hg⟩
 refine AB.ghost hg ?_
 clear hg hL2
 rw [qK] at hr2
 refine zz ?_
 refine AB.seq ?_
 refine zk hr2 rfl (fun h3 hr2 => ?_) (fun h3 hr2 => ?_)
 ·refine zz ?_
  refine AB.seq <| AB.block ?_
  obtain ⟨x27,h_4,hr2⟩ := aC hr2
  obtain ⟨j4,h_5,hr2⟩ := aC hr2
  refine zz ?_
  exact ⟨IntKind.i64.wrap (x18 + 1),j4,hr2,(zG [2])⟩
 ·refine zz ?_
  obtain rfl := sj hr2
  refine zz ?_
  exact hG1 _ _ _ _ (zG [0]) (J1 a9 hr)
theorem aGc {N : Nat} {parts : List (List Int)} {r : (List Int)} (hr : aBA N parts = some r) :
  Vm.Fn Tryz.prog 80 [] [(.row none 1 (parts.map (eL 1 (eI .u8))))] (.sl 0 0 r.length 1 false) [some ⟨5,r.map (eI .u8)⟩] := by
 refine zf Tryz.func80 Tryz.ntmps80 ?_
 unfold aBA at hr
 refine zz ?_
 refine AB.seq_g fun K1 hK1 hG1 => ?_
 have J1 : ∀ (l0 : List Int),aDP N l0 = some r → K1 (aK 17 [(3,(.sl 0 0 l0.length 1 false))]) [some ⟨5,l0.map (eI .u8)⟩] := by
  intro l0 hr
  unfold aDP at hr
  refine hK1 _ _ ?_
  refine zz ?_
  obtain rfl := sj hr
  exact bL Tryz.results80 [0]
 obtain ⟨bO,hL2,hr⟩ := aC hr
 refine zz ?_
 refine AB.block <| AB.loopN (fun m s h => ∃ (x8 : Int) (a9 : List Int),qE N parts m x8 a9 = some bO ∧ Ghost 0 s h (aK 17 [(3,(.sl 0 0 a9.length 1 false)),(6,(.row none 1 (parts.map (eL 1 (eI .u8))))),(7,(eI .i64 (parts.length : Int))),(8,(eI .i64 x8))]) [some ⟨5,a9.map (eI .u8)⟩]) (n := N) ⟨0,[],hL2,(zW 5 [0])⟩ (by rintro s h ⟨_,_,h0,_⟩; simp [qE] at h0) ?_
 rintro m2 s h ⟨x8,a9,hr2,hg⟩
 refine AB.ghost hg ?_
 clear hg hL2
 rw [qE] at hr2
 refine zz ?_
 refine AB.seq ?_
 refine zk hr2 rfl (fun h1 hr2 => ?_) (fun h1 hr2 => ?_)
 ·refine zz ?_
  refine AB.seq <| AB.block ?_
  obtain ⟨bV,h_2,hr2⟩ := aC hr2
  obtain ⟨bH,h_3,hr2⟩ := aC hr2
  refine zz ?_
  exact ⟨IntKind.i64.wrap (x8 + 1),bH,hr2,(zG [1])⟩
 ·refine zz ?_
  obtain rfl := sj hr2
  refine zz ?_
  exact hG1 _ _ _ _ (zG [0]) (J1 a9 hr)
theorem tQ {N : Nat} {x : Int} {k : Int} {r : Int} (hr : i8 N x k = some r) :
  Vm.Fn Tryz.prog 129 [] [(eI .u32 x),(eI .i64 k)] (eI .u32 r) [] := by
 refine zf Tryz.func129 Tryz.ntmps129 ?_
 unfold i8 at hr
 obtain ⟨b4,h_1,hr⟩ := aC hr
 obtain ⟨x15,h_2,hr⟩ := aC hr
 refine zz ?_
 obtain rfl := sj hr
 exact bL Tryz.results129 []
theorem j9 {N : Nat} {x : Int} {vn : Int} {r : Int} (hr : cX N x vn = some r) :
  Vm.Fn Tryz.prog 124 [] [(eI .u32 x),(eI .i64 vn)] (eI .u32 r) [] := by
 refine zf Tryz.func124 Tryz.ntmps124 ?_
 unfold cX at hr
 obtain ⟨x8,h_1,hr⟩ := aC hr
 refine zz ?_
 refine xw (aJ6 rfl (aMh ..)) <| xp (tQ h_1) ?_
 refine zz ?_
 obtain rfl := sj hr
 exact bL Tryz.results124 []
theorem aG1 {N : Nat} {block : List Int} {r : (List Int)} (hr : oK N block = some r) :
  Vm.Fn Tryz.prog 123 [] [(.agg (block.map (eI .u8)))] (.agg (r.map (eI .u32))) [] := by
 refine zf Tryz.func123 Tryz.ntmps123 ?_
 unfold oK at hr
 refine zz ?_
 refine AB.seq_g fun K1 hK1 hG1 => ?_
 have J1 : ∀ (l1 : List Int),qC N l1 = some r → K1 (aK 85 [(2,(.ptr 0 0)),(3,(.ptr 1 0))]) [some ⟨164,(List.replicate 64 0).map (eI .u32)⟩,some ⟨164,l1.map (eI .u32)⟩] := by
  intro l1 hr
  unfold qC at hr
  refine hK1 _ _ ?_
  refine AB.seq_g fun K2 hK2 hG2 => ?_
  have J2 : ∀ (cW : List Int),pU N cW = some r → K2 (aK 85 [(2,(.ptr 0 0)),(3,(.ptr 1 0))]) [some ⟨164,(List.replicate 64 0).map (eI .u32)⟩,some ⟨164,cW.map (eI .u32)⟩] := by
   intro cW hr
   unfold pU at hr
   refine hK2 _ _ ?_
   obtain ⟨q,h_1,hr⟩ := aC hr
   refine zz ?_
   obtain rfl := sj hr
   exact fD Tryz.results123 bM (zG [])
  obtain ⟨tL,hL3,hr⟩ := aC hr
  refine zz ?_
  refine AB.block <| AB.loopN (fun m s h => ∃ (vi : Int) (l1_2 : List Int),gO N m vi l1_2 = some tL ∧ Ghost 0 s h (aK 85 [(2,(.ptr 0 0)),(3,(.ptr 1 0)),(6,(eI .i64 vi))]) [some ⟨164,(List.replicate 64 0).map (eI .u32)⟩,some ⟨164,l1_2.map (eI .u32)⟩]) (n := N) ⟨16,l1,hL3,(zG [0,1])⟩ (by rintro s h ⟨_,_,h0,_⟩; simp [gO] at h0) ?_
  rintro m3 s h ⟨vi,l1_2,hr3,hg⟩
  refine AB.ghost hg ?_
  clear hg hL3
  rw [gO] at hr3
  refine AB.seq ?_
  refine zz ?_
  refine zk hr3 rfl (fun h2 hr3 => ?_) (fun h2 hr3 => ?_)
  ·refine zz ?_
   refine AB.seq <| AB.block <| AB.seq ?_
   obtain ⟨x37,h_3,hr3⟩ := aC hr3
   obtain ⟨x39,h_4,hr3⟩ := aC hr3
   obtain ⟨x44,h_6,hr3⟩ := aC hr3
   obtain ⟨x50,h_8,hr3⟩ := aC hr3
   refine AB.rs mixed [124] [] [[0,1,2,3,4,5,6,7,8,9,10,11,12,13,14,15,16,17]] ?_
   refine zz ?_
   refine xu (j9 h_4) ?_
   refine zz ?_
   refine xu (j9 h_6) ?_
   refine zz ?_
   refine AB.seq ?_
   obtain ⟨x54,h_9,hr3⟩ := aC hr3
   obtain ⟨x56,h_10,hr3⟩ := aC hr3
   obtain ⟨x61,h_12,hr3⟩ := aC hr3
   obtain ⟨x67,h_14,hr3⟩ := aC hr3
   refine AB.rs mixed [124] [] [[0,1,2,3,4,5,6,7,8,9,10,11,12,13,14,15,16,17]] ?_
   refine zz ?_
   refine xu (j9 h_10) ?_
   refine zz ?_
   refine xu (j9 h_12) ?_
   obtain ⟨x72,h_15,hr3⟩ := aC hr3
   obtain ⟨x78,h_16,hr3⟩ := aC hr3
   obtain ⟨x83,h_17,hr3⟩ := aC hr3
   refine zz ?_
   refine AB.rs mixed [] [] [[0,1,2,3,4,5,6,7,8,9,10,11,12,13,14,15]] ?_
   refine zz ?_
   exact ⟨IntKind.i64.wrap (vi + 1),l1_2.set (Int.toNat vi) (IntKind.u32.wrap ((IntKind.u32.wrap ((IntKind.u32.wrap (x72 + (bits .xor .u32 (bits .xor .u32 x39 x44) x50))) + x78)) + (bits .xor .u32 (bits .xor .u32 x56 x61) x67))),hr3,(zG [0,1])⟩
  ·refine zz ?_
   obtain rfl := sj hr3
   refine zz ?_
   exact hG2 _ _ _ _ (zG [0,1]) (J2 l1_2 hr)
 obtain ⟨res4,hL4,hr⟩ := aC hr
 refine zz ?_
 refine AB.block <| AB.loopN (fun m s h => ∃ (x9 : Int) (l2 : List Int),fR N block m x9 l2 = some res4 ∧ Ghost 0 s h (aK 85 [(1,(.ptr 0 0)),(2,(.ptr 1 0)),(3,(.ptr 2 0)),(9,(eI .i64 x9))]) [some ⟨148,block.map (eI .u8)⟩,some ⟨164,(List.replicate 64 0).map (eI .u32)⟩,some ⟨164,l2.map (eI .u32)⟩]) (n := N) ⟨0,List.replicate 64 0,hL4,(zG [0,1,2])⟩ (by rintro s h ⟨_,_,h0,_⟩; simp [fR] at h0) ?_
 rintro m4 s h ⟨x9,l2,hr4,hg⟩
 refine AB.ghost hg ?_
 clear hg hL4
 rw [fR] at hr4
 refine zz ?_
 refine AB.seq ?_
 refine zk hr4 rfl (fun h18 hr4 => ?_) (fun h18 hr4 => ?_)
 ·refine zz ?_
  refine AB.seq_g fun K5 hK5 hG5 => ?_
  have J5 : ∀ (dE : List Int),tT N block x9 (fR N block m4) dE = some res4 → K5 (aK 85 [(1,(.ptr 0 0)),(2,(.ptr 1 0)),(3,(.ptr 2 0)),(9,(eI .i64 x9))]) [some ⟨148,block.map (eI .u8)⟩,some ⟨164,(List.replicate 64 0).map (eI .u32)⟩,some ⟨164,dE.map (eI .u32)⟩] := by
   intro dE hr4
   unfold tT at hr4
   refine hK5 _ _ ?_
   refine zz ?_
   exact ⟨IntKind.i64.wrap (x9 + 1),dE,hr4,(zG [0,1,2])⟩
  refine AB.block ?_
  obtain ⟨res6,hL6,hr4⟩ := aC hr4
  refine zz ?_
  refine AB.block <| AB.loopN (fun m s h => ∃ (eM : Int) (iP : List Int),dP N block x9 m eM iP = some res6 ∧ Ghost 0 s h (aK 85 [(1,(.ptr 0 0)),(2,(.ptr 1 0)),(3,(.ptr 2 0)),(4,(eI .i64 x9)),(9,(eI .i64 x9)),(12,(eI .i64 eM))]) [some ⟨148,block.map (eI .u8)⟩,some ⟨164,(List.replicate 64 0).map (eI .u32)⟩,some ⟨164,iP.map (eI .u32)⟩]) (n := N) ⟨0,l2,hL6,(zG [0,1,2])⟩ (by rintro s h ⟨_,_,h0,_⟩; simp [dP] at h0) ?_
  rintro m6 s h ⟨eM,iP,hr6,hg⟩
  refine AB.ghost hg ?_
  clear hg hL6
  rw [dP] at hr6
  refine zz ?_
  refine AB.seq ?_
  refine zk hr6 rfl (fun h19 hr6 => ?_) (fun h19 hr6 => ?_)
  ·refine zz ?_
   refine AB.seq <| AB.block ?_
   obtain ⟨x17,h_20,hr6⟩ := aC hr6
   obtain ⟨x19,h_21,hr6⟩ := aC hr6
   obtain ⟨fW,h_22,hr6⟩ := aC hr6
   refine zz ?_
   refine AB.rs mixed [] [] [[0,1,2,3,4,5,6,7,8,9,10,11,12,13,14]] ?_
   refine zz ?_
   exact ⟨IntKind.i64.wrap (eM + 1),iP.set (Int.toNat x9) (bits .or .u32 x19 (IntKind.u32.wrap fW)),hr6,(zG [0,1,2])⟩
  ·refine zz ?_
   obtain rfl := sj hr6
   refine zz ?_
   exact hG5 _ _ _ _ (zG [0,1,2]) (J5 iP hr4)
 ·refine zz ?_
  obtain rfl := sj hr4
  refine zz ?_
  exact hG1 _ _ _ _ (zG [1,2]) (J1 l2 hr)
theorem aGe {N : Nat} {cE : List Int} {block : List Int} {r : (List Int)} (hr : k5 N cE block = some r) :
  Vm.Fn Tryz.prog 107 [] [(.agg (cE.map (eI .u32))),(.agg (block.map (eI .u8)))] (.agg (r.map (eI .u32))) [] := by
 refine zf Tryz.func107 Tryz.ntmps107 ?_
 unfold k5 at hr
 obtain ⟨q,h_1,hr⟩ := aC hr
 obtain ⟨x18,h_2,hr⟩ := aC hr
 obtain ⟨q_1,h_3,hr⟩ := aC hr
 refine zz ?_
 refine xp (aG1 h_2) ?_
 refine zz ?_
 refine AB.seq ?_
 obtain ⟨x19,h_4,hr⟩ := aC hr
 obtain ⟨dI,h_5,hr⟩ := aC hr
 obtain ⟨eN,h_6,hr⟩ := aC hr
 obtain ⟨x25,h_7,hr⟩ := aC hr
 refine AB.rs mixed [] [] [[0,1,2,3,4,5,6,7,8,9,10,11]] ?_
 refine zz ?_
 refine AB.seq ?_
 obtain ⟨x27,h_8,hr⟩ := aC hr
 obtain ⟨x29,h_9,hr⟩ := aC hr
 obtain ⟨cM,h_10,hr⟩ := aC hr
 obtain ⟨jU,h_11,hr⟩ := aC hr
 refine AB.rs mixed [] [] [[0,1,2,3,4,5,6,7,8,9,10,11]] ?_
 refine zz ?_
 refine AB.seq_g fun K1 hK1 hG1 => ?_
 have J1 : ∀ (va : Int) (b : Int) (c : Int) (d : Int) (ve : Int) (f : Int) (g : Int) (vh : Int),pV N cE va b c d ve f g vh = some r → K1 (aK 131 [(2,(.ptr 0 0)),(4,(.ptr 1 0)),(6,(eI .u32 va)),(7,(eI .u32 b)),(8,(eI .u32 c)),(9,(eI .u32 d)),(10,(eI .u32 ve)),(11,(eI .u32 f)),(12,(eI .u32 g)),(13,(eI .u32 vh))]) [some ⟨146,cE.map (eI .u32)⟩,some ⟨146,(List.replicate 8 0).map (eI .u32)⟩] := by
  intro va b c d ve f g vh hr
  unfold pV at hr
  refine hK1 _ _ ?_
  obtain ⟨x98,h_12,hr⟩ := aC hr
  obtain ⟨aG3,h_13,hr⟩ := aC hr
  obtain ⟨eG,h_14,hr⟩ := aC hr
  obtain ⟨aCg,h_15,hr⟩ := aC hr
  obtain ⟨aHH,h_16,hr⟩ := aC hr
  obtain ⟨aNW,h_17,hr⟩ := aC hr
  obtain ⟨aOi,h_18,hr⟩ := aC hr
  obtain ⟨nA,h_19,hr⟩ := aC hr
  refine zz ?_
  refine xw (v := (.agg ([IntKind.u32.wrap (x98 + va),IntKind.u32.wrap (aG3 + b),IntKind.u32.wrap (eG + c),IntKind.u32.wrap (aCg + d),IntKind.u32.wrap (aHH + ve),IntKind.u32.wrap (aNW + f),IntKind.u32.wrap (aOi + g),IntKind.u32.wrap (nA + vh)].map (eI .u32)))) (bQ rfl (jO aEV vU rfl)) ?_
  refine zz ?_
  obtain rfl := sj hr
  exact fD Tryz.results107 bM (zG [])
 obtain ⟨bO,hL2,hr⟩ := aC hr
 refine zz ?_
 refine AB.block <| AB.loopN (fun m s h => ∃ (va_1 : Int) (b_1 : Int) (c_1 : Int) (d_1 : Int) (ve_1 : Int) (f_1 : Int) (g_1 : Int) (vh_1 : Int) (x35 : Int),gR N cE x18 m va_1 b_1 c_1 d_1 ve_1 f_1 g_1 vh_1 x35 = some bO ∧ Ghost 0 s h (aK 131 [(2,(.ptr 0 0)),(4,(.ptr 1 0)),(5,(.ptr 2 0)),(6,(eI .u32 va_1)),(7,(eI .u32 b_1)),(8,(eI .u32 c_1)),(9,(eI .u32 d_1)),(10,(eI .u32 ve_1)),(11,(eI .u32 f_1)),(12,(eI .u32 g_1)),(13,(eI .u32 vh_1)),(35,(eI .i64 x35))]) [some ⟨146,cE.map (eI .u32)⟩,some ⟨146,(List.replicate 8 0).map (eI .u32)⟩,some ⟨164,x18.map (eI .u32)⟩]) (n := N) ⟨x19,dI,eN,x25,x27,x29,cM,jU,0,hL2,(zG [0,2,3])⟩ (by rintro s h ⟨_,_,_,_,_,_,_,_,_,h0,_⟩; simp [gR] at h0) ?_
 rintro m2 s h ⟨va_1,b_1,c_1,d_1,ve_1,f_1,g_1,vh_1,x35,hr2,hg⟩
 refine AB.ghost hg ?_
 clear hg hL2
 rw [gR] at hr2
 refine zz ?_
 refine AB.seq ?_
 refine zk hr2 rfl (fun h20 hr2 => ?_) (fun h20 hr2 => ?_)
 ·refine zz ?_
  refine AB.seq <| AB.block ?_
  refine zz ?_
  refine AB.seq ?_
  obtain ⟨x40,h_21,hr2⟩ := aC hr2
  obtain ⟨x42,h_23,hr2⟩ := aC hr2
  obtain ⟨x45,h_25,hr2⟩ := aC hr2
  obtain ⟨x58,h_27,hr2⟩ := aC hr2
  obtain ⟨x62,h_28,hr2⟩ := aC hr2
  refine AB.rs mixed [124] [] [[0,1,2,3,4,5,6,7,8,9,10,11,12,13,14,15,16,17,18,19,20,21,22,23,24,25,26,27]] ?_
  refine zz ?_
  refine xu (j9 h_21) ?_
  refine zz ?_
  refine xu (j9 h_23) ?_
  refine zz ?_
  refine xu (j9 h_25) ?_
  refine zz ?_
  refine xw (v := (eI .u32 (bits .xor .u32 (IntKind.max .u32) ve_1))) (aJ6 rfl (aLb rfl _)) ?_
  refine zz ?_
  refine xw (v := (.eptr [(.agg (aCF.map (eI .u32)))] 0 (Int.toNat x35))) (aAn rfl rfl (iaG aLM vU rfl h_27)) <| xw (v := (eI .u32 x58)) (bW rfl (ldG (E := (eI .u32)) (y := x58) vU rfl (pK h_27))) ?_
  obtain ⟨x66,h_29,hr2⟩ := aC hr2
  obtain ⟨x68,h_30,hr2⟩ := aC hr2
  obtain ⟨x71,h_31,hr2⟩ := aC hr2
  refine zz ?_
  refine xp (j9 h_29) ?_
  refine zz ?_
  refine xp (j9 h_30) ?_
  refine zz ?_
  refine xp (j9 h_31) ?_
  refine zz ?_
  exact ⟨IntKind.u32.wrap ((IntKind.u32.wrap ((IntKind.u32.wrap ((IntKind.u32.wrap ((IntKind.u32.wrap (vh_1 + (bits .xor .u32 (bits .xor .u32 x40 x42) x45))) + (bits .xor .u32 (bits .and .u32 ve_1 f_1) (bits .and .u32 (bits .xor .u32 (IntKind.max .u32) ve_1) g_1)))) + x58)) + x62)) + (IntKind.u32.wrap ((bits .xor .u32 (bits .xor .u32 x66 x68) x71) + (bits .xor .u32 (bits .xor .u32 (bits .and .u32 va_1 b_1) (bits .and .u32 va_1 c_1)) (bits .and .u32 b_1 c_1))))),va_1,b_1,c_1,IntKind.u32.wrap (d_1 + (IntKind.u32.wrap ((IntKind.u32.wrap ((IntKind.u32.wrap ((IntKind.u32.wrap (vh_1 + (bits .xor .u32 (bits .xor .u32 x40 x42) x45))) + (bits .xor .u32 (bits .and .u32 ve_1 f_1) (bits .and .u32 (bits .xor .u32 (IntKind.max .u32) ve_1) g_1)))) + x58)) + x62))),ve_1,f_1,g_1,IntKind.i64.wrap (x35 + 1),hr2,(zG [0,1,2])⟩
 ·refine zz ?_
  obtain rfl := sj hr2
  refine zz ?_
  exact hG1 _ _ _ _ (zG [0,1]) (J1 va_1 b_1 c_1 d_1 ve_1 f_1 g_1 vh_1 hr)
theorem aBp {N : Nat} {b : List Int} {r : (List Int)} (hr : xR N b = some r) :
  Vm.Fn Tryz.prog 79 [] [(.row none 1 (b.map (eI .u8)))] (.agg (r.map (eI .u8))) [] := by
 refine zf Tryz.func79 Tryz.ntmps79 ?_
 unfold xR at hr
 obtain ⟨eM,h_1,hr⟩ := aC hr
 obtain ⟨bH,h_2,hr⟩ := aC hr
 refine zz ?_
 refine zc (aLA h_1) [] ?_
 refine OpsX.ghost (zv 1) ?_
 refine zz ?_
 refine xV (aGc h_2) [] [2] ?_
 refine zz ?_
 refine xw (v := (.agg (vV.map (eI .u32)))) (bW rfl (aJt (E := (eI .u32)) (l := vV) aEV rfl rfl)) ?_
 refine zz ?_
 refine AB.seq_g fun K1 hK1 hG1 => ?_
 have J1 : ∀ (l1 : List Int),aBk N l1 = some r → K1 (aK 48 [(2,(.ptr 0 0)),(4,(.ptr 1 0))]) [some ⟨24,(List.replicate 32 0).map (eI .u8)⟩,some ⟨146,l1.map (eI .u32)⟩] := by
  intro l1 hr
  unfold aBk at hr
  refine hK1 _ _ ?_
  refine zz ?_
  refine AB.seq_g fun K2 hK2 hG2 => ?_
  have J2 : ∀ (cW : List Int),aBs N cW = some r → K2 (aK 48 [(2,(.ptr 0 0)),(6,(.ptr 1 0))]) [some ⟨24,(List.replicate 32 0).map (eI .u8)⟩,some ⟨24,cW.map (eI .u8)⟩] := by
   intro cW hr
   unfold aBs at hr
   refine hK2 _ _ ?_
   obtain ⟨q,h_3,hr⟩ := aC hr
   refine zz ?_
   obtain rfl := sj hr
   exact fD Tryz.results79 bM (zG [])
  obtain ⟨tL,hL3,hr⟩ := aC hr
  refine zz ?_
  refine AB.block <| AB.loopN (fun m s h => ∃ (cM : Int) (l2 : List Int),sJ N l1 m cM l2 = some tL ∧ Ghost 0 s h (aK 48 [(2,(.ptr 0 0)),(4,(.ptr 1 0)),(6,(.ptr 2 0)),(31,(eI .i64 cM))]) [some ⟨24,(List.replicate 32 0).map (eI .u8)⟩,some ⟨146,l1.map (eI .u32)⟩,some ⟨24,l2.map (eI .u8)⟩]) (n := N) ⟨0,List.replicate 32 0,hL3,(zG [0,1,2])⟩ (by rintro s h ⟨_,_,h0,_⟩; simp [sJ] at h0) ?_
  rintro m3 s h ⟨cM,l2,hr3,hg⟩
  refine AB.ghost hg ?_
  clear hg hL3
  rw [sJ] at hr3
  refine zz ?_
  refine AB.seq ?_
  refine zk hr3 rfl (fun h4 hr3 => ?_) (fun h4 hr3 => ?_)
  ·refine zz ?_
   refine AB.seq <| AB.block ?_
   obtain ⟨x37,h_5,hr3⟩ := aC hr3
   obtain ⟨x43,h_6,hr3⟩ := aC hr3
   obtain ⟨x45,h_7,hr3⟩ := aC hr3
   refine zz ?_
   exact ⟨IntKind.i64.wrap (cM + 1),l2.set (Int.toNat cM) (IntKind.u8.wrap x43),hr3,(zG [0,1,2])⟩
  ·refine zz ?_
   obtain rfl := sj hr3
   refine zz ?_
   exact hG2 _ _ _ _ (zG [0,2]) (J2 l2 hr)
 refine zz ?_
 refine AB.ghost (zv 3) ?_
 obtain ⟨res4,hL4,hr⟩ := aC hr
 refine AB.block <| AB.loopN (fun m s h => ∃ (x19 : Int) (l1_2 : List Int),sG N bH m x19 l1_2 = some res4 ∧ Ghost 0 s h (aK 48 [(2,(.ptr 0 0)),(3,(.row none 1 (bH.map (eI .u8)))),(4,(.ptr 1 0)),(18,(eI .i64 (IntKind.i64.wrap (Int.tdiv (bH.length : Int) 64)))),(19,(eI .i64 x19))]) [some ⟨24,(List.replicate 32 0).map (eI .u8)⟩,some ⟨146,l1_2.map (eI .u32)⟩]) (n := N) ⟨0,vV,hL4,(zG [0,4])⟩ (by rintro s h ⟨_,_,h0,_⟩; simp [sG] at h0) ?_
 rintro m4 s h ⟨x19,l1_2,hr4,hg⟩
 refine AB.ghost hg ?_
 clear hg hL4
 rw [sG] at hr4
 refine zz ?_
 refine AB.seq ?_
 refine zk hr4 rfl (fun h8 hr4 => ?_) (fun h8 hr4 => ?_)
 ·refine zz ?_
  refine AB.seq <| AB.block ?_
  obtain ⟨q_1,h_9,hr4⟩ := aC hr4
  obtain ⟨x26,h_10,hr4⟩ := aC hr4
  obtain ⟨x27,h_11,hr4⟩ := aC hr4
  obtain ⟨x29,h_12,hr4⟩ := aC hr4
  obtain ⟨q_2,h_14,hr4⟩ := aC hr4
  refine zz ?_
  refine AB.rs mixed [107] [] [[0,1,2,3,4,5,6,7,8]] ?_
  refine zz ?_
  refine xw (v := (.eptr [.agg (x27.map (eI .u8))] 0 0)) (aDx rfl (apR (E := (eI .u8)) aLG (fun _ => rfl) zl h_11)) <| xw (v := (.agg (x27.map (eI .u8)))) (bW rfl (aJt (E := (eI .u8)) (l := x27) aLG rfl (cB h_11))) <| xu (aGe h_12) ?_
  refine zz ?_
  exact ⟨IntKind.i64.wrap (x19 + 1),x29,hr4,(zG [0,1])⟩
 ·refine zz ?_
  obtain rfl := sj hr4
  refine zz ?_
  exact hG1 _ _ _ _ (zG [0,1]) (J1 l1_2 hr)
theorem rE {N : Nat} {vh : List Int} {r : (List Int)} (hr : fO N vh = some r) :
  Vm.Fn Tryz.prog 130 [] [(.agg (vh.map (eI .u8)))] (.agg (r.map (eI .u64))) [] := by
 refine zf Tryz.func130 Tryz.ntmps130 ?_
 unfold fO at hr
 refine zz ?_
 refine AB.seq_g fun K1 hK1 hG1 => ?_
 have J1 : ∀ (l1 : List Int),nH N l1 = some r → K1 (aK 26 [(2,(.ptr 0 0)),(3,(.ptr 1 0))]) [some ⟨31,(List.replicate 4 0).map (eI .u64)⟩,some ⟨31,l1.map (eI .u64)⟩] := by
  intro l1 hr
  unfold nH at hr
  refine hK1 _ _ ?_
  obtain ⟨q,h_1,hr⟩ := aC hr
  refine zz ?_
  obtain rfl := sj hr
  exact fD Tryz.results130 bM (zG [])
 obtain ⟨q_1,h_2,hr⟩ := aC hr
 obtain ⟨bO,hL2,hr⟩ := aC hr
 refine zz ?_
 refine AB.block <| AB.loopN (fun m s h => ∃ (x8 : Int) (cW : List Int),fF N vh m x8 cW = some bO ∧ Ghost 0 s h (aK 26 [(2,(.ptr 0 0)),(3,(.ptr 1 0)),(7,(.agg (vh.map (eI .u8)))),(8,(eI .i64 x8))]) [some ⟨31,(List.replicate 4 0).map (eI .u64)⟩,some ⟨31,cW.map (eI .u64)⟩]) (n := N) ⟨0,List.replicate 4 0,hL2,(zG [1,2])⟩ (by rintro s h ⟨_,_,h0,_⟩; simp [fF] at h0) ?_
 rintro m2 s h ⟨x8,cW,hr2,hg⟩
 refine AB.ghost hg ?_
 clear hg hL2
 rw [fF] at hr2
 refine zz ?_
 refine AB.seq ?_
 refine zk hr2 rfl (fun h3 hr2 => ?_) (fun h3 hr2 => ?_)
 ·refine zz ?_
  refine AB.seq <| AB.block ?_
  obtain ⟨b4,h_4,hr2⟩ := aC hr2
  refine zz ?_
  refine xw (v := (eI .u8 b4)) (aOr rfl rfl (ixA (E := (eI .u8)) i0 gX rfl rfl h_4)) ?_
  obtain ⟨x17,h_5,hr2⟩ := aC hr2
  obtain ⟨x19,h_6,hr2⟩ := aC hr2
  refine zz ?_
  exact ⟨IntKind.i64.wrap (x8 + 1),cW.set (Int.toNat (IntKind.i64.wrap (3 - (IntKind.i64.wrap (Int.tdiv x8 8))))) (bits .or .u64 x19 (IntKind.u64.wrap b4)),hr2,(zG [0,1])⟩
 ·refine zz ?_
  obtain rfl := sj hr2
  refine zz ?_
  exact hG1 _ _ _ _ (zG [0,1]) (J1 cW hr)
theorem oA {N : Nat} {vn : Int} {r : (List Int)} (hr : fG N vn = some r) :
  Vm.Fn Tryz.prog 134 [] [(eI .u64 vn)] (.agg (r.map (eI .u64))) [] := by
 refine zf Tryz.func134 Tryz.ntmps134 ?_
 unfold fG at hr
 refine zz ?_
 refine xw (v := (.agg ([vn,0,0,0].map (eI .u64)))) (bQ rfl (jO bX kC rfl)) ?_
 refine zz ?_
 obtain rfl := sj hr
 exact fD Tryz.results134 bM (zG [])
theorem aBP {N : Nat} {r : (List Int)} (hr : pE N = some r) :
  Vm.Fn Tryz.prog 144 [] [] (.agg (r.map (eI .u64))) [] := by
 refine zf Tryz.func144 Tryz.ntmps144 ?_
 unfold pE at hr
 refine zz ?_
 refine xw (v := (.agg ([18446744073709515503,18446744073709551615,18446744073709551615,18446744073709551615].map (eI .u64)))) (bQ rfl (jO bX kC rfl)) ?_
 refine zz ?_
 obtain rfl := sj hr
 exact fD Tryz.results144 bM (zG [])
theorem tC {N : Nat} {va : List Int} {b : List Int} {r : Int} (hr : nC N va b = some r) :
  Vm.Fn Tryz.prog 143 [] [(.agg (va.map (eI .u64))),(.agg (b.map (eI .u64)))] (eI .i64 r) [] := by
 refine zf Tryz.func143 Tryz.ntmps143 ?_
 unfold nC at hr
 refine zz ?_
 refine AB.seq_g fun K1 hK1 hG1 => ?_
 have J1 : aAA N = some r → K1 (aK 24 []) [] := by
  intro hr
  unfold aAA at hr
  refine hK1 _ _ ?_
  refine zz ?_
  obtain rfl := sj hr
  exact bL Tryz.results143 []
 obtain ⟨bO,hL2,hr⟩ := aC hr
 refine zz ?_
 refine AB.block <| AB.loopN (fun m s h => ∃ (vi : Int),lY N va b m vi = some bO ∧ Ghost 0 s h (aK 24 [(2,(.ptr 0 0)),(3,(.ptr 1 0)),(5,(eI .i64 vi))]) [some ⟨31,va.map (eI .u64)⟩,some ⟨31,b.map (eI .u64)⟩]) (n := N) ⟨3,hL2,(zG [0,1])⟩ (by rintro s h ⟨_,h0,_⟩; simp [lY] at h0) ?_
 rintro m2 s h ⟨vi,hr2,hg⟩
 refine AB.ghost hg ?_
 clear hg hL2
 rw [lY] at hr2
 refine AB.seq ?_
 refine zz ?_
 refine zk hr2 rfl (fun h1 hr2 => ?_) (fun h1 hr2 => ?_)
 ·refine zz ?_
  refine AB.seq <| AB.block <| AB.seq <| AB.seq ?_
  obtain ⟨b4,h_2,hr2⟩ := aC hr2
  obtain ⟨bH,h_3,hr2⟩ := aC hr2
  refine AB.rs mixed [] [] [[0,1,2,3,4,5,6]] ?_
  refine zz ?_
  refine zk hr2 rfl (fun h4 hr2 => ?_) (fun h4 hr2 => ?_)
  ·refine zz ?_
   obtain rfl := sj hr2
   obtain rfl := sj hr
   exact bL Tryz.results143 []
  ·refine zz ?_
   refine AB.seq <| AB.rs mixed [] [] [[0,1,2,3,4,5,6]] ?_
   refine zz ?_
   refine zk hr2 rfl (fun h5 hr2 => ?_) (fun h5 hr2 => ?_)
   ·refine zz ?_
    obtain rfl := sj hr2
    obtain rfl := sj hr
    exact bL Tryz.results143 []
   ·refine zz ?_
    exact ⟨IntKind.i64.wrap (vi - 1),hr2,(zG [0,1])⟩
 ·refine zz ?_
  obtain rfl := sj hr2
  refine zz ?_
  exact hG1 _ _ _ _ (zG []) (J1 hr)
theorem vK {N : Nat} {r : (List Int)} (hr : nQ N = some r) :
  Vm.Fn Tryz.prog 138 [] [] (.agg (r.map (eI .u64))) [] := by
 refine zf Tryz.func138 Tryz.ntmps138 ?_
 unfold nQ at hr
 refine zz ?_
 refine xw (v := (.agg ([18446744073709533559,18446744073709551615,18446744073709551615,9223372036854775807].map (eI .u64)))) (bQ rfl (jO bX kC rfl)) ?_
 refine zz ?_
 obtain rfl := sj hr
 exact fD Tryz.results138 bM (zG [])
theorem aD7 {N : Nat} {x : Int} {r : Int} (hr : pY N x = some r) :
  Vm.Fn Tryz.prog 152 [] [(eI .u64 x)] (eI .i64 r) [] := by
 refine zf Tryz.func152 Tryz.ntmps152 ?_
 unfold pY at hr
 refine zz ?_
 refine AB.seq_g fun K1 hK1 hG1 => ?_
 have J1 : ∀ (x_1 : Int) (vn : Int),jT N x_1 vn = some r → K1 (aK 25 [(0,(eI .u64 x_1)),(2,(eI .i64 vn))]) [] := by
  intro x_1 vn hr
  unfold jT at hr
  refine hK1 _ _ ?_
  refine AB.seq_g fun K2 hK2 hG2 => ?_
  have J2 : ∀ (x_2 : Int) (m9 : Int),j5 N x_2 m9 = some r → K2 (aK 25 [(0,(eI .u64 x_2)),(2,(eI .i64 m9))]) [] := by
   intro x_2 m9 hr
   unfold j5 at hr
   refine hK2 _ _ ?_
   refine AB.seq_g fun K3 hK3 hG3 => ?_
   have J3 : ∀ (x_3 : Int) (aJL : Int),gZ N x_3 aJL = some r → K3 (aK 25 [(0,(eI .u64 x_3)),(2,(eI .i64 aJL))]) [] := by
    intro x_3 aJL hr
    unfold gZ at hr
    refine hK3 _ _ ?_
    obtain ⟨c5,h_1,hr⟩ := aC hr
    refine zz ?_
    refine xw (v := (eI .u8 c5)) (aOr rfl rfl (ixT ti9 h_1)) ?_
    refine zz ?_
    obtain rfl := sj hr
    exact bL Tryz.results152 []
   refine zz ?_
   refine zk hr rfl (fun h2 hr => ?_) (fun h2 hr => ?_)
   ·obtain ⟨x16,h_3,hr⟩ := aC hr
    refine zz ?_
    exact hG3 _ _ _ _ (zG []) (J3 x16 (IntKind.i64.wrap (m9 + 8)) hr)
   ·refine zz ?_
    exact hG3 _ _ _ _ (zG []) (J3 x_2 m9 hr)
  refine zz ?_
  refine zk hr rfl (fun h4 hr => ?_) (fun h4 hr => ?_)
  ·obtain ⟨bV,h_5,hr⟩ := aC hr
   refine zz ?_
   exact hG2 _ _ _ _ (zG []) (J2 bV (IntKind.i64.wrap (vn + 16)) hr)
  ·refine zz ?_
   exact hG2 _ _ _ _ (zG []) (J2 x_1 vn hr)
 refine zz ?_
 refine zk hr rfl (fun h6 hr => ?_) (fun h6 hr => ?_)
 ·obtain ⟨x6,h_7,hr⟩ := aC hr
  refine zz ?_
  exact hG1 _ _ _ _ (zG []) (J1 x6 32 hr)
 ·refine zz ?_
  exact hG1 _ _ _ _ (zG []) (J1 x 0 hr)
theorem aKC {N : Nat} {va : List Int} {r : Int} (hr : aBG N va = some r) :
  Vm.Fn Tryz.prog 146 [] [(.agg (va.map (eI .u64)))] (eI .i64 r) [] := by
 refine zf Tryz.func146 Tryz.ntmps146 ?_
 unfold aBG at hr
 refine zz ?_
 refine AB.seq_g fun K1 hK1 hG1 => ?_
 have J1 : aAG N = some r → K1 (aK 19 []) [] := by
  intro hr
  unfold aAG at hr
  refine hK1 _ _ ?_
  refine zz ?_
  obtain rfl := sj hr
  exact bL Tryz.results146 []
 obtain ⟨bO,hL2,hr⟩ := aC hr
 refine zz ?_
 refine AB.block <| AB.loopN (fun m s h => ∃ (vi : Int),qN N va m vi = some bO ∧ Ghost 0 s h (aK 19 [(1,(.ptr 0 0)),(3,(eI .i64 vi))]) [some ⟨31,va.map (eI .u64)⟩]) (n := N) ⟨3,hL2,(zG [0])⟩ (by rintro s h ⟨_,h0,_⟩; simp [qN] at h0) ?_
 rintro m2 s h ⟨vi,hr2,hg⟩
 refine AB.ghost hg ?_
 clear hg hL2
 rw [qN] at hr2
 refine AB.seq ?_
 refine zz ?_
 refine zk hr2 rfl (fun h1 hr2 => ?_) (fun h1 hr2 => ?_)
 ·refine zz ?_
  refine AB.seq <| AB.block ?_
  obtain ⟨x9,h_2,hr2⟩ := aC hr2
  refine zz ?_
  refine zk hr2 rfl (fun h3 hr2 => ?_) (fun h3 hr2 => ?_)
  ·obtain ⟨x17,h_4,hr2⟩ := aC hr2
   refine zz ?_
   refine xp (aD7 h_4) ?_
   refine zz ?_
   obtain rfl := sj hr2
   obtain rfl := sj hr
   exact bL Tryz.results146 []
  ·refine zz ?_
   exact ⟨IntKind.i64.wrap (vi - 1),hr2,(zG [0])⟩
 ·refine zz ?_
  obtain rfl := sj hr2
  refine zz ?_
  exact hG1 _ _ _ _ (zG []) (J1 hr)
theorem aAS {N : Nat} {x : Int} {y : Int} {r : Int × Int} (hr : kH N x y = some r) :
  Vm.Fn Tryz.prog 121 [] [(eI .u64 x),(eI .u64 y)] (.tup [(eI .u64 r.1),(eI .u64 r.2)]) [] := by
 refine zf Tryz.func121 Tryz.ntmps121 ?_
 unfold kH at hr
 obtain ⟨x17,h_1,hr⟩ := aC hr
 obtain ⟨dI,h_2,hr⟩ := aC hr
 obtain ⟨x29,h_3,hr⟩ := aC hr
 obtain ⟨dH,h_4,hr⟩ := aC hr
 obtain ⟨x46,h_5,hr⟩ := aC hr
 refine zz ?_
 obtain rfl := sj hr
 exact zd2 Tryz.results121 []
theorem jY {N : Nat} {x y c : Int} {r : Int × Int} (hr : dB N x y c = some r) : Vm.Fn Tryz.prog 114 [] [(eI .u64 x),(eI .u64 y),(eI .u64 c)] (.tup [(eI .u64 r.1),(eI .u64 r.2)]) [] :=
 aN6 Tryz.func114 (by kernel_rfl) (by kernel_rfl) (by kernel_rfl) (by kernel_rfl) hr
theorem aKI {N : Nat} {va : List Int} {b : List Int} {r : (List Int) × (List Int)} (hr : xF N va b = some r) :
  Vm.Fn Tryz.prog 149 [] [(.agg (va.map (eI .u64))),(.agg (b.map (eI .u64)))] (.tup [(.agg (r.1.map (eI .u64))),(.agg (r.2.map (eI .u64)))]) [] := by
 refine zf Tryz.func149 Tryz.ntmps149 ?_
 unfold xF at hr
 refine zz ?_
 refine AB.seq_g fun K1 hK1 hG1 => ?_
 have J1 : ∀ (l2 : List Int),wL N l2 = some r → K1 (aK 69 [(4,(.ptr 0 0)),(5,(.ptr 1 0)),(6,(.ptr 2 0))]) [some ⟨31,(List.replicate 4 0).map (eI .u64)⟩,some ⟨31,(List.replicate 4 0).map (eI .u64)⟩,some ⟨160,l2.map (eI .u64)⟩] := by
  intro l2 hr
  unfold wL at hr
  refine hK1 _ _ <| AB.seq ?_
  obtain ⟨q,h_1,hr⟩ := aC hr
  obtain ⟨x63,h_2,hr⟩ := aC hr
  obtain ⟨x64,h_3,hr⟩ := aC hr
  obtain ⟨x66,h_4,hr⟩ := aC hr
  obtain ⟨x67,h_5,hr⟩ := aC hr
  refine AB.rd (d7 []) (d7 []) mixed <| DrawG.pick (n := 7) (i := 0) (by decide +kernel) rfl (gS (v := (.sl 2 (Int.toNat 4 * 1) x63.length 1 false)) (sv (eT rfl rfl rfl (aKi (E := (eI .u64)) (l := l2) aE3 kC rfl rfl rfl (aZ h_1) zl rfl rfl h_2)))) <| DrawG.pick (n := 6) (i := 1) (by decide +kernel) rfl (gS (v := (.ptr 2 (Int.toNat 4 * 1))) (sv (aDx rfl (apS bX zl rfl h_3)))) <| DrawG.pick (n := 5) (i := 2) (by decide +kernel) rfl (gS (v := (.agg (x64.map (eI .u64)))) (sv (bW rfl (aLg (E := (eI .u64)) (l := l2) bX rfl rfl h_2 h_3)))) ?_
  refine DrawG.jn (m := 1) (L := lst [0,1,2,3,4,5,6] 8) (s1 := aK 69 [(4,(.ptr 0 0)),(5,(.ptr 1 0)),(68,(.agg (x67.map (eI .u64))))]) (h1 := [some ⟨31,x64.map (eI .u64)⟩,some ⟨31,(List.replicate 4 0).map (eI .u64)⟩]) ?_ (fun J => ?_)
  ·refine DrawG.pick (n := 0) (i := 7) (by decide +kernel) rfl (gN (h' := [some ⟨31,x64.map (eI .u64)⟩,some ⟨31,x67.map (eI .u64)⟩]) (sv (bN rfl rfl (q5 (E := (eI .u64)) (l := List.replicate 4 0) bX rfl rfl (fun _ => rfl) rfl (cB h_5) rfl)))) <| DrawG.nil (by decide +kernel) ?_
   refine zz ?_
   obtain rfl := sj hr
   exact wM Tryz.results149 bM bM (qH [])
  ·refine DrawG.fork (n := 4) [3,6] (by decide +kernel) (by decide) ?_
   refine (Fork.cons rfl (gS (v := (.sl 2 (Int.toNat 0 * 1) x66.length 1 false)) (sv (eT rfl rfl rfl (aKi (E := (eI .u64)) (l := l2) aE3 kC rfl rfl rfl (aZ h_1) zl rfl rfl h_4)))) ?_ (Fork.cons rfl (gN (h' := [some ⟨31,x64.map (eI .u64)⟩,some ⟨31,(List.replicate 4 0).map (eI .u64)⟩,some ⟨160,l2.map (eI .u64)⟩]) (sv (bN rfl rfl (q5 (E := (eI .u64)) (l := List.replicate 4 0) bX rfl rfl (fun _ => rfl) rfl (cB h_3) rfl)))) ?_ Fork.nil))
   ·refine DrawG.pick (n := 3) (i := 4) (by decide +kernel) rfl (gS (v := (.ptr 2 (Int.toNat 0 * 1))) (sv (aDx rfl (apS bX zl rfl h_5)))) <| DrawG.fork (n := 2) [5,6] (by decide +kernel) (by decide) ?_
    refine (Fork.cons rfl (gS (v := (.agg (x67.map (eI .u64)))) (sv (bW rfl (aLg (E := (eI .u64)) (l := l2) bX rfl rfl h_4 h_5)))) ?_ (Fork.cons rfl (gN (h' := [some ⟨31,x64.map (eI .u64)⟩,some ⟨31,(List.replicate 4 0).map (eI .u64)⟩,some ⟨160,l2.map (eI .u64)⟩]) (sv (bN rfl rfl (q5 (E := (eI .u64)) (l := List.replicate 4 0) bX rfl rfl (fun _ => rfl) rfl (cB h_3) rfl)))) ?_ Fork.nil))
    ·refine DrawG.pick (n := 1) (i := 6) (by decide +kernel) rfl (gN (h' := [some ⟨31,x64.map (eI .u64)⟩,some ⟨31,(List.replicate 4 0).map (eI .u64)⟩,some ⟨160,l2.map (eI .u64)⟩]) (sv (bN rfl rfl (q5 (E := (eI .u64)) (l := List.replicate 4 0) bX rfl rfl (fun _ => rfl) rfl (cB h_3) rfl)))) ?_
     exact DrawG.jg (by decide +kernel) (by decide +kernel) (zG [0,1]) J
    ·refine DrawG.pick (n := 1) (i := 5) (by decide +kernel) rfl (gS (v := (.agg (x67.map (eI .u64)))) (sv (bW rfl (aLg (E := (eI .u64)) (l := l2) bX rfl rfl h_4 h_5)))) ?_
     exact DrawG.jg (by decide +kernel) (by decide +kernel) (zG [0,1]) J
   ·refine DrawG.pick (n := 3) (i := 3) (by decide +kernel) rfl (gS (v := (.sl 2 (Int.toNat 0 * 1) x66.length 1 false)) (sv (eT rfl rfl rfl (aKi (E := (eI .u64)) (l := l2) aE3 kC rfl rfl rfl (aZ h_1) zl rfl rfl h_4)))) <| DrawG.pick (n := 2) (i := 4) (by decide +kernel) rfl (gS (v := (.ptr 2 (Int.toNat 0 * 1))) (sv (aDx rfl (apS bX zl rfl h_5)))) <| DrawG.pick (n := 1) (i := 5) (by decide +kernel) rfl (gS (v := (.agg (x67.map (eI .u64)))) (sv (bW rfl (aLg (E := (eI .u64)) (l := l2) bX rfl rfl h_4 h_5)))) ?_
    exact DrawG.jg (by decide +kernel) (by decide +kernel) (zG [0,1]) J
 obtain ⟨bO,hL2,hr⟩ := aC hr
 refine zz ?_
 refine AB.block <| AB.loopN (fun m s h => ∃ (bH : Int) (l4 : List Int),i9 N va b m bH l4 = some bO ∧ Ghost 0 s h (aK 69 [(2,(.ptr 0 0)),(3,(.ptr 1 0)),(4,(.ptr 2 0)),(5,(.ptr 3 0)),(6,(.ptr 4 0)),(14,(eI .i64 bH))]) [some ⟨31,va.map (eI .u64)⟩,some ⟨31,b.map (eI .u64)⟩,some ⟨31,(List.replicate 4 0).map (eI .u64)⟩,some ⟨31,(List.replicate 4 0).map (eI .u64)⟩,some ⟨160,l4.map (eI .u64)⟩]) (n := N) ⟨0,List.replicate 8 0,hL2,(zG [0,1,2,3,4])⟩ (by rintro s h ⟨_,_,h0,_⟩; simp [i9] at h0) ?_
 rintro m2 s h ⟨bH,l4,hr2,hg⟩
 refine AB.ghost hg ?_
 clear hg hL2
 rw [i9] at hr2
 refine zz ?_
 refine AB.seq ?_
 refine zk hr2 rfl (fun h6 hr2 => ?_) (fun h6 hr2 => ?_)
 ·refine zz ?_
  refine AB.seq_g fun K3 hK3 hG3 => ?_
  have J3 : ∀ (j8 : List Int),v6 N va b bH (i9 N va b m2) j8 = some bO → K3 (aK 69 [(2,(.ptr 0 0)),(3,(.ptr 1 0)),(4,(.ptr 2 0)),(5,(.ptr 3 0)),(6,(.ptr 4 0)),(14,(eI .i64 bH))]) [some ⟨31,va.map (eI .u64)⟩,some ⟨31,b.map (eI .u64)⟩,some ⟨31,(List.replicate 4 0).map (eI .u64)⟩,some ⟨31,(List.replicate 4 0).map (eI .u64)⟩,some ⟨160,j8.map (eI .u64)⟩] := by
   intro j8 hr2
   unfold v6 at hr2
   refine hK3 _ _ ?_
   refine zz ?_
   exact ⟨IntKind.i64.wrap (bH + 1),j8,hr2,(zG [0,1,2,3,4])⟩
  refine AB.block ?_
  refine zz ?_
  refine AB.seq_g fun K4 hK4 hG4 => ?_
  have J4 : ∀ (jH : Int) (w9 : List Int),vY N va b bH (i9 N va b m2) jH w9 = some bO → K4 (aK 69 [(2,(.ptr 0 0)),(3,(.ptr 1 0)),(4,(.ptr 2 0)),(5,(.ptr 3 0)),(6,(.ptr 4 0)),(7,(eI .i64 bH)),(8,(eI .u64 jH)),(14,(eI .i64 bH))]) [some ⟨31,va.map (eI .u64)⟩,some ⟨31,b.map (eI .u64)⟩,some ⟨31,(List.replicate 4 0).map (eI .u64)⟩,some ⟨31,(List.replicate 4 0).map (eI .u64)⟩,some ⟨160,w9.map (eI .u64)⟩] := by
   intro jH w9 hr2
   unfold vY at hr2
   refine hK4 _ _ ?_
   obtain ⟨x61,h_7,hr2⟩ := aC hr2
   refine zz ?_
   exact hG3 _ _ _ _ (zG [0,1,2,3,4]) (J3 (w9.set (Int.toNat (IntKind.i64.wrap (bH + 4))) jH) hr2)
  obtain ⟨res5,hL5,hr2⟩ := aC hr2
  refine zz ?_
  refine AB.block <| AB.loopN (fun m s h => ∃ (carry_1 : Int) (x17 : Int) (l4_3 : List Int),cO N va b bH m carry_1 x17 l4_3 = some res5 ∧ Ghost 0 s h (aK 69 [(2,(.ptr 0 0)),(3,(.ptr 1 0)),(4,(.ptr 2 0)),(5,(.ptr 3 0)),(6,(.ptr 4 0)),(7,(eI .i64 bH)),(8,(eI .u64 carry_1)),(14,(eI .i64 bH)),(17,(eI .i64 x17))]) [some ⟨31,va.map (eI .u64)⟩,some ⟨31,b.map (eI .u64)⟩,some ⟨31,(List.replicate 4 0).map (eI .u64)⟩,some ⟨31,(List.replicate 4 0).map (eI .u64)⟩,some ⟨160,l4_3.map (eI .u64)⟩]) (n := N) ⟨0,0,l4,hL5,(zG [0,1,2,3,4])⟩ (by rintro s h ⟨_,_,_,h0,_⟩; simp [cO] at h0) ?_
  rintro m5 s h ⟨carry_1,x17,l4_3,hr5,hg⟩
  refine AB.ghost hg ?_
  clear hg hL5
  rw [cO] at hr5
  refine zz ?_
  refine AB.seq ?_
  refine zk hr5 rfl (fun h8 hr5 => ?_) (fun h8 hr5 => ?_)
  ·refine zz ?_
   refine AB.seq <| AB.block ?_
   refine zz ?_
   refine AB.seq ?_
   obtain ⟨c5,h_9,hr5⟩ := aC hr5
   obtain ⟨x25,h_10,hr5⟩ := aC hr5
   obtain ⟨x27,h_11,hr5⟩ := aC hr5
   refine AB.rs mixed [121] [] [[0,1,2,3,4,5,6,7,8,9,10,11]] ?_
   refine zz ?_
   refine xu (aAS h_11) ?_
   obtain ⟨x35,h_13,hr5⟩ := aC hr5
   obtain ⟨x37,h_14,hr5⟩ := aC hr5
   refine zz ?_
   refine xp (jY h_14) ?_
   obtain ⟨x46,h_15,hr5⟩ := aC hr5
   refine zz ?_
   refine xp (jY h_15) ?_
   refine zz ?_
   exact ⟨IntKind.u64.wrap ((IntKind.u64.wrap (x27.1 + x37.2)) + x46.2),IntKind.i64.wrap (x17 + 1),l4_3.set (Int.toNat (IntKind.i64.wrap (bH + x17))) x46.1,hr5,(zG [0,1,2,3,4])⟩
  ·refine zz ?_
   obtain rfl := sj hr5
   refine zz ?_
   exact hG4 _ _ _ _ (zG [0,1,2,3,4]) (J4 carry_1 l4_3 hr2)
 ·refine zz ?_
  obtain rfl := sj hr2
  refine zz ?_
  exact hG1 _ _ _ _ (zG [2,3,4]) (J1 l4 hr)
theorem aCZ {N : Nat} {va : List Int} {low : Int} {r : (List Int) × Int} (hr : qV N va low = some r) :
  Vm.Fn Tryz.prog 154 [] [(.agg (va.map (eI .u64))),(eI .u64 low)] (.tup [(.agg (r.1.map (eI .u64))),(eI .u64 r.2)]) [] := by
 refine zf Tryz.func154 Tryz.ntmps154 ?_
 unfold qV at hr
 refine zz ?_
 refine AB.seq_g fun K1 hK1 hG1 => ?_
 have J1 : ∀ (aGs : Int) (l0 : List Int),vQ N aGs l0 = some r → K1 (aK 25 [(1,(eI .u64 aGs)),(2,(.ptr 0 0)),(4,(.ptr 1 0))]) [some ⟨31,l0.map (eI .u64)⟩,some ⟨31,(List.replicate 4 0).map (eI .u64)⟩] := by
  intro aGs l0 hr
  unfold vQ at hr
  refine hK1 _ _ ?_
  obtain ⟨q,h_1,hr⟩ := aC hr
  refine zz ?_
  obtain rfl := sj hr
  exact wM Tryz.results154 bM bM (qH [])
 obtain ⟨bO,hL2,hr⟩ := aC hr
 refine zz ?_
 refine AB.block <| AB.loopN (fun m s h => ∃ (low_2 : Int) (x7 : Int) (a9 : List Int),lR N m low_2 x7 a9 = some bO ∧ Ghost 0 s h (aK 25 [(1,(eI .u64 low_2)),(2,(.ptr 0 0)),(4,(.ptr 1 0)),(7,(eI .i64 x7))]) [some ⟨31,a9.map (eI .u64)⟩,some ⟨31,(List.replicate 4 0).map (eI .u64)⟩]) (n := N) ⟨low,0,va,hL2,(zG [0,1])⟩ (by rintro s h ⟨_,_,_,h0,_⟩; simp [lR] at h0) ?_
 rintro m2 s h ⟨low_2,x7,a9,hr2,hg⟩
 refine AB.ghost hg ?_
 clear hg hL2
 rw [lR] at hr2
 refine zz ?_
 refine AB.seq ?_
 refine zk hr2 rfl (fun h2 hr2 => ?_) (fun h2 hr2 => ?_)
 ·refine zz ?_
  refine AB.seq <| AB.block ?_
  obtain ⟨eM,h_3,hr2⟩ := aC hr2
  obtain ⟨bH,h_4,hr2⟩ := aC hr2
  obtain ⟨dX,h_5,hr2⟩ := aC hr2
  refine zz ?_
  refine AB.rs mixed [] [] [[0,1,2,3,4,5,6,7,8,9,10,11,12,13]] ?_
  refine zz ?_
  exact ⟨dX,IntKind.i64.wrap (x7 + 1),a9.set (Int.toNat x7) (bits .or .u64 bH low_2),hr2,(zG [0,1])⟩
 ·refine zz ?_
  obtain rfl := sj hr2
  refine zz ?_
  exact hG1 _ _ _ _ (zG [0,1]) (J1 low_2 a9 hr)
theorem aAV {N : Nat} {x y c : Int} {r : Int × Int} (hr : qA N x y c = some r) : Vm.Fn Tryz.prog 115 [] [(eI .u64 x),(eI .u64 y),(eI .u64 c)] (.tup [(eI .u64 r.1),(eI .u64 r.2)]) [] :=
 aOj Tryz.func115 (by kernel_rfl) (by kernel_rfl) (by kernel_rfl) (by kernel_rfl) hr
theorem aCD {N : Nat} {va : List Int} {b : List Int} {r : (List Int) × Bool} (hr : qS N va b = some r) :
  Vm.Fn Tryz.prog 137 [] [(.agg (va.map (eI .u64))),(.agg (b.map (eI .u64)))] (.tup [(.agg (r.1.map (eI .u64))),(eB r.2)]) [] := by
 refine zf Tryz.func137 Tryz.ntmps137 ?_
 unfold qS at hr
 refine zz ?_
 refine AB.seq_g fun K1 hK1 hG1 => ?_
 have J1 : ∀ (borrow : Int) (l1 : List Int),v9 N borrow l1 = some r → K1 (aK 29 [(4,(.ptr 0 0)),(6,(.ptr 1 0)),(7,(eI .u64 borrow))]) [some ⟨31,(List.replicate 4 0).map (eI .u64)⟩,some ⟨31,l1.map (eI .u64)⟩] := by
  intro borrow l1 hr
  unfold v9 at hr
  refine hK1 _ _ ?_
  obtain ⟨q,h_1,hr⟩ := aC hr
  refine zz ?_
  obtain rfl := sj hr
  exact wM Tryz.results137 bM bM (qH [])
 obtain ⟨bO,hL2,hr⟩ := aC hr
 refine zz ?_
 refine AB.block <| AB.loopN (fun m s h => ∃ (borrow_1 : Int) (x9 : Int) (l3 : List Int),jF N va b m borrow_1 x9 l3 = some bO ∧ Ghost 0 s h (aK 29 [(2,(.ptr 0 0)),(3,(.ptr 1 0)),(4,(.ptr 2 0)),(6,(.ptr 3 0)),(7,(eI .u64 borrow_1)),(9,(eI .i64 x9))]) [some ⟨31,va.map (eI .u64)⟩,some ⟨31,b.map (eI .u64)⟩,some ⟨31,(List.replicate 4 0).map (eI .u64)⟩,some ⟨31,l3.map (eI .u64)⟩]) (n := N) ⟨0,0,List.replicate 4 0,hL2,(zG [0,1,2,3])⟩ (by rintro s h ⟨_,_,_,h0,_⟩; simp [jF] at h0) ?_
 rintro m2 s h ⟨borrow_1,x9,l3,hr2,hg⟩
 refine AB.ghost hg ?_
 clear hg hL2
 rw [jF] at hr2
 refine zz ?_
 refine AB.seq ?_
 refine zk hr2 rfl (fun h2 hr2 => ?_) (fun h2 hr2 => ?_)
 ·refine zz ?_
  refine AB.seq <| AB.block ?_
  obtain ⟨x15,h_3,hr2⟩ := aC hr2
  obtain ⟨x18,h_4,hr2⟩ := aC hr2
  obtain ⟨dI,h_5,hr2⟩ := aC hr2
  obtain ⟨fW,h_7,hr2⟩ := aC hr2
  refine zz ?_
  refine AB.rs mixed [115] [] [[0,1,2,3,4,5,6,7,8,9,10,11,12,13,14]] ?_
  refine zz ?_
  refine xu (aAV h_5) ?_
  refine zz ?_
  exact ⟨dI.2,IntKind.i64.wrap (x9 + 1),l3.set (Int.toNat x9) dI.1,hr2,(zG [0,1,2,3])⟩
 ·refine zz ?_
  obtain rfl := sj hr2
  refine zz ?_
  exact hG1 _ _ _ _ (zG [2,3]) (J1 borrow_1 l3 hr)
theorem aFn {N : Nat} {hi : List Int} {lo : List Int} {b : List Int} {r : (List Int) × (List Int) × Bool} (hr : aAd N hi lo b = some r) :
  Vm.Fn Tryz.prog 150 [] [(.agg (hi.map (eI .u64))),(.agg (lo.map (eI .u64))),(.agg (b.map (eI .u64)))] (.tup [(.agg (r.1.map (eI .u64))),(.agg (r.2.1.map (eI .u64))),(eB r.2.2)]) [] := by
 refine zf Tryz.func150 Tryz.ntmps150 ?_
 unfold aAd at hr
 refine zz ?_
 refine AB.scope <| AB.seq ?_
 obtain ⟨q,h_1,hr⟩ := aC hr
 obtain ⟨q_1,h_2,hr⟩ := aC hr
 obtain ⟨x16,h_3,hr⟩ := aC hr
 refine zz ?_
 refine xp (tC h_3) ?_
 refine zz ?_
 refine zk hr rfl (fun h4 hr => ?_) (fun h4 hr => ?_)
 ·refine zz ?_
  refine xw (v := (.agg ([0,0,0,0].map (eI .u64)))) (bQ rfl (jO bX kC rfl)) <| xw (v := (.agg ([0,0,0,0].map (eI .u64)))) (bQ rfl (jO bX kC rfl)) ?_
  refine zz ?_
  obtain rfl := sj hr
  exact zr3 Tryz.results150 bM bM bM (qH [])
 ·refine zz ?_
  refine xw (v := (.agg ([0,0,0,0].map (eI .u64)))) (bQ rfl (jO bX kC rfl)) ?_
  refine zz ?_
  refine AB.seq <| AB.label ?_
  refine zz ?_
  refine AB.seq_g fun K1 hK1 hG1 => ?_
  have J1 : ∀ (l0 : List Int) (l1 : List Int),aAJ N l0 l1 = some r → K1 (aK 72 [(6,(.ptr 0 0)),(7,(.ptr 1 0))]) [some ⟨31,l0.map (eI .u64)⟩,some ⟨31,l1.map (eI .u64)⟩] := by
   intro l0 l1 hr
   unfold aAJ at hr
   refine hK1 _ _ <| AB.seq ?_
   obtain ⟨q_2,h_5,hr⟩ := aC hr
   obtain ⟨q_3,h_6,hr⟩ := aC hr
   refine AB.rd (d7 []) (d7 []) mixed <| DrawG.pick (n := 4) (i := 0) (by decide +kernel) rfl (gS (v := (.agg (l0.map (eI .u64)))) (sv (bW rfl (xT (E := (eI .u64)) (l := l0) bX rfl rfl (aZ h_5))))) ?_
   refine DrawG.jn (m := 2) (L := lst [0,1,2] 5) (s1 := aK 72 [(6,(.ptr 0 0)),(7,(.ptr 1 0)),(71,(.agg (l1.map (eI .u64))))]) (h1 := [some ⟨31,l0.map (eI .u64)⟩,some ⟨31,l1.map (eI .u64)⟩]) ?_ (fun J => ?_)
   ·refine DrawG.pick (n := 1) (i := 3) (by decide +kernel) rfl (gN (h' := [some ⟨31,l0.map (eI .u64)⟩,some ⟨31,l1.map (eI .u64)⟩]) (sv (bN rfl rfl (q5 (E := (eI .u64)) (l := l1) bX rfl rfl (fun _ => rfl) (aZ h_6) (aZ h_6) rfl)))) <| DrawG.pick (n := 0) (i := 4) (by decide +kernel) rfl (gS (v := (eB true)) (sv (q4 rfl))) <| DrawG.nil (by decide +kernel) ?_
    refine zz ?_
    obtain rfl := sj hr
    exact zr3 Tryz.results150 bM bM bM (qH [])
   ·refine DrawG.fork (n := 3) [1,2] (by decide +kernel) (by decide) ?_
    refine (Fork.cons rfl (gS (v := (.agg (l1.map (eI .u64)))) (sv (bW rfl (xT (E := (eI .u64)) (l := l1) bX rfl rfl (aZ h_6))))) ?_ (Fork.cons rfl (gN (h' := [some ⟨31,l0.map (eI .u64)⟩,some ⟨31,l1.map (eI .u64)⟩]) (sv (bN rfl rfl (q5 (E := (eI .u64)) (l := l0) bX rfl rfl (fun _ => rfl) (aZ h_5) (aZ h_5) rfl)))) ?_ Fork.nil))
    ·refine DrawG.pick (n := 2) (i := 2) (by decide +kernel) rfl (gN (h' := [some ⟨31,l0.map (eI .u64)⟩,some ⟨31,l1.map (eI .u64)⟩]) (sv (bN rfl rfl (q5 (E := (eI .u64)) (l := l0) bX rfl rfl (fun _ => rfl) (aZ h_5) (aZ h_5) rfl)))) ?_
     exact DrawG.jg (by decide +kernel) (by decide +kernel) (zG [0,1]) J
    ·refine DrawG.pick (n := 2) (i := 1) (by decide +kernel) rfl (gS (v := (.agg (l1.map (eI .u64)))) (sv (bW rfl (xT (E := (eI .u64)) (l := l1) bX rfl rfl (aZ h_6))))) ?_
     exact DrawG.jg (by decide +kernel) (by decide +kernel) (zG [0,1]) J
  obtain ⟨bO,hL2,hr⟩ := aC hr
  refine zz ?_
  refine AB.block <| AB.loopN (fun m s h => ∃ (cH : Int) (a9 : List Int) (l2 : List Int) (l3 : List Int),l8 N b m cH a9 l2 l3 = some bO ∧ Ghost 0 s h (aK 72 [(4,(.ptr 0 0)),(5,(.ptr 1 0)),(6,(.ptr 2 0)),(7,(.ptr 3 0)),(9,(.ptr 4 0)),(10,(eI .i64 cH))]) [some ⟨31,a9.map (eI .u64)⟩,some ⟨31,b.map (eI .u64)⟩,some ⟨31,l2.map (eI .u64)⟩,some ⟨31,l3.map (eI .u64)⟩,some ⟨31,[0,0,0,0].map (eI .u64)⟩]) (n := N) ⟨3,lo,List.replicate 4 0,hi,hL2,(zG [1,2,3,4,5])⟩ (by rintro s h ⟨_,_,_,_,h0,_⟩; simp [l8] at h0) ?_
  rintro m2 s h ⟨cH,a9,l2,l3,hr2,hg⟩
  refine AB.ghost hg ?_
  clear hg hL2
  rw [l8] at hr2
  refine AB.seq ?_
  refine zz ?_
  refine zk hr2 rfl (fun h7 hr2 => ?_) (fun h7 hr2 => ?_)
  ·refine zz ?_
   refine AB.seq_g fun K3 hK3 hG3 => ?_
   have J3 : ∀ (jM : List Int) (dE : List Int) (eK : List Int),aAD N b cH (l8 N b m2) jM dE eK = some bO → K3 (aK 72 [(4,(.ptr 0 0)),(5,(.ptr 1 0)),(6,(.ptr 2 0)),(7,(.ptr 3 0)),(9,(.ptr 4 0)),(10,(eI .i64 cH))]) [some ⟨31,jM.map (eI .u64)⟩,some ⟨31,b.map (eI .u64)⟩,some ⟨31,dE.map (eI .u64)⟩,some ⟨31,eK.map (eI .u64)⟩,some ⟨31,[0,0,0,0].map (eI .u64)⟩] := by
    intro jM dE eK hr2
    unfold aAD at hr2
    refine hK3 _ _ ?_
    refine zz ?_
    exact ⟨IntKind.i64.wrap (cH - 1),jM,dE,eK,hr2,(zG [0,1,2,3,4])⟩
   refine AB.block ?_
   obtain ⟨res4,hL4,hr2⟩ := aC hr2
   refine zz ?_
   refine AB.block <| AB.loopN (fun m s h => ∃ (bit : Int) (iF : List Int) (iP : List Int) (cJ : List Int),cZ N b cH m bit iF iP cJ = some res4 ∧ Ghost 0 s h (aK 72 [(4,(.ptr 0 0)),(5,(.ptr 1 0)),(6,(.ptr 2 0)),(7,(.ptr 3 0)),(9,(.ptr 4 0)),(10,(eI .i64 cH)),(11,(eI .i64 bit))]) [some ⟨31,iF.map (eI .u64)⟩,some ⟨31,b.map (eI .u64)⟩,some ⟨31,iP.map (eI .u64)⟩,some ⟨31,cJ.map (eI .u64)⟩,some ⟨31,[0,0,0,0].map (eI .u64)⟩]) (n := N) ⟨63,a9,l2,l3,hL4,(zG [0,1,2,3,4])⟩ (by rintro s h ⟨_,_,_,_,h0,_⟩; simp [cZ] at h0) ?_
   rintro m4 s h ⟨bit,iF,iP,cJ,hr4,hg⟩
   refine AB.ghost hg ?_
   clear hg hL4
   rw [cZ] at hr4
   refine AB.seq ?_
   refine zz ?_
   refine zk hr4 rfl (fun h8 hr4 => ?_) (fun h8 hr4 => ?_)
   ·refine zz ?_
    refine AB.seq_g fun K5 hK5 hG5 => ?_
    have J5 : ∀ (aHz : List Int) (aHC : List Int) (lJ : List Int),s7 N b cH bit (cZ N b cH m4) aHz aHC lJ = some res4 → K5 (aK 72 [(4,(.ptr 0 0)),(5,(.ptr 1 0)),(6,(.ptr 2 0)),(7,(.ptr 3 0)),(9,(.ptr 4 0)),(10,(eI .i64 cH)),(11,(eI .i64 bit))]) [some ⟨31,aHz.map (eI .u64)⟩,some ⟨31,b.map (eI .u64)⟩,some ⟨31,aHC.map (eI .u64)⟩,some ⟨31,lJ.map (eI .u64)⟩,some ⟨31,[0,0,0,0].map (eI .u64)⟩] := by
     intro aHz aHC lJ hr4
     unfold s7 at hr4
     refine hK5 _ _ ?_
     refine zz ?_
     exact ⟨IntKind.i64.wrap (bit - 1),aHz,aHC,lJ,hr4,(zG [0,1,2,3,4])⟩
    refine AB.block <| AB.seq ?_
    refine AB.seq_g fun K6 hK6 hG6 => ?_
    have J6 : ∀ (x37 : Bool),s8 N b cH bit iF iP cJ (cZ N b cH m4) x37 = some res4 → K6 (aK 72 [(4,(.ptr 0 0)),(5,(.ptr 1 0)),(6,(.ptr 2 0)),(7,(.ptr 3 0)),(9,(.ptr 4 0)),(10,(eI .i64 cH)),(11,(eI .i64 bit)),(37,(eB x37))]) [some ⟨31,iF.map (eI .u64)⟩,some ⟨31,b.map (eI .u64)⟩,some ⟨31,iP.map (eI .u64)⟩,some ⟨31,cJ.map (eI .u64)⟩,some ⟨31,[0,0,0,0].map (eI .u64)⟩] := by
     intro x37 hr4
     unfold s8 at hr4
     refine hK6 _ _ ?_
     refine zk hr4 rfl (fun h9 hr4 => ?_) (fun h9 hr4 => ?_)
     ·refine zz ?_
      obtain rfl := sj hr4
      obtain rfl := sj hr2
      refine zz ?_
      exact hG1 _ _ _ _ (zG [2,3]) (J1 iP cJ hr)
     ·obtain ⟨q_4,h_10,hr4⟩ := aC hr4
      obtain ⟨x40,h_11,hr4⟩ := aC hr4
      obtain ⟨q_5,h_12,hr4⟩ := aC hr4
      refine zz ?_
      refine xp (aCZ h_11) ?_
      obtain ⟨q_6,h_13,hr4⟩ := aC hr4
      obtain ⟨x46,h_14,hr4⟩ := aC hr4
      obtain ⟨q_7,h_15,hr4⟩ := aC hr4
      refine zz ?_
      refine xp (aCZ h_14) ?_
      refine zz ?_
      refine AB.seq_g fun K7 hK7 hG7 => ?_
      have J7 : ∀ (x56 : Bool),qZ N b cH bit iP x40 x46 (cZ N b cH m4) x56 = some res4 → K7 (aK 72 [(4,(.ptr 0 0)),(5,(.ptr 1 0)),(6,(.ptr 2 0)),(7,(.ptr 3 0)),(9,(.ptr 4 0)),(10,(eI .i64 cH)),(11,(eI .i64 bit)),(56,(eB x56))]) [some ⟨31,x40.1.map (eI .u64)⟩,some ⟨31,b.map (eI .u64)⟩,some ⟨31,iP.map (eI .u64)⟩,some ⟨31,x46.1.map (eI .u64)⟩,some ⟨31,[0,0,0,0].map (eI .u64)⟩] := by
       intro x56 hr4
       unfold qZ at hr4
       refine hK7 _ _ ?_
       refine zk hr4 rfl (fun h16 hr4 => ?_) (fun h16 hr4 => ?_)
       ·obtain ⟨x60,h_17,hr4⟩ := aC hr4
        obtain ⟨q_8,h_18,hr4⟩ := aC hr4
        refine zz ?_
        refine xp (aCD h_17) ?_
        obtain ⟨x64,h_19,hr4⟩ := aC hr4
        obtain ⟨x67,h_20,hr4⟩ := aC hr4
        refine zz ?_
        refine AB.rs mixed [] [] [[0,1,2,3,4,5,6,7]] ?_
        refine zz ?_
        exact hG5 _ _ _ _ (zG [0,1,2,3,4]) (J5 x40.1 (iP.set (Int.toNat cH) (bits .or .u64 x64 x67)) x60.1 hr4)
       ·refine zz ?_
        exact hG5 _ _ _ _ (zG [0,1,2,3,4]) (J5 x40.1 iP x46.1 hr4)
      rcases Bool.eq_false_or_eq_true (x46.2 != 0) with h21 | h21
      ·replace hr4 := eO hr4 h21
       refine xr ?_
       refine zz ?_
       exact hG7 _ _ _ _ (zG [0,1,2,3,4]) (J7 true hr4)
      ·replace hr4 := eP hr4 h21
       obtain ⟨x54,h_22,hr4⟩ := aC hr4
       refine xr ?_
       refine zz ?_
       refine xCg (v := (eI .i64 x54)) (h' := [some ⟨31,x40.1.map (eI .u64)⟩,some ⟨31,b.map (eI .u64)⟩,some ⟨31,iP.map (eI .u64)⟩,some ⟨31,x46.1.map (eI .u64)⟩,some ⟨31,[0,0,0,0].map (eI .u64)⟩]) rfl rfl h21 rfl (Vm.Fn.pure (tC h_22) zR rfl) ?_
       refine zz ?_
       exact hG7 _ _ _ _ (zG [0,1,2,3,4]) (J7 (decide (0 ≤ x54)) hr4)
    obtain ⟨q_9,h_23,hr4⟩ := aC hr4
    rcases Bool.eq_false_or_eq_true (cJ == [0,0,0,0]) with h24 | h24
    ·replace hr4 := eO hr4 h24
     obtain ⟨aTi,h_25,hr4⟩ := aC hr4
     refine xr ?_
     refine zz ?_
     exact hG6 _ _ _ _ (zG [0,1,2,3,4]) (J6 (iF == [0,0,0,0]) hr4)
    ·replace hr4 := eP hr4 h24
     refine xr ?_
     refine zz ?_
     exact hG6 _ _ _ _ (zG [0,1,2,3,4]) (J6 false hr4)
   ·refine zz ?_
    obtain rfl := sj hr4
    refine zz ?_
    exact hG3 _ _ _ _ (zG [0,1,2,3,4]) (J3 iF iP cJ hr2)
  ·refine zz ?_
   obtain rfl := sj hr2
   refine zz ?_
   exact hG1 _ _ _ _ (zG [2,3]) (J1 l2 l3 hr)
theorem aAa {N : Nat} {va : List Int} {vm : List Int} {r : (List Int)} (hr : qX N va vm = some r) :
  Vm.Fn Tryz.prog 151 [] [(.agg (va.map (eI .u64))),(.agg (vm.map (eI .u64)))] (.agg (r.map (eI .u64))) [] := by
 refine zf Tryz.func151 Tryz.ntmps151 ?_
 unfold qX at hr
 refine zz ?_
 refine AB.seq ?_
 obtain ⟨q,h_1,hr⟩ := aC hr
 obtain ⟨q_1,h_2,hr⟩ := aC hr
 obtain ⟨bV,h_3,hr⟩ := aC hr
 refine zz ?_
 refine xp (tC h_3) ?_
 refine zz ?_
 refine zk hr rfl (fun h4 hr => ?_) (fun h4 hr => ?_)
 ·refine zz ?_
  obtain rfl := sj hr
  exact fD Tryz.results151 bM (zG [])
 ·obtain ⟨x17,h_5,hr⟩ := aC hr
  obtain ⟨q_2,h_6,hr⟩ := aC hr
  obtain ⟨q_3,h_7,hr⟩ := aC hr
  refine zz ?_
  refine xw (v := (.agg ([0,0,0,0].map (eI .u64)))) (bQ rfl (jO bX kC rfl)) ?_
  refine zz ?_
  refine xp (aFn h_5) ?_
  refine zz ?_
  obtain rfl := sj hr
  exact fD Tryz.results151 bM (zG [])
theorem aHs {N : Nat} {va : List Int} {b : List Int} {vm : List Int} {r : (List Int)} (hr : wA N va b vm = some r) :
  Vm.Fn Tryz.prog 145 [] [(.agg (va.map (eI .u64))),(.agg (b.map (eI .u64))),(.agg (vm.map (eI .u64)))] (.agg (r.map (eI .u64))) [] := by
 refine zf Tryz.func145 Tryz.ntmps145 ?_
 unfold wA at hr
 refine zz ?_
 refine AB.seq ?_
 obtain ⟨q,h_1,hr⟩ := aC hr
 refine zz ?_
 refine xw (v := (.agg ([0,0,0,0].map (eI .u64)))) (bQ rfl (jO bX kC rfl)) ?_
 refine zz ?_
 refine zk hr rfl (fun h2 hr => ?_) (fun h2 hr => ?_)
 ·refine zz ?_
  refine xw (v := (.agg ([0,0,0,0].map (eI .u64)))) (bQ rfl (jO bX kC rfl)) ?_
  refine zz ?_
  obtain rfl := sj hr
  exact fD Tryz.results145 bM (zG [])
 ·obtain ⟨q_1,h_3,hr⟩ := aC hr
  obtain ⟨q_2,h_4,hr⟩ := aC hr
  obtain ⟨x19,h_5,hr⟩ := aC hr
  obtain ⟨q_3,h_6,hr⟩ := aC hr
  obtain ⟨q_4,h_7,hr⟩ := aC hr
  refine zz ?_
  refine xp (aKI h_5) ?_
  refine zz ?_
  refine AB.seq ?_
  obtain ⟨x25,h_8,hr⟩ := aC hr
  obtain ⟨x28,h_10,hr⟩ := aC hr
  obtain ⟨q_5,h_12,hr⟩ := aC hr
  obtain ⟨q_6,h_13,hr⟩ := aC hr
  refine AB.rd (d7 [150,151]) (d7 []) mixed <| DrawG.pick (n := 14) (i := 0) (by decide +kernel) rfl (gS (v := (.agg (x19.1.map (eI .u64)))) (sv (bW rfl (xT (E := (eI .u64)) (l := x19.1) bX rfl rfl (aZ h_6))))) <| DrawG.pick (n := 13) (i := 1) (by decide +kernel) rfl (gS (v := (.agg (vm.map (eI .u64)))) (sv (bW rfl (xT (E := (eI .u64)) (l := vm) bX rfl rfl (aZ h_1))))) <| DrawG.pick (n := 12) (i := 2) (by decide +kernel) rfl (gU (fun _ => (Vm.Fn.pure (aAa h_8) zR zR)) rfl (sv (d6 rfl lQ))) <| DrawG.pick (n := 11) (i := 3) (by decide +kernel) rfl (gS (v := (.agg (x19.2.map (eI .u64)))) (sv (bW rfl (xT (E := (eI .u64)) (l := x19.2) bX rfl rfl (aZ h_7))))) ?_
  refine DrawG.pick (n := 10) (i := 4) (by decide +kernel) rfl (gS (v := (.agg (vm.map (eI .u64)))) (sv (bW rfl (xT (E := (eI .u64)) (l := vm) bX rfl rfl (aZ h_1))))) <| DrawG.pick (n := 9) (i := 5) (by decide +kernel) rfl (gU (fun _ => (Vm.Fn.pure (aFn h_10) zR zR)) rfl (sv (d6 rfl lQ))) <| DrawG.pick (n := 8) (i := 6) (by decide +kernel) rfl (gS (v := (.tup [(.agg (x28.1.map (eI .u64))),(.agg (x28.2.1.map (eI .u64))),(eB x28.2.2)])) (sv (iR rfl))) <| DrawG.pick (n := 7) (i := 7) (by decide +kernel) rfl (gS (v := (.agg (x28.1.map (eI .u64)))) (sv (o9 rfl rfl))) <| DrawG.pick (n := 6) (i := 8) (by decide +kernel) rfl (gS (v := (.agg (x28.2.1.map (eI .u64)))) (sv (o9 rfl rfl))) ?_
  refine DrawG.pick (n := 5) (i := 9) (by decide +kernel) rfl (gS (v := (eB x28.2.2)) (sv (o9 rfl rfl))) ?_
  refine DrawG.jn (m := 1) (L := lst [0,1,2,3,4,5,6,7,8,9,10,11,12,13] 15) (s1 := aK 33 [(6,(.ptr 0 0)),(10,(.ptr 1 0)),(31,(eB x28.2.2))]) (h1 := [some ⟨31,(List.replicate 4 0).map (eI .u64)⟩,some ⟨31,x28.2.1.map (eI .u64)⟩]) ?_ (fun J => ?_)
  ·refine DrawG.pick (n := 0) (i := 14) (by decide +kernel) rfl (gS (v := (eB x28.2.2)) (sv (q4 rfl))) <| DrawG.nil (by decide +kernel) ?_
   refine zz ?_
   obtain rfl := sj hr
   exact fD Tryz.results145 bM (zG [])
  ·refine DrawG.fork (n := 4) [10,11] (by decide +kernel) (by decide) ?_
   refine (Fork.cons rfl (gS (v := (.ptr 6 0)) (h' := [some ⟨31,va.map (eI .u64)⟩,some ⟨31,b.map (eI .u64)⟩,some ⟨31,vm.map (eI .u64)⟩,some ⟨31,(List.replicate 4 0).map (eI .u64)⟩,some ⟨31,x19.1.map (eI .u64)⟩,some ⟨31,x19.2.map (eI .u64)⟩,some ⟨31,(List.replicate 4 0).map (eI .u64)⟩]) (sv (cD bX rfl rfl rfl))) ?_ (Fork.cons rfl (gS (v := (.ptr 6 0)) (h' := [some ⟨31,va.map (eI .u64)⟩,some ⟨31,b.map (eI .u64)⟩,some ⟨31,vm.map (eI .u64)⟩,some ⟨31,(List.replicate 4 0).map (eI .u64)⟩,some ⟨31,x19.1.map (eI .u64)⟩,some ⟨31,x19.2.map (eI .u64)⟩,some ⟨31,(List.replicate 4 0).map (eI .u64)⟩]) (sv (cD bX rfl rfl rfl))) ?_ Fork.nil))
   ·refine DrawG.pick (n := 3) (i := 11) (by decide +kernel) rfl (gS (v := (.ptr 7 0)) (h' := [some ⟨31,va.map (eI .u64)⟩,some ⟨31,b.map (eI .u64)⟩,some ⟨31,vm.map (eI .u64)⟩,some ⟨31,(List.replicate 4 0).map (eI .u64)⟩,some ⟨31,x19.1.map (eI .u64)⟩,some ⟨31,x19.2.map (eI .u64)⟩,some ⟨31,(List.replicate 4 0).map (eI .u64)⟩,some ⟨31,(List.replicate 4 0).map (eI .u64)⟩]) (sv (cD bX rfl rfl rfl))) <| DrawG.pick (n := 2) (i := 12) (by decide +kernel) rfl (gN (h' := [some ⟨31,va.map (eI .u64)⟩,some ⟨31,b.map (eI .u64)⟩,some ⟨31,vm.map (eI .u64)⟩,some ⟨31,(List.replicate 4 0).map (eI .u64)⟩,some ⟨31,x19.1.map (eI .u64)⟩,some ⟨31,x19.2.map (eI .u64)⟩,some ⟨31,x28.1.map (eI .u64)⟩,some ⟨31,(List.replicate 4 0).map (eI .u64)⟩]) (sv (bN rfl rfl (q5 (E := (eI .u64)) (l := List.replicate 4 0) bX rfl rfl (fun _ => rfl) rfl (aZ h_12) rfl)))) ?_
    refine DrawG.pick (n := 1) (i := 13) (by decide +kernel) rfl (gN (h' := [some ⟨31,va.map (eI .u64)⟩,some ⟨31,b.map (eI .u64)⟩,some ⟨31,vm.map (eI .u64)⟩,some ⟨31,(List.replicate 4 0).map (eI .u64)⟩,some ⟨31,x19.1.map (eI .u64)⟩,some ⟨31,x19.2.map (eI .u64)⟩,some ⟨31,x28.1.map (eI .u64)⟩,some ⟨31,x28.2.1.map (eI .u64)⟩]) (sv (bN rfl rfl (q5 (E := (eI .u64)) (l := List.replicate 4 0) bX rfl rfl (fun _ => rfl) rfl (aZ h_13) rfl)))) ?_
    exact DrawG.jg (by decide +kernel) (by decide +kernel) (zG [3,7]) J
   ·refine DrawG.pick (n := 3) (i := 10) (by decide +kernel) rfl (gS (v := (.ptr 7 0)) (h' := [some ⟨31,va.map (eI .u64)⟩,some ⟨31,b.map (eI .u64)⟩,some ⟨31,vm.map (eI .u64)⟩,some ⟨31,(List.replicate 4 0).map (eI .u64)⟩,some ⟨31,x19.1.map (eI .u64)⟩,some ⟨31,x19.2.map (eI .u64)⟩,some ⟨31,(List.replicate 4 0).map (eI .u64)⟩,some ⟨31,(List.replicate 4 0).map (eI .u64)⟩]) (sv (cD bX rfl rfl rfl))) <| DrawG.pick (n := 2) (i := 12) (by decide +kernel) rfl (gN (h' := [some ⟨31,va.map (eI .u64)⟩,some ⟨31,b.map (eI .u64)⟩,some ⟨31,vm.map (eI .u64)⟩,some ⟨31,(List.replicate 4 0).map (eI .u64)⟩,some ⟨31,x19.1.map (eI .u64)⟩,some ⟨31,x19.2.map (eI .u64)⟩,some ⟨31,(List.replicate 4 0).map (eI .u64)⟩,some ⟨31,x28.1.map (eI .u64)⟩]) (sv (bN rfl rfl (q5 (E := (eI .u64)) (l := List.replicate 4 0) bX rfl rfl (fun _ => rfl) rfl (aZ h_12) rfl)))) ?_
    refine DrawG.pick (n := 1) (i := 13) (by decide +kernel) rfl (gN (h' := [some ⟨31,va.map (eI .u64)⟩,some ⟨31,b.map (eI .u64)⟩,some ⟨31,vm.map (eI .u64)⟩,some ⟨31,(List.replicate 4 0).map (eI .u64)⟩,some ⟨31,x19.1.map (eI .u64)⟩,some ⟨31,x19.2.map (eI .u64)⟩,some ⟨31,x28.2.1.map (eI .u64)⟩,some ⟨31,x28.1.map (eI .u64)⟩]) (sv (bN rfl rfl (q5 (E := (eI .u64)) (l := List.replicate 4 0) bX rfl rfl (fun _ => rfl) rfl (aZ h_13) rfl)))) ?_
    exact DrawG.jg (by decide +kernel) (by decide +kernel) (zG [3,6]) J
theorem aB9 {N : Nat} {va : List Int} {b : List Int} {r : (List Int)} (hr : uG N va b = some r) :
  Vm.Fn Tryz.prog 139 [] [(.agg (va.map (eI .u64))),(.agg (b.map (eI .u64)))] (.agg (r.map (eI .u64))) [] := by
 refine zf Tryz.func139 Tryz.ntmps139 ?_
 unfold uG at hr
 refine zz ?_
 refine AB.seq ?_
 obtain ⟨q,h_1,hr⟩ := aC hr
 obtain ⟨q_1,h_2,hr⟩ := aC hr
 obtain ⟨x7,h_3,hr⟩ := aC hr
 obtain ⟨x8,h_5,hr⟩ := aC hr
 obtain ⟨q_2,h_7,hr⟩ := aC hr
 refine AB.rs mixed [144,145] [] [[0,1,2,3,4]] ?_
 refine zz ?_
 refine xu (aBP h_3) <| xu (aHs h_5) ?_
 refine zz ?_
 obtain rfl := sj hr
 exact fD Tryz.results139 bM (zG [])
theorem aBY {N : Nat} {va : List Int} {ve : List Int} {r : (List Int)} (hr : uK N va ve = some r) :
  Vm.Fn Tryz.prog 141 [] [(.agg (va.map (eI .u64))),(.agg (ve.map (eI .u64)))] (.agg (r.map (eI .u64))) [] := by
 refine zf Tryz.func141 Tryz.ntmps141 ?_
 unfold uK at hr
 obtain ⟨x9,h_1,hr⟩ := aC hr
 obtain ⟨q,h_2,hr⟩ := aC hr
 refine zz ?_
 refine xp (oA h_1) ?_
 obtain ⟨q_1,h_3,hr⟩ := aC hr
 obtain ⟨b4,h_4,hr⟩ := aC hr
 refine zz ?_
 refine xp (aKC h_4) ?_
 refine zz ?_
 refine AB.seq_g fun K1 hK1 hG1 => ?_
 have J1 : ∀ (l1 : List Int),yH N l1 = some r → K1 (aK 37 [(4,(.ptr 0 0)),(5,(.ptr 1 0))]) [some ⟨31,(List.replicate 4 0).map (eI .u64)⟩,some ⟨31,l1.map (eI .u64)⟩] := by
  intro l1 hr
  unfold yH at hr
  refine hK1 _ _ ?_
  obtain ⟨q_2,h_5,hr⟩ := aC hr
  refine zz ?_
  obtain rfl := sj hr
  exact fD Tryz.results141 bM (zG [])
 obtain ⟨bO,hL2,hr⟩ := aC hr
 refine zz ?_
 refine AB.block <| AB.loopN (fun m s h => ∃ (eD : Int) (l3 : List Int),kD N va ve b4 m eD l3 = some bO ∧ Ghost 0 s h (aK 37 [(2,(.ptr 0 0)),(3,(.ptr 1 0)),(4,(.ptr 2 0)),(5,(.ptr 3 0)),(6,(eI .i64 b4)),(12,(eI .i64 b4)),(13,(eI .i64 eD))]) [some ⟨31,va.map (eI .u64)⟩,some ⟨31,ve.map (eI .u64)⟩,some ⟨31,(List.replicate 4 0).map (eI .u64)⟩,some ⟨31,l3.map (eI .u64)⟩]) (n := N) ⟨0,x9,hL2,(zG [0,1,2,3])⟩ (by rintro s h ⟨_,_,h0,_⟩; simp [kD] at h0) ?_
 rintro m2 s h ⟨eD,l3,hr2,hg⟩
 refine AB.ghost hg ?_
 clear hg hL2
 rw [kD] at hr2
 refine zz ?_
 refine AB.seq ?_
 refine zk hr2 rfl (fun h6 hr2 => ?_) (fun h6 hr2 => ?_)
 ·refine zz ?_
  refine AB.seq_g fun K3 hK3 hG3 => ?_
  have J3 : ∀ (eK : List Int),rW N va ve b4 eD (kD N va ve b4 m2) eK = some bO → K3 (aK 37 [(2,(.ptr 0 0)),(3,(.ptr 1 0)),(4,(.ptr 2 0)),(5,(.ptr 3 0)),(6,(eI .i64 b4)),(12,(eI .i64 b4)),(13,(eI .i64 eD))]) [some ⟨31,va.map (eI .u64)⟩,some ⟨31,ve.map (eI .u64)⟩,some ⟨31,(List.replicate 4 0).map (eI .u64)⟩,some ⟨31,eK.map (eI .u64)⟩] := by
   intro eK hr2
   unfold rW at hr2
   refine hK3 _ _ ?_
   refine zz ?_
   exact ⟨IntKind.i64.wrap (eD + 1),eK,hr2,(zG [0,1,2,3])⟩
  refine AB.block ?_
  obtain ⟨q_3,h_7,hr2⟩ := aC hr2
  obtain ⟨c5,h_8,hr2⟩ := aC hr2
  obtain ⟨q_4,h_9,hr2⟩ := aC hr2
  refine zz ?_
  refine xp (aB9 h_8) ?_
  obtain ⟨x25,h_10,hr2⟩ := aC hr2
  obtain ⟨x29,h_11,hr2⟩ := aC hr2
  refine zz ?_
  refine zk hr2 rfl (fun h12 hr2 => ?_) (fun h12 hr2 => ?_)
  ·obtain ⟨q_5,h_13,hr2⟩ := aC hr2
   obtain ⟨dH,h_14,hr2⟩ := aC hr2
   obtain ⟨q_6,h_15,hr2⟩ := aC hr2
   refine zz ?_
   refine xp (aB9 h_14) ?_
   refine zz ?_
   exact hG3 _ _ _ _ (zG [0,1,2,3]) (J3 dH hr2)
  ·refine zz ?_
   exact hG3 _ _ _ _ (zG [0,1,2,3]) (J3 c5 hr2)
 ·refine zz ?_
  obtain rfl := sj hr2
  refine zz ?_
  exact hG1 _ _ _ _ (zG [2,3]) (J1 l3 hr)
theorem aGk {N : Nat} {va : List Int} {r : Bool} (hr : oZ N va = some r) :
  Vm.Fn Tryz.prog 135 [] [(.agg (va.map (eI .u64)))] (eB r) [] := by
 refine zf Tryz.func135 Tryz.ntmps135 ?_
 unfold oZ at hr
 refine zz ?_
 refine AB.seq ?_
 refine AB.seq_g fun K1 hK1 hG1 => ?_
 have J1 : ∀ (b4 : Bool),kU N va b4 = some r → K1 (aK 17 [(1,(.ptr 0 0)),(11,(eB b4))]) [some ⟨31,va.map (eI .u64)⟩] := by
  intro b4 hr
  unfold kU at hr
  refine hK1 _ _ ?_
  refine zk hr rfl (fun h1 hr => ?_) (fun h1 hr => ?_)
  ·refine zz ?_
   obtain rfl := sj hr
   exact bL Tryz.results135 []
  ·refine zz ?_
   refine AB.seq ?_
   obtain ⟨q,h_2,hr⟩ := aC hr
   obtain ⟨eD,h_3,hr⟩ := aC hr
   obtain ⟨bH,h_5,hr⟩ := aC hr
   obtain ⟨x15,h_7,hr⟩ := aC hr
   obtain ⟨q_1,h_9,hr⟩ := aC hr
   obtain ⟨q_2,h_10,hr⟩ := aC hr
   refine AB.rs mixed [134,138,141] [] [[0,1,2,3,4,5]] ?_
   refine zz ?_
   refine xu (vK h_3) <| xu (aBY h_5) <| xu (oA h_7) ?_
   refine zz ?_
   obtain rfl := sj hr
   exact bL Tryz.results135 []
 obtain ⟨q_3,h_11,hr⟩ := aC hr
 rcases Bool.eq_false_or_eq_true (va == [0,0,0,0]) with h12 | h12
 ·replace hr := eO hr h12
  refine AB.rs mixed [143,144] [] [[0,1,2,3,4,5,6,7,8]] ?_
  refine zz ?_
  refine xw (v := (.agg ([0,0,0,0].map (eI .u64)))) (bQ rfl (jO bX kC rfl)) ?_
  refine zz ?_
  exact hG1 _ _ _ _ (zG [0]) (J1 true hr)
 ·replace hr := eP hr h12
  obtain ⟨x8,h_13,hr⟩ := aC hr
  obtain ⟨x9,h_15,hr⟩ := aC hr
  refine AB.rs mixed [143,144] [] [[0,1,2,3,4,5,6,7,8]] ?_
  refine zz ?_
  refine xw (v := (.agg ([0,0,0,0].map (eI .u64)))) (bQ rfl (jO bX kC rfl)) ?_
  refine zz ?_
  refine xu (aBP h_13) <| xu (tC h_15) ?_
  refine zz ?_
  exact hG1 _ _ _ _ (zG [0]) (J1 (decide (0 ≤ x9)) hr)
theorem aDS {N : Nat} {p : List Int} {r : Bool} (hr : pX N p = some r) :
  Vm.Fn Tryz.prog 131 [] [(.agg (p.map (eI .u64)))] (eB r) [] := by
 refine zf Tryz.func131 Tryz.ntmps131 ?_
 unfold pX at hr
 refine zz ?_
 refine AB.seq_g fun K1 hK1 hG1 => ?_
 have J1 : ∀ (x2 : Bool),wP N x2 = some r → K1 (aK 10 [(2,(eB x2))]) [] := by
  intro x2 hr
  unfold wP at hr
  refine hK1 _ _ ?_
  refine zz ?_
  obtain rfl := sj hr
  exact bL Tryz.results131 []
 obtain ⟨q,h_1,hr⟩ := aC hr
 obtain ⟨x4,h_2,hr⟩ := aC hr
 obtain ⟨q_1,h_4,hr⟩ := aC hr
 rcases Bool.eq_false_or_eq_true (!(p == x4)) with h5 | h5
 ·replace hr := eO hr h5
  obtain ⟨x8,h_6,hr⟩ := aC hr
  refine AB.rs mixed [134,135] [] [[0,1,2,3,4,5,6,7]] ?_
  refine zz ?_
  refine xu (oA h_2) ?_
  refine zz ?_
  refine xu (aGk h_6) ?_
  refine zz ?_
  exact hG1 _ _ _ _ (zG []) (J1 x8 hr)
 ·replace hr := eP hr h5
  refine AB.rs mixed [134,135] [] [[0,1,2,3,4,5,6,7]] ?_
  refine zz ?_
  refine xu (oA h_2) ?_
  refine zz ?_
  exact hG1 _ _ _ _ (zG []) (J1 false hr)
theorem jZ {N : Nat} {va : List Int} {r : Bool} (hr : nV N va = some r) :
  Vm.Fn Tryz.prog 136 [] [(.agg (va.map (eI .u64)))] (eB r) [] := by
 refine zf Tryz.func136 Tryz.ntmps136 ?_
 unfold nV at hr
 refine zz ?_
 refine AB.seq ?_
 obtain ⟨q,h_1,hr⟩ := aC hr
 obtain ⟨x4,h_2,hr⟩ := aC hr
 obtain ⟨x5,h_4,hr⟩ := aC hr
 refine AB.rs mixed [138,143] [] [[0,1,2,3,4]] ?_
 refine zz ?_
 refine xu (vK h_2) <| xu (tC h_4) ?_
 refine zz ?_
 obtain rfl := sj hr
 exact bL Tryz.results136 []
theorem aHF {N : Nat} {b : List Int} {r : (List Int) × (List Int) × Int} (hr : qM N b = some r) :
  Vm.Fn Tryz.prog 132 [] [(.row none 1 (b.map (eI .u8)))] (.tup [(.agg (eQ (eI .u64) r.1 (eQ (eI .u64) r.2.1 []))),(eI .i64 r.2.2)]) [] := by
 refine zf Tryz.func132 Tryz.ntmps132 ?_
 unfold qM at hr
 refine zz ?_
 refine xw (v := (.ptr 0 0)) (h' := [some ⟨37,(eQ (eI .u64) (List.replicate 4 0) (eQ (eI .u64) (List.replicate 4 0) []))⟩]) (cD xH rfl rfl rfl) ?_
 refine zz ?_
 refine AB.seq ?_
 refine zz ?_
 refine zk hr rfl (fun h1 hr => ?_) (fun h1 hr => ?_)
 ·refine zz ?_
  refine xw (v := (.agg (eQ (eI .u64) (List.replicate 4 0) (eQ (eI .u64) (List.replicate 4 0) [])))) (bQ rfl (qL xH aHx rfl)) ?_
  refine zz ?_
  obtain rfl := sj hr
  exact wM Tryz.results132 bM bM (zG [])
 ·refine zz ?_
  refine AB.seq ?_
  obtain ⟨bV,h_2,hr⟩ := aC hr
  obtain ⟨b4,h_3,hr⟩ := aC hr
  obtain ⟨eD,h_4,hr⟩ := aC hr
  obtain ⟨x15,h_6,hr⟩ := aC hr
  obtain ⟨x16,h_7,hr⟩ := aC hr
  obtain ⟨x18,h_8,hr⟩ := aC hr
  obtain ⟨q,h_10,hr⟩ := aC hr
  obtain ⟨q_1,h_11,hr⟩ := aC hr
  refine AB.rs mixed [130] [] [[0,1,2,3,4,5,6,7,8,9,10,11,12]] ?_
  refine zz ?_
  refine xw (v := (.eptr [.agg (b4.map (eI .u8))] 0 0)) (aDx rfl (apR (E := (eI .u8)) i0 (fun _ => rfl) zl h_3)) <| xw (v := (.agg (b4.map (eI .u8)))) (bW rfl (aJt (E := (eI .u8)) (l := b4) i0 rfl (cB h_3))) <| xu (rE h_4) ?_
  refine zz ?_
  refine xw (v := (.eptr [.agg (x16.map (eI .u8))] 0 0)) (aDx rfl (apR (E := (eI .u8)) i0 (fun _ => rfl) zl h_7)) <| xw (v := (.agg (x16.map (eI .u8)))) (bW rfl (aJt (E := (eI .u8)) (l := x16) i0 rfl (cB h_7))) <| xu (rE h_8) <| xw (v := (.agg (eQ (eI .u64) eD (eQ (eI .u64) x18 [])))) (bQ rfl (aLC (ps' := [(0,(.agg (eQ (eI .u64) eD []))),(1,(.agg (eQ (eI .u64) x18 [])))]) (by simp only [aCP (l := eD) (aZ h_10),aCP (l := x18) (aZ h_11)]) (qL xH aHx rfl))) <| xw (v := (.ptr 1 0)) (h' := [some ⟨37,(eQ (eI .u64) (List.replicate 4 0) (eQ (eI .u64) (List.replicate 4 0) []))⟩,some ⟨37,(eQ (eI .u64) (List.replicate 4 0) (eQ (eI .u64) (List.replicate 4 0) []))⟩]) (cD xH rfl rfl rfl) ?_
  refine zz ?_
  refine AB.seq ?_
  refine AB.seq_g fun K1 hK1 hG1 => ?_
  have J1 : ∀ (x29 : Bool),nW N eD x18 x29 = some r → K1 (aK 32 [(2,(.ptr 0 0)),(4,(.ptr 1 0)),(29,(eB x29))]) [some ⟨37,(eQ (eI .u64) (List.replicate 4 0) (eQ (eI .u64) (List.replicate 4 0) []))⟩,some ⟨37,(eQ (eI .u64) eD (eQ (eI .u64) x18 []))⟩] := by
   intro x29 hr
   unfold nW at hr
   refine hK1 _ _ ?_
   refine zk hr rfl (fun h12 hr => ?_) (fun h12 hr => ?_)
   ·refine zz ?_
    refine xw (v := (.agg (eQ (eI .u64) (List.replicate 4 0) (eQ (eI .u64) (List.replicate 4 0) [])))) (bQ rfl (qL xH aHx rfl)) ?_
    refine zz ?_
    obtain rfl := sj hr
    exact wM Tryz.results132 bM bM (zG [])
   ·refine zz ?_
    obtain rfl := sj hr
    exact wM Tryz.results132 bM bM (zG [])
  obtain ⟨c5,h_13,hr⟩ := aC hr
  rcases Bool.eq_false_or_eq_true (!c5) with h14 | h14
  ·replace hr := eO hr h14
   refine xr ?_
   refine zz ?_
   refine xp (jZ h_13) ?_
   refine zz ?_
   exact hG1 _ _ _ _ (zG [0,1]) (J1 true hr)
  ·replace hr := eP hr h14
   obtain ⟨x27,h_15,hr⟩ := aC hr
   refine xr ?_
   refine zz ?_
   refine xp (jZ h_13) ?_
   refine zz ?_
   refine xCg (v := (eB x27)) (h' := [some ⟨37,(eQ (eI .u64) (List.replicate 4 0) (eQ (eI .u64) (List.replicate 4 0) []))⟩,some ⟨37,(eQ (eI .u64) eD (eQ (eI .u64) x18 []))⟩]) rfl rfl h14 rfl (Vm.Fn.pure (jZ h_15) zR rfl) ?_
   refine zz ?_
   exact hG1 _ _ _ _ (zG [0,1]) (J1 (!x27) hr)
theorem aHD {N : Nat} {ve : List Int} {r : (List Int)} (hr : tA N ve = some r) :
  Vm.Fn Tryz.prog 140 [] [(.agg (ve.map (eI .u64)))] (.agg (r.map (eI .u64))) [] := by
 refine zf Tryz.func140 Tryz.ntmps140 ?_
 unfold tA at hr
 refine zz ?_
 refine AB.seq ?_
 obtain ⟨x3,h_1,hr⟩ := aC hr
 obtain ⟨q,h_3,hr⟩ := aC hr
 obtain ⟨x5,h_4,hr⟩ := aC hr
 obtain ⟨q_1,h_6,hr⟩ := aC hr
 refine AB.rs mixed [134,141] [] [[0,1,2,3]] <| xu (oA h_1) ?_
 refine zz ?_
 refine xu (aBY h_4) ?_
 refine zz ?_
 obtain rfl := sj hr
 exact fD Tryz.results140 bM (zG [])
theorem aDU {N : Nat} {va : List Int} {r : (List Int)} (hr : sL N va = some r) :
  Vm.Fn Tryz.prog 34 [] [(.agg (va.map (eI .u64)))] (.agg (r.map (eI .u8))) [] := by
 refine zf Tryz.func34 Tryz.ntmps34 ?_
 unfold sL at hr
 refine zz ?_
 refine AB.seq_g fun K1 hK1 hG1 => ?_
 have J1 : ∀ (l1 : List Int),wU N l1 = some r → K1 (aK 23 [(2,(.ptr 0 0)),(3,(.ptr 1 0))]) [some ⟨24,(List.replicate 32 0).map (eI .u8)⟩,some ⟨24,l1.map (eI .u8)⟩] := by
  intro l1 hr
  unfold wU at hr
  refine hK1 _ _ ?_
  obtain ⟨q,h_1,hr⟩ := aC hr
  refine zz ?_
  obtain rfl := sj hr
  exact fD Tryz.results34 bM (zG [])
 obtain ⟨bO,hL2,hr⟩ := aC hr
 refine zz ?_
 refine AB.block <| AB.loopN (fun m s h => ∃ (x5 : Int) (l2 : List Int),jI N va m x5 l2 = some bO ∧ Ghost 0 s h (aK 23 [(1,(.ptr 0 0)),(2,(.ptr 1 0)),(3,(.ptr 2 0)),(5,(eI .i64 x5))]) [some ⟨31,va.map (eI .u64)⟩,some ⟨24,(List.replicate 32 0).map (eI .u8)⟩,some ⟨24,l2.map (eI .u8)⟩]) (n := N) ⟨0,List.replicate 32 0,hL2,(zG [0,1,2])⟩ (by rintro s h ⟨_,_,h0,_⟩; simp [jI] at h0) ?_
 rintro m2 s h ⟨x5,l2,hr2,hg⟩
 refine AB.ghost hg ?_
 clear hg hL2
 rw [jI] at hr2
 refine zz ?_
 refine AB.seq ?_
 refine zk hr2 rfl (fun h2 hr2 => ?_) (fun h2 hr2 => ?_)
 ·refine zz ?_
  refine AB.seq <| AB.block ?_
  obtain ⟨eM,h_3,hr2⟩ := aC hr2
  obtain ⟨x18,h_4,hr2⟩ := aC hr2
  obtain ⟨dX,h_5,hr2⟩ := aC hr2
  refine zz ?_
  exact ⟨IntKind.i64.wrap (x5 + 1),l2.set (Int.toNat x5) (IntKind.u8.wrap x18),hr2,(zG [0,1,2])⟩
 ·refine zz ?_
  obtain rfl := sj hr2
  refine zz ?_
  exact hG1 _ _ _ _ (zG [1,2]) (J1 l2 hr)
theorem aKG {N : Nat} {parts : List (List Int)} {r : (List Int)} (hr : xD N parts = some r) :
  Vm.Fn Tryz.prog 148 [] [(.row none 32 (parts.map (eA (eI .u8))))] (.sl 0 0 r.length 1 false) [some ⟨5,r.map (eI .u8)⟩] := by
 refine zf Tryz.func148 Tryz.ntmps148 ?_
 unfold xD at hr
 refine zz ?_
 refine AB.seq_g fun K1 hK1 hG1 => ?_
 have J1 : ∀ (l0 : List Int),aCL N l0 = some r → K1 (aK 17 [(3,(.sl 0 0 l0.length 1 false))]) [some ⟨5,l0.map (eI .u8)⟩] := by
  intro l0 hr
  unfold aCL at hr
  refine hK1 _ _ ?_
  refine zz ?_
  obtain rfl := sj hr
  exact bL Tryz.results148 [0]
 obtain ⟨bO,hL2,hr⟩ := aC hr
 refine zz ?_
 refine AB.block <| AB.loopN (fun m s h => ∃ (x8 : Int) (a9 : List Int),nU N parts m x8 a9 = some bO ∧ Ghost 0 s h (aK 17 [(3,(.sl 0 0 a9.length 1 false)),(6,(.row none 32 (parts.map (eA (eI .u8))))),(7,(eI .i64 (parts.length : Int))),(8,(eI .i64 x8))]) [some ⟨5,a9.map (eI .u8)⟩]) (n := N) ⟨0,[],hL2,(zW 5 [0])⟩ (by rintro s h ⟨_,_,h0,_⟩; simp [nU] at h0) ?_
 rintro m2 s h ⟨x8,a9,hr2,hg⟩
 refine AB.ghost hg ?_
 clear hg hL2
 rw [nU] at hr2
 refine zz ?_
 refine AB.seq ?_
 refine zk hr2 rfl (fun h1 hr2 => ?_) (fun h1 hr2 => ?_)
 ·refine zz ?_
  refine AB.seq <| AB.block ?_
  obtain ⟨bV,h_2,hr2⟩ := aC hr2
  obtain ⟨q,h_3,hr2⟩ := aC hr2
  refine zz ?_
  refine xw (v := (.agg (bV.map (eI .u8)))) (bW rfl (aTc (E := (eI .u8)) i0 rfl h_2 (aZ h_3))) ?_
  obtain ⟨bH,h_4,hr2⟩ := aC hr2
  refine zz ?_
  exact ⟨IntKind.i64.wrap (x8 + 1),bH,hr2,(zG [2])⟩
 ·refine zz ?_
  obtain rfl := sj hr2
  refine zz ?_
  exact hG1 _ _ _ _ (zG [0]) (J1 a9 hr)
theorem aDX {N : Nat} {tag : ByteArray} {b : List Int} {r : (List Int)} (hr : vH N tag b = some r) :
  Vm.Fn Tryz.prog 49 [] [(eS tag),(.row none 1 (b.map (eI .u8)))] (.agg (r.map (eI .u8))) [] := by
 refine zf Tryz.func49 Tryz.ntmps49 ?_
 unfold vH at hr
 obtain ⟨x7,h_1,hr⟩ := aC hr
 obtain ⟨x8,h_2,hr⟩ := aC hr
 obtain ⟨q,h_3,hr⟩ := aC hr
 refine zz ?_
 refine aQI (h' := [some ⟨24,(List.replicate 32 0).map (eI .u8)⟩,some ⟨5,x7.map (eI .u8)⟩]) rfl ti9 eU gX h_1 rfl rfl <| xV (aBp h_2) [] [1] ?_
 refine zz ?_
 refine AB.seq ?_
 obtain ⟨eD,h_4,hr⟩ := aC hr
 obtain ⟨bH,h_6,hr⟩ := aC hr
 obtain ⟨q_1,h_8,hr⟩ := aC hr
 refine AB.rs mixed [] [79,80] [[0,1,2],[3,4,5,6]] ?_
 refine zz ?_
 refine ⟨_,_,(zv 2), ?_⟩
 refine zz ?_
 refine zgL (aGc h_4) [] [3] ?_
 refine zgL (aBp h_6) [] [4] ?_
 refine zz ?_
 obtain rfl := sj hr
 exact fD Tryz.results49 bM (zG [])
theorem aKw {N : Nat} {va : List Int} {b : List Int} {r : (List Int) × Bool} (hr : uO N va b = some r) :
  Vm.Fn Tryz.prog 156 [] [(.agg (va.map (eI .u64))),(.agg (b.map (eI .u64)))] (.tup [(.agg (r.1.map (eI .u64))),(eB r.2)]) [] := by
 refine zf Tryz.func156 Tryz.ntmps156 ?_
 unfold uO at hr
 refine zz ?_
 refine AB.seq_g fun K1 hK1 hG1 => ?_
 have J1 : ∀ (jH : Int) (l1 : List Int),wH N jH l1 = some r → K1 (aK 29 [(4,(.ptr 0 0)),(6,(.ptr 1 0)),(7,(eI .u64 jH))]) [some ⟨31,(List.replicate 4 0).map (eI .u64)⟩,some ⟨31,l1.map (eI .u64)⟩] := by
  intro jH l1 hr
  unfold wH at hr
  refine hK1 _ _ ?_
  obtain ⟨q,h_1,hr⟩ := aC hr
  refine zz ?_
  obtain rfl := sj hr
  exact wM Tryz.results156 bM bM (qH [])
 obtain ⟨bO,hL2,hr⟩ := aC hr
 refine zz ?_
 refine AB.block <| AB.loopN (fun m s h => ∃ (carry_1 : Int) (x9 : Int) (l3 : List Int),jB N va b m carry_1 x9 l3 = some bO ∧ Ghost 0 s h (aK 29 [(2,(.ptr 0 0)),(3,(.ptr 1 0)),(4,(.ptr 2 0)),(6,(.ptr 3 0)),(7,(eI .u64 carry_1)),(9,(eI .i64 x9))]) [some ⟨31,va.map (eI .u64)⟩,some ⟨31,b.map (eI .u64)⟩,some ⟨31,(List.replicate 4 0).map (eI .u64)⟩,some ⟨31,l3.map (eI .u64)⟩]) (n := N) ⟨0,0,List.replicate 4 0,hL2,(zG [0,1,2,3])⟩ (by rintro s h ⟨_,_,_,h0,_⟩; simp [jB] at h0) ?_
 rintro m2 s h ⟨carry_1,x9,l3,hr2,hg⟩
 refine AB.ghost hg ?_
 clear hg hL2
 rw [jB] at hr2
 refine zz ?_
 refine AB.seq ?_
 refine zk hr2 rfl (fun h2 hr2 => ?_) (fun h2 hr2 => ?_)
 ·refine zz ?_
  refine AB.seq <| AB.block ?_
  obtain ⟨x15,h_3,hr2⟩ := aC hr2
  obtain ⟨x18,h_4,hr2⟩ := aC hr2
  obtain ⟨dI,h_5,hr2⟩ := aC hr2
  obtain ⟨fW,h_7,hr2⟩ := aC hr2
  refine zz ?_
  refine AB.rs mixed [114] [] [[0,1,2,3,4,5,6,7,8,9,10,11,12,13,14]] ?_
  refine zz ?_
  refine xu (jY h_5) ?_
  refine zz ?_
  exact ⟨dI.2,IntKind.i64.wrap (x9 + 1),l3.set (Int.toNat x9) dI.1,hr2,(zG [0,1,2,3])⟩
 ·refine zz ?_
  obtain rfl := sj hr2
  refine zz ?_
  exact hG1 _ _ _ _ (zG [2,3]) (J1 carry_1 l3 hr)
theorem aHG {N : Nat} {va : List Int} {b : List Int} {vm : List Int} {r : (List Int)} (hr : wG N va b vm = some r) :
  Vm.Fn Tryz.prog 155 [] [(.agg (va.map (eI .u64))),(.agg (b.map (eI .u64))),(.agg (vm.map (eI .u64)))] (.agg (r.map (eI .u64))) [] := by
 refine zf Tryz.func155 Tryz.ntmps155 ?_
 unfold wG at hr
 refine zz ?_
 refine AB.seq ?_
 obtain ⟨q,h_1,hr⟩ := aC hr
 refine zz ?_
 refine xw (v := (.agg ([0,0,0,0].map (eI .u64)))) (bQ rfl (jO bX kC rfl)) ?_
 refine zz ?_
 refine zk hr rfl (fun h2 hr => ?_) (fun h2 hr => ?_)
 ·refine zz ?_
  refine xw (v := (.agg ([0,0,0,0].map (eI .u64)))) (bQ rfl (jO bX kC rfl)) ?_
  refine zz ?_
  obtain rfl := sj hr
  exact fD Tryz.results155 bM (zG [])
 ·refine zz ?_
  refine AB.seq ?_
  obtain ⟨q_1,h_3,hr⟩ := aC hr
  obtain ⟨x16,h_4,hr⟩ := aC hr
  obtain ⟨q_2,h_6,hr⟩ := aC hr
  obtain ⟨x19,h_7,hr⟩ := aC hr
  obtain ⟨dX,h_9,hr⟩ := aC hr
  obtain ⟨q_3,h_11,hr⟩ := aC hr
  refine AB.rs mixed [151,156] [] [[0,1,2,3,4,5,6,7,8,9,10,11,12]] ?_
  refine zz ?_
  refine xu (aAa h_4) ?_
  refine zz ?_
  refine xu (aAa h_7) <| xu (aKw h_9) ?_
  refine zz ?_
  refine AB.seq_g fun K1 hK1 hG1 => ?_
  have J1 : ∀ (l1 : List Int),lT N l1 = some r → K1 (aK 37 [(6,(.ptr 0 0)),(7,(.ptr 1 0))]) [some ⟨31,(List.replicate 4 0).map (eI .u64)⟩,some ⟨31,l1.map (eI .u64)⟩] := by
   intro l1 hr
   unfold lT at hr
   refine hK1 _ _ ?_
   obtain ⟨q_4,h_12,hr⟩ := aC hr
   refine zz ?_
   obtain rfl := sj hr
   exact fD Tryz.results155 bM (zG [])
  refine AB.seq_g fun K2 hK2 hG2 => ?_
  have J2 : ∀ (x29 : Bool),lO N vm dX x29 = some r → K2 (aK 37 [(5,(.ptr 0 0)),(6,(.ptr 1 0)),(7,(.ptr 2 0)),(29,(eB x29))]) [some ⟨31,vm.map (eI .u64)⟩,some ⟨31,(List.replicate 4 0).map (eI .u64)⟩,some ⟨31,dX.1.map (eI .u64)⟩] := by
   intro x29 hr
   unfold lO at hr
   refine hK2 _ _ ?_
   refine zk hr rfl (fun h13 hr => ?_) (fun h13 hr => ?_)
   ·obtain ⟨jU,h_14,hr⟩ := aC hr
    obtain ⟨q_5,h_15,hr⟩ := aC hr
    refine zz ?_
    refine xp (aCD h_14) ?_
    refine zz ?_
    exact hG1 _ _ _ _ (zG [1,2]) (J1 jU.1 hr)
   ·refine zz ?_
    exact hG1 _ _ _ _ (zG [1,2]) (J1 dX.1 hr)
  rcases Bool.eq_false_or_eq_true dX.2 with h16 | h16
  ·replace hr := eO hr h16
   refine xr ?_
   refine zz ?_
   exact hG2 _ _ _ _ (zG [2,3,4]) (J2 true hr)
  ·replace hr := eP hr h16
   obtain ⟨x27,h_17,hr⟩ := aC hr
   refine xr ?_
   refine zz ?_
   refine xCg (v := (eI .i64 x27)) (h' := [some ⟨31,va.map (eI .u64)⟩,some ⟨31,b.map (eI .u64)⟩,some ⟨31,vm.map (eI .u64)⟩,some ⟨31,(List.replicate 4 0).map (eI .u64)⟩,some ⟨31,dX.1.map (eI .u64)⟩]) rfl rfl h16 rfl (Vm.Fn.pure (tC h_17) zR rfl) ?_
   refine zz ?_
   exact hG2 _ _ _ _ (zG [2,3,4]) (J2 (decide (0 ≤ x27)) hr)
theorem aD1 {N : Nat} {va : List Int} {b : List Int} {r : (List Int)} (hr : mW N va b = some r) :
  Vm.Fn Tryz.prog 153 [] [(.agg (va.map (eI .u64))),(.agg (b.map (eI .u64)))] (.agg (r.map (eI .u64))) [] := by
 refine zf Tryz.func153 Tryz.ntmps153 ?_
 unfold mW at hr
 refine zz ?_
 refine AB.seq ?_
 obtain ⟨q,h_1,hr⟩ := aC hr
 obtain ⟨q_1,h_2,hr⟩ := aC hr
 obtain ⟨x7,h_3,hr⟩ := aC hr
 obtain ⟨x8,h_5,hr⟩ := aC hr
 obtain ⟨q_2,h_7,hr⟩ := aC hr
 refine AB.rs mixed [138,155] [] [[0,1,2,3,4]] ?_
 refine zz ?_
 refine xu (vK h_3) <| xu (aHG h_5) ?_
 refine zz ?_
 obtain rfl := sj hr
 exact fD Tryz.results153 bM (zG [])
theorem aGC {N : Nat} {vh : List Int} {r : (List Int)} (hr : oN N vh = some r) :
  Vm.Fn Tryz.prog 147 [] [(.agg (vh.map (eI .u8)))] (.agg (r.map (eI .u64))) [] := by
 refine zf Tryz.func147 Tryz.ntmps147 ?_
 unfold oN at hr
 obtain ⟨q,h_1,hr⟩ := aC hr
 obtain ⟨x4,h_2,hr⟩ := aC hr
 obtain ⟨x6,h_3,hr⟩ := aC hr
 obtain ⟨q_1,h_4,hr⟩ := aC hr
 refine zz ?_
 refine xp (rE h_2) <| xw (v := (.agg ([0,0,0,0].map (eI .u64)))) (bQ rfl (jO bX kC rfl)) <| xp (aD1 h_3) ?_
 refine zz ?_
 obtain rfl := sj hr
 exact fD Tryz.results147 bM (zG [])
theorem aFg {N : Nat} {vr : List Int} {p : List Int} {vm : List Int} {r : (List Int)} (hr : lM N vr p vm = some r) :
  Vm.Fn Tryz.prog 142 [] [(.agg (vr.map (eI .u64))),(.agg (p.map (eI .u64))),(.agg (vm.map (eI .u8)))] (.agg (r.map (eI .u64))) [] := by
 refine zf Tryz.func142 Tryz.ntmps142 ?_
 unfold lM at hr
 refine zz ?_
 refine AB.seq ?_
 obtain ⟨q,h_1,hr⟩ := aC hr
 obtain ⟨x8,h_2,hr⟩ := aC hr
 obtain ⟨q_1,h_4,hr⟩ := aC hr
 obtain ⟨bV,h_5,hr⟩ := aC hr
 obtain ⟨q_2,h_7,hr⟩ := aC hr
 obtain ⟨q_3,h_8,hr⟩ := aC hr
 obtain ⟨q_4,h_9,hr⟩ := aC hr
 obtain ⟨eD,h_10,hr⟩ := aC hr
 obtain ⟨bH,h_12,hr⟩ := aC hr
 obtain ⟨x15,h_14,hr⟩ := aC hr
 obtain ⟨q_5,h_16,hr⟩ := aC hr
 refine AB.rs mixed [34,147] [49,148] [[0,1,2,3,4,5],[6,7,8,9]] ?_
 refine zz ?_
 refine xu (aDU h_2) ?_
 refine zz ?_
 refine xu (aDU h_5) ?_
 refine zz ?_
 refine xw (v := (.sl 4 0 3 32 true)) (h' := [some ⟨31,vr.map (eI .u64)⟩,some ⟨31,p.map (eI .u64)⟩,some ⟨24,vm.map (eI .u8)⟩,some ⟨31,(List.replicate 4 0).map (eI .u64)⟩,some ⟨24,[x8,bV,vm].flatMap (aDC (eI .u8))⟩]) (lF rfl (aRQ (ps' := [(0,.agg (aDC (eI .u8) x8)),(1,.agg (aDC (eI .u8) bV)),(2,.agg (aDC (eI .u8) vm))]) (by simp only [aNU,aDC,sK (l := x8) (aZ h_8),sK (l := bV) (aZ h_9),sK (l := vm) (aZ h_7)]) (aBw (len := 3) (C := (aDC (eI .u8))) (xs := [x8,bV,vm]) (K := 32) (fun _ => rfl) (fun _ => rfl) aOM i0 ⟨zl,zl,zl⟩ rfl rfl rfl rfl rfl rfl))) ?_
 refine zz ?_
 refine ⟨_,_,(Ghost.conv (fr' := [(0,(.agg (vr.map (eI .u64)))),(1,(.agg (p.map (eI .u64)))),(2,(.agg (vm.map (eI .u8)))),(3,(.ptr 0 0)),(4,(.ptr 1 0)),(5,(.ptr 2 0)),(6,(.ptr 3 0)),(7,(.agg (vr.map (eI .u64)))),(8,(.agg (x8.map (eI .u8)))),(9,(.agg (p.map (eI .u64)))),(10,(.agg (bV.map (eI .u8)))),(11,(.agg (vm.map (eI .u8)))),(12,(.row none 32 ([x8,bV,vm].map (eA (eI .u8)))))]) (h' := [some ⟨31,vr.map (eI .u64)⟩,some ⟨31,p.map (eI .u64)⟩,some ⟨24,vm.map (eI .u8)⟩,some ⟨31,(List.replicate 4 0).map (eI .u64)⟩,none]) (FCv.cons rfl (Conv.same (bD rfl)) (FCv.cons rfl (Conv.same (bD rfl)) (FCv.cons rfl (Conv.same (bD rfl)) (FCv.cons rfl (Conv.same (bD rfl)) (FCv.cons rfl (Conv.same (bD rfl)) (FCv.cons rfl (Conv.same (bD rfl)) (FCv.cons rfl (Conv.same (bD rfl)) (FCv.cons rfl (Conv.same (bD rfl)) (FCv.cons rfl (Conv.same (bD rfl)) (FCv.cons rfl (Conv.same (bD rfl)) (FCv.cons rfl (Conv.same (bD rfl)) (FCv.cons rfl (Conv.same (bD rfl)) (FCv.cons rfl (Conv.rowKA (C := (aDC (eI .u8))) (E := (eI .u8)) (fun _ => rfl) (fun _ => rfl) (fun _ => rfl) (List.forall_mem_cons.2 ⟨sK (aZ h_8),List.forall_mem_cons.2 ⟨sK (aZ h_9),List.forall_mem_cons.2 ⟨sK (aZ h_7),List.forall_mem_nil _⟩⟩⟩) (bD rfl) rfl rfl rfl) FCv.nil))))))))))))) (HCv.live (Convs.same (bD rfl)) (all_map (fun _ => rfl) _) (HCv.live (Convs.same (bD rfl)) (all_map (fun _ => rfl) _) (HCv.live (Convs.same (bD rfl)) (all_map (fun _ => rfl) _) (HCv.live (Convs.same (bD rfl)) (all_map (fun _ => rfl) _) (HCv.dead HCv.nil)))))), ?_⟩
 refine zg (aKG h_10) [] ?_
 refine zgL (aDX h_12) [] [5] ?_
 refine xu (aGC h_14) ?_
 refine zz ?_
 obtain rfl := sj hr
 exact fD Tryz.results142 bM (zG [])
theorem aHi {N : Nat} {p : List Int} {vm : List Int} {s_E : List Int} {s_S : List Int} {r : Bool} (hr : qO N p vm s_E s_S = some r) :
  Vm.Fn Tryz.prog 133 [] [(.agg (p.map (eI .u64))),(.agg (vm.map (eI .u8))),(.agg (eQ (eI .u64) s_E (eQ (eI .u64) s_S [])))] (eB r) [] := by
 refine zf Tryz.func133 Tryz.ntmps133 ?_
 unfold qO at hr
 refine zz ?_
 refine AB.seq ?_
 refine AB.seq_g fun K1 hK1 hG1 => ?_
 have J1 : ∀ (fW : Bool),jR N p vm s_E s_S fW = some r → K1 (aK 46 [(3,(.ptr 0 0)),(4,(.ptr 1 0)),(5,(.ptr 2 0)),(24,(eB fW))]) [some ⟨31,p.map (eI .u64)⟩,some ⟨24,vm.map (eI .u8)⟩,some ⟨37,(eQ (eI .u64) s_E (eQ (eI .u64) s_S []))⟩] := by
  intro fW hr
  unfold jR at hr
  refine hK1 _ _ ?_
  refine zk hr rfl (fun h1 hr => ?_) (fun h1 hr => ?_)
  ·refine zz ?_
   obtain rfl := sj hr
   exact bL Tryz.results133 []
  ·refine zz ?_
   refine AB.seq ?_
   obtain ⟨x26,h_2,hr⟩ := aC hr
   obtain ⟨q,h_4,hr⟩ := aC hr
   obtain ⟨x29,h_5,hr⟩ := aC hr
   obtain ⟨q_1,h_7,hr⟩ := aC hr
   refine AB.rs mixed [137,138] [] [[0,1,2,3,4,5,6,7,8,9]] <| xu (vK h_2) ?_
   refine zz ?_
   refine xu (aCD h_5) ?_
   refine zz ?_
   refine AB.seq ?_
   obtain ⟨q_2,h_8,hr⟩ := aC hr
   obtain ⟨dH,h_9,hr⟩ := aC hr
   obtain ⟨q_3,h_11,hr⟩ := aC hr
   obtain ⟨x37,h_12,hr⟩ := aC hr
   obtain ⟨x38,h_14,hr⟩ := aC hr
   obtain ⟨q_4,h_16,hr⟩ := aC hr
   refine AB.rs mixed [139,140,141] [] [[0,1,2,3,4,5,6,7,8]] ?_
   refine zz ?_
   refine xu (aHD h_9) ?_
   refine zz ?_
   refine xu (aBY h_12) <| xu (aB9 h_14) ?_
   refine zz ?_
   refine AB.seq ?_
   obtain ⟨q_5,h_17,hr⟩ := aC hr
   obtain ⟨x44,h_18,hr⟩ := aC hr
   obtain ⟨q_6,h_20,hr⟩ := aC hr
   refine AB.rs mixed [142] [] [[0,1,2,3,4,5,6,7]] ?_
   refine zz ?_
   refine xu (aFg h_18) ?_
   refine zz ?_
   obtain rfl := sj hr
   exact bL Tryz.results133 []
 obtain ⟨q_7,h_21,hr⟩ := aC hr
 obtain ⟨eM,h_22,hr⟩ := aC hr
 rcases Bool.eq_false_or_eq_true (!eM) with h23 | h23
 ·replace hr := eO hr h23
  refine xr ?_
  refine zz ?_
  refine xp (jZ h_22) ?_
  refine zz ?_
  refine xX rfl <| xX rfl <| xX rfl ?_
  refine zz ?_
  exact hG1 _ _ _ _ (zG [0,1,2]) (J1 true hr)
 ·replace hr := eP hr h23
  obtain ⟨q_8,h_24,hr⟩ := aC hr
  obtain ⟨x17,h_25,hr⟩ := aC hr
  rcases Bool.eq_false_or_eq_true (!x17) with h26 | h26
  ·replace hr := eO hr h26
   refine xr ?_
   refine zz ?_
   refine xp (jZ h_22) ?_
   refine zz ?_
   refine xCg (v := (eB x17)) (h' := [some ⟨31,p.map (eI .u64)⟩,some ⟨24,vm.map (eI .u8)⟩,some ⟨37,(eQ (eI .u64) s_E (eQ (eI .u64) s_S []))⟩]) rfl rfl h23 rfl (Vm.Fn.pure (jZ h_25) zR rfl) ?_
   refine zz ?_
   exact hG1 _ _ _ _ (zG [0,1,2]) (J1 true hr)
  ·replace hr := eP hr h26
   obtain ⟨q_9,h_27,hr⟩ := aC hr
   obtain ⟨c5,h_28,hr⟩ := aC hr
   refine xr ?_
   refine zz ?_
   refine xp (jZ h_22) ?_
   refine zz ?_
   refine xCg (v := (eB x17)) (h' := [some ⟨31,p.map (eI .u64)⟩,some ⟨24,vm.map (eI .u8)⟩,some ⟨37,(eQ (eI .u64) s_E (eQ (eI .u64) s_S []))⟩]) rfl rfl h23 rfl (Vm.Fn.pure (jZ h_25) zR rfl) ?_
   refine zz ?_
   refine xCg (v := (eB c5)) (h' := [some ⟨31,p.map (eI .u64)⟩,some ⟨24,vm.map (eI .u8)⟩,some ⟨37,(eQ (eI .u64) s_E (eQ (eI .u64) s_S []))⟩]) rfl rfl h26 rfl (Vm.Fn.pure (aDS h_28) zR rfl) ?_
   refine zz ?_
   exact hG1 _ _ _ _ (zG [0,1,2]) (J1 (!c5) hr)
theorem aBS {N : Nat} {aG : List Int} {aJ : Int} {aO : Int} {aL : List (List Int)} {aI : List aN} {aW : Int} {key : List Int} {aAW : List Int} {r : Int} (hr : cQ N aG aJ aO aL aI aW key aAW = some r) :
  Vm.Fn Tryz.prog 125 [some ⟨105,(bG (eI .u8) aG [(eI .i64 aJ),(eI .i64 aO),(.sl 1 0 aL.length 1 false),(.sl 2 0 aI.length 2 true),(eI .i64 aW)])⟩,some ⟨22,aL.map (eL 1 (eI .u8))⟩,some ⟨127,aI.flatMap aU⟩] [(.ptr 0 0),(.row none 1 (key.map (eI .u8))),(.row none 1 (aAW.map (eI .u8)))] (eI .i64 r) [some ⟨105,(bG (eI .u8) aG [(eI .i64 aJ),(eI .i64 aO),(.sl 1 0 aL.length 1 false),(.sl 2 0 aI.length 2 true),(eI .i64 aW)])⟩,some ⟨22,aL.map (eL 1 (eI .u8))⟩,some ⟨127,aI.flatMap aU⟩] := by
 refine zf Tryz.func125 Tryz.ntmps125 ?_
 unfold cQ at hr
 refine zz ?_
 refine AB.seq ?_
 refine zz ?_
 refine zk hr rfl (fun h1 hr => ?_) (fun h1 hr => ?_)
 ·refine zz ?_
  obtain rfl := sj hr
  exact bL Tryz.results125 [0,1,2]
 ·obtain ⟨bH,h_2,hr⟩ := aC hr
  obtain ⟨x16,h_3,hr⟩ := aC hr
  obtain ⟨q,h_4,hr⟩ := aC hr
  refine zz ?_
  refine xw (v := (.eptr [.agg (bH.map (eI .u8))] 0 0)) (aDx rfl (apR (E := (eI .u8)) i0 (fun _ => rfl) zl h_2)) <| xw (v := (.agg (bH.map (eI .u8)))) (bW rfl (aJt (E := (eI .u8)) (l := bH) i0 rfl (cB h_2))) <| xp (rE h_3) ?_
  refine zz ?_
  refine AB.seq ?_
  obtain ⟨x18,h_5,hr⟩ := aC hr
  refine zz ?_
  refine xp (aDS h_5) ?_
  refine zz ?_
  refine zk hr rfl (fun h6 hr => ?_) (fun h6 hr => ?_)
  ·refine zz ?_
   obtain rfl := sj hr
   exact bL Tryz.results125 [0,1,2]
  ·refine zz ?_
   refine AB.seq ?_
   refine zz ?_
   refine zk hr rfl (fun h7 hr => ?_) (fun h7 hr => ?_)
   ·refine zz ?_
    obtain rfl := sj hr
    exact bL Tryz.results125 [0,1,2]
   ·obtain ⟨x25,h_8,hr⟩ := aC hr
    refine zz ?_
    refine xp (aHF h_8) ?_
    refine zz ?_
    refine xw (v := (.ptr 4 0)) (h' := [some ⟨105,(bG (eI .u8) aG [(eI .i64 aJ),(eI .i64 aO),(.sl 1 0 aL.length 1 false),(.sl 2 0 aI.length 2 true),(eI .i64 aW)])⟩,some ⟨22,aL.map (eL 1 (eI .u8))⟩,some ⟨127,aI.flatMap aU⟩,some ⟨31,x16.map (eI .u64)⟩,some ⟨37,(eQ (eI .u64) (List.replicate 4 0) (eQ (eI .u64) (List.replicate 4 0) []))⟩]) (cD xH rfl rfl rfl) ?_
    refine zz ?_
    refine AB.seq ?_
    refine AB.seq_g fun K1 hK1 hG1 => ?_
    have J1 : ∀ (x40 : Bool),g9 N aG aJ aO aL aI aW x40 = some r → K1 (aK 41 [(40,(eB x40))]) [some ⟨105,(bG (eI .u8) aG [(eI .i64 aJ),(eI .i64 aO),(.sl 1 0 aL.length 1 false),(.sl 2 0 aI.length 2 true),(eI .i64 aW)])⟩,some ⟨22,aL.map (eL 1 (eI .u8))⟩,some ⟨127,aI.flatMap aU⟩] := by
     intro x40 hr
     unfold g9 at hr
     refine hK1 _ _ ?_
     refine zk hr rfl (fun h9 hr => ?_) (fun h9 hr => ?_)
     ·refine zz ?_
      obtain rfl := sj hr
      exact bL Tryz.results125 [0,1,2]
     ·refine zz ?_
      obtain rfl := sj hr
      exact bL Tryz.results125 [0,1,2]
    rcases Bool.eq_false_or_eq_true (x25.2.2 != 0) with h10 | h10
    ·replace hr := eO hr h10
     refine AB.rs mixed [133] [] [[0,1,2,3,4,5,6,7,8,9,10,11,12]] ?_
     refine zz ?_
     exact hG1 _ _ _ _ (zG [0,1,2]) (J1 true hr)
    ·replace hr := eP hr h10
     obtain ⟨q_1,h_11,hr⟩ := aC hr
     obtain ⟨x38,h_12,hr⟩ := aC hr
     refine AB.rs mixed [133] [] [[0,1,2,3,4,5,6,7,8,9,10,11,12]] ?_
     refine zz ?_
     refine xu (aHi h_12) ?_
     refine zz ?_
     exact hG1 _ _ _ _ (zG [0,1,2]) (J1 (!x38) hr)
theorem t7 {N : Nat} {aG : List Int} {aJ : Int} {aO : Int} {aL : List (List Int)} {aI : List aN} {aW : Int} {dV : Int} {vn : Int} {r : Int × (List Int) × Int × Int × (List (List Int)) × (List aN) × Int} (hr : gW N aG aJ aO aL aI aW dV vn = some r) :
  Vm.Fn Tryz.prog 112 [some ⟨105,(bG (eI .u8) aG [(eI .i64 aJ),(eI .i64 aO),(.sl 1 0 aL.length 1 false),(.sl 2 0 aI.length 2 true),(eI .i64 aW)])⟩,some ⟨22,aL.map (eL 1 (eI .u8))⟩,some ⟨127,aI.flatMap aU⟩] [(.ptr 0 0),(eI .i64 dV),(eI .i64 vn)] (eI .i64 r.1) [some ⟨105,(bG (eI .u8) r.2.1 [(eI .i64 r.2.2.1),(eI .i64 r.2.2.2.1),(.sl 3 0 r.2.2.2.2.1.length 1 false),(.sl 4 0 r.2.2.2.2.2.1.length 2 true),(eI .i64 r.2.2.2.2.2.2)])⟩,none,none,some ⟨22,r.2.2.2.2.1.map (eL 1 (eI .u8))⟩,some ⟨127,r.2.2.2.2.2.1.flatMap aU⟩] := by
 refine zf Tryz.func112 Tryz.ntmps112 ?_
 unfold gW at hr
 refine zz ?_
 refine AB.seq ?_
 obtain ⟨eN,h_1,hr⟩ := aC hr
 refine AB.rs mixed [] [] [[0,1,2,3,4,5,6,7,8,9,10,11,12]] ?_
 refine zz ?_
 refine xw (v := (.sl 1 (Int.toNat (IntKind.i64.wrap ((aL.length : Int) - vn)) * 1) eN.length 1 false)) (eT rfl rfl rfl (aQP (l := aL) rfl w8 eU rfl rfl rfl h_1)) ?_
 refine zz ?_
 refine AB.seq ?_
 obtain ⟨x43,h_2,hr⟩ := aC hr
 refine AB.rs mixed [] [] [[0,1,2,3,4,5,6,7,8,9,10,11,12,13,14,15,16,17,18,19,20]] ?_
 refine zz ?_
 refine xw (v := (.sl 1 (Int.toNat (IntKind.i64.wrap ((aL.length : Int) - (IntKind.i64.wrap (2 * vn)))) * 1) x43.length 1 false)) (eT rfl rfl rfl (aQP (l := aL) rfl w8 eU rfl rfl rfl h_2)) ?_
 refine zz ?_
 refine AB.seq_g fun K1 hK1 hG1 => ?_
 have J1 : ∀ (count : Int),kS N aG aJ aO aL aI aW dV vn count = some r → K1 (aK 78 [(0,(.ptr 0 0)),(1,(eI .i64 dV)),(2,(eI .i64 vn)),(9,(eI .i64 count))]) [some ⟨105,(bG (eI .u8) aG [(eI .i64 aJ),(eI .i64 aO),(.sl 1 0 aL.length 1 false),(.sl 2 0 aI.length 2 true),(eI .i64 aW)])⟩,some ⟨22,aL.map (eL 1 (eI .u8))⟩,some ⟨127,aI.flatMap aU⟩] := by
  intro count hr
  unfold kS at hr
  refine hK1 _ _ ?_
  obtain ⟨x76,h_3,hr⟩ := aC hr
  obtain ⟨x77,h_4,hr⟩ := aC hr
  refine zz ?_
  refine zc (aAq h_3) [] ?_
  refine OpsX.ghost (zv 3) ?_
  refine zc (j6 h_4) [0,1,2] ?_
  refine zz ?_
  obtain rfl := sj hr
  exact bL Tryz.results112 [0,1,2,4,5]
 obtain ⟨bO,hL2,hr⟩ := aC hr
 refine zz ?_
 refine AB.block <| AB.loopN (fun m s h => ∃ (count_1 : Int) (x45 : Int),cV N aG aJ aO aL aI aW dV vn eN x43 m count_1 x45 = some bO ∧ Ghost 3 s h (aK 78 [(0,(.ptr 0 0)),(1,(eI .i64 dV)),(2,(eI .i64 vn)),(7,(.sl 1 (Int.toNat (IntKind.i64.wrap ((aL.length : Int) - vn)) * 1) eN.length 1 false)),(8,(.sl 1 (Int.toNat (IntKind.i64.wrap ((aL.length : Int) - (IntKind.i64.wrap (2 * vn)))) * 1) x43.length 1 false)),(9,(eI .i64 count_1)),(44,(eI .i64 vn)),(45,(eI .i64 x45))]) [some ⟨105,(bG (eI .u8) aG [(eI .i64 aJ),(eI .i64 aO),(.sl 1 0 aL.length 1 false),(.sl 2 0 aI.length 2 true),(eI .i64 aW)])⟩,some ⟨22,aL.map (eL 1 (eI .u8))⟩,some ⟨127,aI.flatMap aU⟩]) (n := N) ⟨0,0,hL2,(zG [0,1,2])⟩ (by rintro s h ⟨_,_,h0,_⟩; simp [cV] at h0) ?_
 rintro m2 s h ⟨count_1,x45,hr2,hg⟩
 refine AB.ghost hg ?_
 clear hg hL2
 rw [cV] at hr2
 refine zz ?_
 refine AB.seq ?_
 refine zk hr2 rfl (fun h5 hr2 => ?_) (fun h5 hr2 => ?_)
 ·refine zz ?_
  refine AB.seq_g fun K3 hK3 hG3 => ?_
  have J3 : ∀ (aBx : Int),g8 N aG aJ aO aL aI aW dV vn eN x43 x45 (cV N aG aJ aO aL aI aW dV vn eN x43 m2) aBx = some bO → K3 (aK 78 [(0,(.ptr 0 0)),(1,(eI .i64 dV)),(2,(eI .i64 vn)),(7,(.sl 1 (Int.toNat (IntKind.i64.wrap ((aL.length : Int) - vn)) * 1) eN.length 1 false)),(8,(.sl 1 (Int.toNat (IntKind.i64.wrap ((aL.length : Int) - (IntKind.i64.wrap (2 * vn)))) * 1) x43.length 1 false)),(9,(eI .i64 aBx)),(44,(eI .i64 vn)),(45,(eI .i64 x45))]) [some ⟨105,(bG (eI .u8) aG [(eI .i64 aJ),(eI .i64 aO),(.sl 1 0 aL.length 1 false),(.sl 2 0 aI.length 2 true),(eI .i64 aW)])⟩,some ⟨22,aL.map (eL 1 (eI .u8))⟩,some ⟨127,aI.flatMap aU⟩] := by
   intro aBx hr2
   unfold g8 at hr2
   refine hK3 _ _ ?_
   refine zz ?_
   exact ⟨aBx,IntKind.i64.wrap (x45 + 1),hr2,(zG [0,1,2])⟩
  refine AB.block ?_
  refine zz ?_
  refine AB.seq <| AB.seq ?_
  obtain ⟨x51,h_6,hr2⟩ := aC hr2
  obtain ⟨x55,h_7,hr2⟩ := aC hr2
  obtain ⟨x57,h_8,hr2⟩ := aC hr2
  refine AB.rs mixed [] [125] [[0,1,2,3,4,5,6,7,8,9,10]] ?_
  refine zz ?_
  refine xw (v := (.ptr 1 (Int.toNat (IntKind.i64.wrap ((aL.length : Int) - vn)) + Int.toNat x45))) (aAn rfl rfl (iaY rfl w8 eU rfl h_6)) <| xw (v := (.row none 1 (x51.map (eI .u8)))) (bW rfl (ldY (E := (eL 1 (eI .u8))) (l := aL) (y := x51) eU rfl rfl h_1 h_6)) ?_
  refine zz ?_
  refine xw (v := (.ptr 1 (Int.toNat (IntKind.i64.wrap ((aL.length : Int) - (IntKind.i64.wrap (2 * vn)))) + Int.toNat x45))) (aAn rfl rfl (iaY rfl w8 eU rfl h_7)) <| xw (v := (.row none 1 (x55.map (eI .u8)))) (bW rfl (ldY (E := (eL 1 (eI .u8))) (l := aL) (y := x55) eU rfl rfl h_2 h_7)) <| zg (aBS h_8) [0,1,2] ?_
  refine zz ?_
  refine zk hr2 rfl (fun h10 hr2 => ?_) (fun h10 hr2 => ?_)
  ·refine zz ?_
   obtain rfl := sj hr2
   obtain rfl := sj hr
   exact bL Tryz.results112 [0,1,2,1,2]
  ·refine zz ?_
   refine xw (v := (.ptr 1 (Int.toNat (IntKind.i64.wrap ((aL.length : Int) - (IntKind.i64.wrap (2 * vn)))) + Int.toNat x45))) (aAn rfl rfl (iaY rfl w8 eU rfl h_7)) <| xw (v := (.row none 1 (x55.map (eI .u8)))) (bW rfl (ldY (E := (eL 1 (eI .u8))) (l := aL) (y := x55) eU rfl rfl h_2 h_7)) ?_
   refine zz ?_
   refine zk hr2 rfl (fun h11 hr2 => ?_) (fun h11 hr2 => ?_)
   ·refine zz ?_
    exact hG3 _ _ _ _ (zG [0,1,2]) (J3 (IntKind.i64.wrap (count_1 + 1)) hr2)
   ·refine zz ?_
    exact hG3 _ _ _ _ (zG [0,1,2]) (J3 count_1 hr2)
 ·refine zz ?_
  obtain rfl := sj hr2
  refine zz ?_
  exact hG1 _ _ _ _ (zG [0,1,2]) (J1 count_1 hr)
theorem aFV {N : Nat} {b : List Int} {r : Int × Int} (hr : nD N b = some r) :
  Vm.Fn Tryz.prog 23 [] [(.row none 1 (b.map (eI .u8)))] (.tup [(eI .u32 r.1),(eI .i64 r.2)]) [] := by
 refine zf Tryz.func23 Tryz.ntmps23 ?_
 unfold nD at hr
 refine zz ?_
 refine AB.seq ?_
 refine AB.seq_g fun K1 hK1 hG1 => ?_
 have J1 : ∀ (eN : Bool),iD N b eN = some r → K1 (aK 40 [(0,(.row none 1 (b.map (eI .u8)))),(23,(eB eN))]) [] := by
  intro eN hr
  unfold iD at hr
  refine hK1 _ _ ?_
  refine zk hr rfl (fun h1 hr => ?_) (fun h1 hr => ?_)
  ·refine zz ?_
   obtain rfl := sj hr
   exact zd2 Tryz.results23 []
  ·refine zz ?_
   refine AB.seq_g fun K2 hK2 hG2 => ?_
   have J2 : ∀ (vn : Int),sE N vn = some r → K2 (aK 40 [(4,(eI .u32 vn))]) [] := by
    intro vn hr
    unfold sE at hr
    refine hK2 _ _ ?_
    refine zz ?_
    obtain rfl := sj hr
    exact zd2 Tryz.results23 []
   obtain ⟨tL,hL3,hr⟩ := aC hr
   refine zz ?_
   refine AB.block <| AB.loopN (fun m s h => ∃ (m9 : Int) (x26 : Int),jN N b m m9 x26 = some tL ∧ Ghost 0 s h (aK 40 [(4,(eI .u32 m9)),(24,(.row none 1 (b.map (eI .u8)))),(25,(eI .i64 (b.length : Int))),(26,(eI .i64 x26))]) []) (n := N) ⟨0,0,hL3,(zG [])⟩ (by rintro s h ⟨_,_,h0,_⟩; simp [jN] at h0) ?_
   rintro m3 s h ⟨m9,x26,hr3,hg⟩
   refine AB.ghost hg ?_
   clear hg hL3
   rw [jN] at hr3
   refine zz ?_
   refine AB.seq ?_
   refine zk hr3 rfl (fun h2 hr3 => ?_) (fun h2 hr3 => ?_)
   ·refine zz ?_
    refine AB.seq <| AB.block ?_
    obtain ⟨x29,h_3,hr3⟩ := aC hr3
    obtain ⟨x36,h_4,hr3⟩ := aC hr3
    refine zz ?_
    exact ⟨bits .or .u32 m9 x36,IntKind.i64.wrap (x26 + 1),hr3,(zG [])⟩
   ·refine zz ?_
    obtain rfl := sj hr3
    refine zz ?_
    exact hG2 _ _ _ _ (zG []) (J2 m9 hr)
 rcases Bool.eq_false_or_eq_true (decide (4 < (b.length : Int))) with h5 | h5
 ·replace hr := eO hr h5
  refine xr ?_
  refine zz ?_
  exact hG1 _ _ _ _ (zG []) (J1 true hr)
 ·replace hr := eP hr h5
  rcases Bool.eq_false_or_eq_true (decide (0 < (b.length : Int))) with h6 | h6
  ·replace hr := eO hr h6
   obtain ⟨x19,h_7,hr⟩ := aC hr
   refine xr ?_
   refine zz ?_
   exact hG1 _ _ _ _ (zG []) (J1 (x19 == 0) hr)
  ·replace hr := eP hr h6
   refine xr ?_
   refine zz ?_
   exact hG1 _ _ _ _ (zG []) (J1 false hr)
theorem aB0 {N : Nat} {iX : List Int} {now : Int} {r : Int} (hr : pH N iX now = some r) :
  Vm.Fn Tryz.prog 113 [] [(.row none 1 (iX.map (eI .u8))),(eI .i64 now)] (eI .i64 r) [] := by
 refine zf Tryz.func113 Tryz.ntmps113 ?_
 unfold pH at hr
 obtain ⟨x9,h_1,hr⟩ := aC hr
 refine zz ?_
 refine xp (aFV h_1) ?_
 refine zz ?_
 refine AB.seq ?_
 refine zz ?_
 refine zk hr rfl (fun h2 hr => ?_) (fun h2 hr => ?_)
 ·refine zz ?_
  obtain rfl := sj hr
  exact bL Tryz.results113 []
 ·refine zz ?_
  refine AB.seq ?_
  refine zz ?_
  refine zk hr rfl (fun h3 hr => ?_) (fun h3 hr => ?_)
  ·refine zz ?_
   obtain rfl := sj hr
   exact bL Tryz.results113 []
  ·refine zz ?_
   obtain rfl := sj hr
   exact bL Tryz.results113 []
theorem aCh {N : Nat} {aG : List Int} {aJ : Int} {aO : Int} {aL : List (List Int)} {aI : List aN} {aW : Int} {aY : Int} {bR : List Int} {dS : Int} {dL : Int} {r : Int × (List Int) × Int × Int × (List (List Int)) × (List aN) × Int} (hr : kQ N aG aJ aO aL aI aW aY bR dS dL = some r) :
  Vm.Fn Tryz.prog 87 [some ⟨105,(bG (eI .u8) aG [(eI .i64 aJ),(eI .i64 aO),(.sl 1 0 aL.length 1 false),(.sl 2 0 aI.length 2 true),(eI .i64 aW)])⟩,some ⟨22,aL.map (eL 1 (eI .u8))⟩,some ⟨127,aI.flatMap aU⟩] [(.ptr 0 0),(.agg [(eI .i64 aY),(.row none 1 (bR.map (eI .u8))),(eI .i64 dS),(eI .i64 dL)])] (eI .i64 r.1) [some ⟨105,(bG (eI .u8) r.2.1 [(eI .i64 r.2.2.1),(eI .i64 r.2.2.2.1),(.sl 3 0 r.2.2.2.2.1.length 1 false),(.sl 4 0 r.2.2.2.2.2.1.length 2 true),(eI .i64 r.2.2.2.2.2.2)])⟩,none,none,some ⟨22,r.2.2.2.2.1.map (eL 1 (eI .u8))⟩,some ⟨127,r.2.2.2.2.2.1.flatMap aU⟩] := by
 refine zf Tryz.func87 Tryz.ntmps87 ?_
 unfold kQ at hr
 refine zz ?_
 refine AB.seq_g fun K1 hK1 hG1 => ?_
 have J1 : ∀ (c0 : List Int) (t8 : Int) (uI : Int) (tN : Int) (l3 : List (List Int)) (l4 : List aN),c7 N c0 t8 uI tN l3 l4 = some r → K1 (aK 150 []) [some ⟨105,(bG (eI .u8) c0 [(eI .i64 t8),(eI .i64 uI),(.sl 3 0 l3.length 1 false),(.sl 4 0 l4.length 2 true),(eI .i64 tN)])⟩,none,none,some ⟨22,l3.map (eL 1 (eI .u8))⟩,some ⟨127,l4.flatMap aU⟩] := by
  intro c0 t8 uI tN l3 l4 hr
  unfold c7 at hr
  refine hK1 _ _ ?_
  refine zz ?_
  obtain rfl := sj hr
  exact bL Tryz.results87 [0,1,2,3,4]
 refine zz ?_
 refine AB.block ?_
 refine zz ?_
 refine zk hr rfl (fun h1 hr => ?_) (fun h1 hr => ?_)
 ·obtain ⟨bH,h_2,hr⟩ := aC hr
  refine zz ?_
  refine zc (qW h_2) [0,1,2] ?_
  refine zz ?_
  obtain rfl := sj hr
  exact bL Tryz.results87 [0,1,2,4,5]
 ·refine zz ?_
  refine zk hr rfl (fun h3 hr => ?_) (fun h3 hr => ?_)
  ·obtain ⟨x19,h_4,hr⟩ := aC hr
   obtain ⟨dX,h_5,hr⟩ := aC hr
   refine zz ?_
   refine zc (dO h_4) [0,1,2] ?_
   refine zc (qW h_5) [0,1,2] ?_
   refine zz ?_
   obtain rfl := sj hr
   exact bL Tryz.results87 [0,1,2,4,5]
  ·refine zz ?_
   refine zk hr rfl (fun h6 hr => ?_) (fun h6 hr => ?_)
   ·obtain ⟨fW,h_7,hr⟩ := aC hr
    refine zz ?_
    refine zc (l9 h_7) [0,1,2] ?_
    refine zz ?_
    exact hG1 _ _ _ _ (zG [0,1,2,4,5]) (J1 fW.1 fW.2.1 fW.2.2.1 fW.2.2.2.2.2 fW.2.2.2.1 fW.2.2.2.2.1 hr)
   ·refine zz ?_
    refine zk hr rfl (fun h8 hr => ?_) (fun h8 hr => ?_)
    ·obtain ⟨x50,h_9,hr⟩ := aC hr
     obtain ⟨x58,h_10,hr⟩ := aC hr
     obtain ⟨x61,h_11,hr⟩ := aC hr
     refine zz ?_
     refine AB.rs mixed [] [] [[0,1,2,3,4,5,6,7,8,9,10,11,12,13,14,15,16,17,18,19,20,21,22,23,24,25,26,27,28,29,30,31]] ?_
     refine zz ?_
     exact hG1 _ _ _ _ (qH [0,1,2,1,2]) (J1 aG aJ aO aW ((aL.set (Int.toNat (IntKind.i64.wrap ((aL.length : Int) - 1))) x50).set (Int.toNat (IntKind.i64.wrap ((aL.length : Int) - 2))) x58) aI hr)
    ·refine zz ?_
     refine zk hr rfl (fun h12 hr => ?_) (fun h12 hr => ?_)
     ·obtain ⟨x66,h_13,hr⟩ := aC hr
      obtain ⟨x77,h_15,hr⟩ := aC hr
      obtain ⟨x79,h_16,hr⟩ := aC hr
      obtain ⟨x80,h_18,hr⟩ := aC hr
      obtain ⟨x81,h_20,hr⟩ := aC hr
      refine AB.rs mixed [111] [85,110] [[0,1,2,3,4,5,6,7,8,9,10,11,12,13,14,15,16],[17]] ?_
      refine zz ?_
      refine zg (dO h_13) [0,1,2] ?_
      refine zz ?_
      refine xu (aHa h_16) <| zg (aAq h_18) [] ?_
      refine zz ?_
      refine ⟨_,_,(zv 4), ?_⟩
      refine zg (j6 h_20) [0,1,2] ?_
      refine zz ?_
      exact hG1 _ _ _ _ (zG [0,1,2,5,6]) (J1 x81.1 x81.2.1 x81.2.2.1 x81.2.2.2.2.2 x81.2.2.2.1 x81.2.2.2.2.1 hr)
     ·refine zz ?_
      refine zk hr rfl (fun h22 hr => ?_) (fun h22 hr => ?_)
      ·obtain ⟨x86,h_23,hr⟩ := aC hr
       obtain ⟨x87,h_24,hr⟩ := aC hr
       obtain ⟨x89,h_25,hr⟩ := aC hr
       obtain ⟨x90,h_26,hr⟩ := aC hr
       refine zz ?_
       refine zc (dO h_23) [0,1,2] ?_
       refine xp (tV h_24) ?_
       refine zz ?_
       refine zc (aAq h_25) [] ?_
       refine OpsX.ghost (zv 4) ?_
       refine zc (j6 h_26) [0,1,2] ?_
       refine zz ?_
       exact hG1 _ _ _ _ (zG [0,1,2,5,6]) (J1 x90.1 x90.2.1 x90.2.2.1 x90.2.2.2.2.2 x90.2.2.2.1 x90.2.2.2.2.1 hr)
      ·refine zz ?_
       refine zk hr rfl (fun h27 hr => ?_) (fun h27 hr => ?_)
       ·refine AB.seq ?_
        obtain ⟨x94,h_28,hr⟩ := aC hr
        obtain ⟨x95,h_29,hr⟩ := aC hr
        refine zz ?_
        refine zc (dO h_28) [0,1,2] ?_
        refine xp (tV h_29) ?_
        refine zz ?_
        refine zk hr rfl (fun h30 hr => ?_) (fun h30 hr => ?_)
        ·refine zz ?_
         obtain rfl := sj hr
         exact bL Tryz.results87 [0,1,2,1,2]
        ·obtain ⟨x98,h_31,hr⟩ := aC hr
         refine zz ?_
         refine zc (l9 h_31) [0,1,2] ?_
         refine zz ?_
         exact hG1 _ _ _ _ (zG [0,1,2,4,5]) (J1 x98.1 x98.2.1 x98.2.2.1 x98.2.2.2.2.2 x98.2.2.2.1 x98.2.2.2.2.1 hr)
       ·refine zz ?_
        refine zk hr rfl (fun h32 hr => ?_) (fun h32 hr => ?_)
        ·obtain ⟨aG3,h_33,hr⟩ := aC hr
         obtain ⟨cK,h_34,hr⟩ := aC hr
         obtain ⟨q,h_35,hr⟩ := aC hr
         refine zz ?_
         refine zc (dO h_33) [0,1,2] ?_
         refine xp (aBp h_34) ?_
         obtain ⟨eG,h_36,hr⟩ := aC hr
         refine zz ?_
         refine OpsX.ghost (zv 4) ?_
         refine zc (j6 h_36) [0,1,2] ?_
         refine zz ?_
         exact hG1 _ _ _ _ (zG [0,1,2,5,6]) (J1 eG.1 eG.2.1 eG.2.2.1 eG.2.2.2.2.2 eG.2.2.2.1 eG.2.2.2.2.1 hr)
        ·refine zz ?_
         refine zk hr rfl (fun h37 hr => ?_) (fun h37 hr => ?_)
         ·obtain ⟨aRq,h_38,hr⟩ := aC hr
          obtain ⟨aHH,h_39,hr⟩ := aC hr
          obtain ⟨aEE,h_40,hr⟩ := aC hr
          refine zz ?_
          refine zc (dO h_38) [0,1,2] ?_
          refine zz ?_
          refine zc (aAc h_39) [] ?_
          refine OpsX.ghost (zv 4) ?_
          refine zc (qW h_40) [0,1,2] ?_
          refine zz ?_
          obtain rfl := sj hr
          exact bL Tryz.results87 [0,1,2,5,6]
         ·refine zz ?_
          refine zk hr rfl (fun h41 hr => ?_) (fun h41 hr => ?_)
          ·obtain ⟨aD4,h_42,hr⟩ := aC hr
           refine zz ?_
           refine zc (t7 h_42) [0,1,2] ?_
           refine zz ?_
           obtain rfl := sj hr
           exact bL Tryz.results87 [0,1,2,4,5]
          ·refine zz ?_
           refine zk hr rfl (fun h43 hr => ?_) (fun h43 hr => ?_)
           ·obtain ⟨aEz,h_44,hr⟩ := aC hr
            refine zz ?_
            refine zc (t7 h_44) [0,1,2] ?_
            refine zz ?_
            obtain rfl := sj hr
            exact bL Tryz.results87 [0,1,2,4,5]
           ·refine zz ?_
            refine zk hr rfl (fun h45 hr => ?_) (fun h45 hr => ?_)
            ·refine AB.seq ?_
             obtain ⟨aRh,h_46,hr⟩ := aC hr
             obtain ⟨aQW,h_48,hr⟩ := aC hr
             refine AB.rs mixed [113] [85] [[0,1,2,3,4,5,6,7,8]] ?_
             refine zz ?_
             refine zg (dO h_46) [0,1,2] ?_
             refine zz ?_
             refine xu (aB0 h_48) ?_
             refine zz ?_
             obtain rfl := sj hr
             exact bL Tryz.results87 [0,1,2,1,2]
            ·refine zz ?_
             refine zk hr rfl (fun h50 hr => ?_) (fun h50 hr => ?_)
             ·refine AB.seq ?_
              obtain ⟨aQN,h_51,hr⟩ := aC hr
              obtain ⟨aRi,h_53,hr⟩ := aC hr
              refine AB.rs mixed [113] [85] [[0,1,2,3,4,5,6,7,8]] ?_
              refine zz ?_
              refine zg (dO h_51) [0,1,2] ?_
              refine zz ?_
              refine xu (aB0 h_53) ?_
              refine zz ?_
              obtain rfl := sj hr
              exact bL Tryz.results87 [0,1,2,1,2]
             ·refine zz ?_
              refine zk hr rfl (fun h55 hr => ?_) (fun h55 hr => ?_)
              ·refine zz ?_
               obtain rfl := sj hr
               exact bL Tryz.results87 [0,1,2,1,2]
              ·refine zz ?_
               exact hG1 _ _ _ _ (zG [0,1,2,1,2]) (J1 aG aJ aO aW aL aI hr)
theorem aCB {N : Nat} {aG : List Int} {aJ : Int} {aO : Int} {aL : List (List Int)} {aI : List aN} {aW : Int} {aY : Int} {bR : List Int} {dS : Int} {dL : Int} {r : Int × (List Int) × Int × Int × (List (List Int)) × (List aN) × Int} (hr : gJ N aG aJ aO aL aI aW aY bR dS dL = some r) :
  Vm.Fn Tryz.prog 56 [some ⟨105,(bG (eI .u8) aG [(eI .i64 aJ),(eI .i64 aO),(.sl 1 0 aL.length 1 false),(.sl 2 0 aI.length 2 true),(eI .i64 aW)])⟩,some ⟨22,aL.map (eL 1 (eI .u8))⟩,some ⟨127,aI.flatMap aU⟩] [(.ptr 0 0),(.agg [(eI .i64 aY),(.row none 1 (bR.map (eI .u8))),(eI .i64 dS),(eI .i64 dL)])] (eI .i64 r.1) [some ⟨105,(bG (eI .u8) r.2.1 [(eI .i64 r.2.2.1),(eI .i64 r.2.2.2.1),(.sl 3 0 r.2.2.2.2.1.length 1 false),(.sl 4 0 r.2.2.2.2.2.1.length 2 true),(eI .i64 r.2.2.2.2.2.2)])⟩,none,none,some ⟨22,r.2.2.2.2.1.map (eL 1 (eI .u8))⟩,some ⟨127,r.2.2.2.2.2.1.flatMap aU⟩] := by
 refine zf Tryz.func56 Tryz.ntmps56 ?_
 unfold gJ at hr
 obtain ⟨x8,h_1,hr⟩ := aC hr
 refine zz ?_
 refine zc (aB1 h_1) [0,1,2] ?_
 refine zz ?_
 refine AB.seq_g fun K1 hK1 hG1 => ?_
 have J1 : ∀ (counted : Bool),fY N aG aJ aO aL aI aW aY bR dS dL counted = some r → K1 (aK 116 [(0,(.ptr 0 0)),(3,(.ptr 3 0)),(5,(eB counted))]) [some ⟨105,(bG (eI .u8) aG [(eI .i64 aJ),(eI .i64 aO),(.sl 1 0 aL.length 1 false),(.sl 2 0 aI.length 2 true),(eI .i64 aW)])⟩,some ⟨22,aL.map (eL 1 (eI .u8))⟩,some ⟨127,aI.flatMap aU⟩,some ⟨85,[(eI .i64 aY),(.row none 1 (bR.map (eI .u8))),(eI .i64 dS),(eI .i64 dL)]⟩] := by
  intro counted hr
  unfold fY at hr
  refine hK1 _ _ ?_
  refine AB.seq_g fun K2 hK2 hG2 => ?_
  have J2 : ∀ (c0 : Int),fZ N aG aJ aO aL aI aY bR dS dL counted c0 = some r → K2 (aK 116 [(0,(.ptr 0 0)),(3,(.ptr 3 0)),(5,(eB counted))]) [some ⟨105,(bG (eI .u8) aG [(eI .i64 aJ),(eI .i64 aO),(.sl 1 0 aL.length 1 false),(.sl 2 0 aI.length 2 true),(eI .i64 c0)])⟩,some ⟨22,aL.map (eL 1 (eI .u8))⟩,some ⟨127,aI.flatMap aU⟩,some ⟨85,[(eI .i64 aY),(.row none 1 (bR.map (eI .u8))),(eI .i64 dS),(eI .i64 dL)]⟩] := by
   intro c0 hr
   unfold fZ at hr
   refine hK2 _ _ ?_
   refine zz ?_
   refine AB.seq_g fun K3 hK3 hG3 => ?_
   have J3 : ∀ (t8 : List Int) (uI : Int) (tN : Int) (aAf : Int) (l3 : List (List Int)) (l4 : List aN),fA N t8 uI tN aAf l3 l4 = some r → K3 (aK 116 []) [some ⟨105,(bG (eI .u8) t8 [(eI .i64 uI),(eI .i64 tN),(.sl 3 0 l3.length 1 false),(.sl 4 0 l4.length 2 true),(eI .i64 aAf)])⟩,none,none,some ⟨22,l3.map (eL 1 (eI .u8))⟩,some ⟨127,l4.flatMap aU⟩] := by
    intro t8 uI tN aAf l3 l4 hr
    unfold fA at hr
    refine hK3 _ _ ?_
    refine zz ?_
    obtain rfl := sj hr
    exact bL Tryz.results56 [0,1,2,3,4]
   refine zz ?_
   refine AB.block ?_
   refine zz ?_
   refine zk hr rfl (fun h2 hr => ?_) (fun h2 hr => ?_)
   ·refine AB.seq_g fun K4 hK4 hG4 => ?_
    have J4 : ∀ (eK : List aN),jD N aG aJ aO aL counted c0 eK = some r → K4 (aK 116 [(0,(.ptr 0 0)),(5,(eB counted))]) [some ⟨105,(bG (eI .u8) aG [(eI .i64 aJ),(eI .i64 aO),(.sl 1 0 aL.length 1 false),(.sl 3 0 eK.length 2 true),(eI .i64 c0)])⟩,some ⟨22,aL.map (eL 1 (eI .u8))⟩,none,some ⟨127,eK.flatMap aU⟩] := by
     intro eK hr
     unfold jD at hr
     refine hK4 _ _ ?_
     refine zz ?_
     refine zk hr rfl (fun h3 hr => ?_) (fun h3 hr => ?_)
     ·obtain ⟨x86,h_4,hr⟩ := aC hr
      refine zz ?_
      refine zc (l9 h_4) [0,1,3] ?_
      refine zz ?_
      exact hG3 _ _ _ _ (zG [0,1,2,4,5]) (J3 x86.1 x86.2.1 x86.2.2.1 x86.2.2.2.2.2 x86.2.2.2.1 x86.2.2.2.2.1 hr)
     ·refine zz ?_
      exact hG3 _ _ _ _ (zG [0,1,2,1,3]) (J3 aG aJ aO c0 aL eK hr)
    rcases Bool.eq_false_or_eq_true counted with h5 | h5
    ·replace hr := eO hr h5
     obtain ⟨x76,h_6,hr⟩ := aC hr
     obtain ⟨x77,h_8,hr⟩ := aC hr
     obtain ⟨x81,h_10,hr⟩ := aC hr
     refine AB.rs mixed [36] [85] [[0,1,2,3,4,5,6,7,8,9,10,11,12,13,14,15,16,17]] ?_
     refine zz ?_
     refine zg (dO h_6) [0,1,2] ?_
     refine xu (tV h_8) ?_
     refine zz ?_
     refine xw (v := (.sl 4 0 1 2 true)) (h' := [some ⟨105,(bG (eI .u8) aG [(eI .i64 aJ),(eI .i64 aO),(.sl 1 0 aL.length 1 false),(.sl 2 0 aI.length 2 true),(eI .i64 c0)])⟩,some ⟨22,aL.map (eL 1 (eI .u8))⟩,some ⟨127,aI.flatMap aU⟩,some ⟨85,[(eI .i64 aY),(.row none 1 (bR.map (eI .u8))),(eI .i64 dS),(eI .i64 dL)]⟩,some ⟨127,[(aN.mk counted x77)].flatMap aU⟩]) (lF rfl (aBw (C := aU) (xs := [(aN.mk counted x77)]) (K := 2) (fun _ => rfl) (fun _ => rfl) aE1 aBi ⟨zl,zl,zl⟩ rfl rfl rfl rfl rfl rfl)) ?_
     refine zz ?_
     exact hG4 _ _ _ _ (zG [0,1,2,5]) (J4 x81 hr)
    ·replace hr := eP hr h5
     obtain ⟨aLP,h_11,hr⟩ := aC hr
     refine AB.rs mixed [36] [85] [[0,1,2,3,4,5,6,7,8,9,10,11,12,13,14,15,16,17]] ?_
     refine zz ?_
     refine xw (v := (.sl 4 0 1 2 true)) (h' := [some ⟨105,(bG (eI .u8) aG [(eI .i64 aJ),(eI .i64 aO),(.sl 1 0 aL.length 1 false),(.sl 2 0 aI.length 2 true),(eI .i64 c0)])⟩,some ⟨22,aL.map (eL 1 (eI .u8))⟩,some ⟨127,aI.flatMap aU⟩,some ⟨85,[(eI .i64 aY),(.row none 1 (bR.map (eI .u8))),(eI .i64 dS),(eI .i64 dL)]⟩,some ⟨127,[(aN.mk counted false)].flatMap aU⟩]) (lF rfl (aBw (C := aU) (xs := [(aN.mk counted false)]) (K := 2) (fun _ => rfl) (fun _ => rfl) aE1 aBi ⟨zl,zl,zl⟩ rfl rfl rfl rfl rfl rfl)) ?_
     refine zz ?_
     exact hG4 _ _ _ _ (zG [0,1,2,5]) (J4 aLP hr)
   ·refine zz ?_
    refine zk hr rfl (fun h12 hr => ?_) (fun h12 hr => ?_)
    ·obtain ⟨x99,h_13,hr⟩ := aC hr
     refine AB.rs mixed [] [] [[0,1,2,3,4,5,6,7,8,9,10,11,12,13,14,15,16]] ?_
     refine zz ?_
     refine xw (v := (eB x99.taken)) (bW rfl (aFz (C := aU) (K := 2) (off := 1) (fun _ => rfl) rfl h_13 zl (aAK ti4 rfl rfl))) ?_
     refine zz ?_
     refine xy (h' := [some ⟨105,(bG (eI .u8) aG [(eI .i64 aJ),(eI .i64 aO),(.sl 1 0 aL.length 1 false),(.sl 2 0 aI.length 2 true),(eI .i64 c0)])⟩,some ⟨22,aL.map (eL 1 (eI .u8))⟩,some ⟨127,(aI.set (Int.toNat (IntKind.i64.wrap ((aI.length : Int) - 1))) (aN.mk x99.outer (!x99.taken))).flatMap aU⟩,some ⟨85,[(eI .i64 aY),(.row none 1 (bR.map (eI .u8))),(eI .i64 dS),(eI .i64 dL)]⟩]) (bN rfl rfl (aLK (C := aU) (K := 2) (off := 1) (fun _ => rfl) ti4 rfl h_13 rfl rfl zl rfl rfl)) ?_
     refine zz ?_
     exact hG3 _ _ _ _ (qH [0,1,2,1,2]) (J3 aG aJ aO c0 aL (aI.set (Int.toNat (IntKind.i64.wrap ((aI.length : Int) - 1))) (aN.mk x99.outer (!x99.taken))) hr)
    ·refine zz ?_
     refine zk hr rfl (fun h14 hr => ?_) (fun h14 hr => ?_)
     ·obtain ⟨aJA,h_15,hr⟩ := aC hr
      refine zz ?_
      refine xw (v := (.sl 2 0 aJA.length 2 true)) (eT rfl rfl rfl (aLk (l := aI) rfl aE1 aBi rfl rfl rfl h_15)) ?_
      refine OpsX.ghost (Ghost.cutF (t := 113) (C := aU) (l := aI) (K := 2) (h' := [some ⟨105,(bG (eI .u8) aG [(eI .i64 aJ),(eI .i64 aO),(.sl 1 0 aL.length 1 false),(.sl 2 0 aI.length 2 true),(eI .i64 c0)])⟩,some ⟨22,aL.map (eL 1 (eI .u8))⟩,some ⟨127,aJA.flatMap aU⟩,some ⟨85,[(eI .i64 aY),(.row none 1 (bR.map (eI .u8))),(eI .i64 dS),(eI .i64 dL)]⟩]) (fun _ => rfl) rfl rfl h_15 rfl) ?_
      refine zz ?_
      exact hG3 _ _ _ _ (zG [0,1,2,1,2]) (J3 aG aJ aO c0 aL aJA hr)
     ·refine zz ?_
      refine zk hr rfl (fun h16 hr => ?_) (fun h16 hr => ?_)
      ·obtain ⟨x64,h_17,hr⟩ := aC hr
       refine zz ?_
       refine zc (aCh h_17) [0,1,2] ?_
       refine zz ?_
       obtain rfl := sj hr
       exact bL Tryz.results56 [0,1,2,4,5]
      ·refine zz ?_
       exact hG3 _ _ _ _ (zG [0,1,2,1,2]) (J3 aG aJ aO c0 aL aI hr)
  refine zz ?_
  refine zk hr rfl (fun h18 hr => ?_) (fun h18 hr => ?_)
  ·refine AB.seq ?_
   obtain ⟨x36,h_19,hr⟩ := aC hr
   refine AB.rs mixed [83] [] [[0,1,2,3,4,5,6,7,8,9]] ?_
   refine zz ?_
   refine xu (aF1 h_19) ?_
   refine zz ?_
   refine AB.seq ?_
   refine zz ?_
   refine zk hr rfl (fun h21 hr => ?_) (fun h21 hr => ?_)
   ·refine zz ?_
    obtain rfl := sj hr
    exact bL Tryz.results56 [0,1,2,1,2]
   ·refine zz ?_
    refine AB.seq ?_
    obtain ⟨x51,h_22,hr⟩ := aC hr
    refine AB.rs mixed [84] [] [[0,1,2,3,4,5,6,7]] ?_
    refine zz ?_
    refine xu (aGY h_22) ?_
    refine zz ?_
    refine zk hr rfl (fun h24 hr => ?_) (fun h24 hr => ?_)
    ·refine zz ?_
     obtain rfl := sj hr
     exact bL Tryz.results56 [0,1,2,1,2]
    ·refine zz ?_
     exact hG2 _ _ _ _ (zG [0,1,2,3]) (J2 (IntKind.i64.wrap (aW + x36)) hr)
  ·refine zz ?_
   exact hG2 _ _ _ _ (zG [0,1,2,3]) (J2 aW hr)
 refine AB.seq_g fun K5 hK5 hG5 => ?_
 have J5 : ∀ (x16 : Bool),f9 N aG aJ aO aL aI aW aY bR dS dL x8 x16 = some r → K5 (aK 116 [(0,(.ptr 0 0)),(3,(.ptr 3 0)),(5,(eB x8)),(16,(eB x16))]) [some ⟨105,(bG (eI .u8) aG [(eI .i64 aJ),(eI .i64 aO),(.sl 1 0 aL.length 1 false),(.sl 2 0 aI.length 2 true),(eI .i64 aW)])⟩,some ⟨22,aL.map (eL 1 (eI .u8))⟩,some ⟨127,aI.flatMap aU⟩,some ⟨85,[(eI .i64 aY),(.row none 1 (bR.map (eI .u8))),(eI .i64 dS),(eI .i64 dL)]⟩] := by
  intro x16 hr
  unfold f9 at hr
  refine hK5 _ _ ?_
  refine zk hr rfl (fun h25 hr => ?_) (fun h25 hr => ?_)
  ·obtain ⟨x27,h_26,hr⟩ := aC hr
   refine AB.rs mixed [] [] [[0,1,2,3,4,5,6,7,8,9,10,11,12,13]] ?_
   refine zz ?_
   refine xw (v := (eB x27.outer)) (bW rfl (aFz (C := aU) (K := 2) (off := 0) (fun _ => rfl) rfl h_26 zl (aAK ti4 rfl rfl))) ?_
   refine zz ?_
   exact hG1 _ _ _ _ (zG [0,1,2,3]) (J1 x27.outer hr)
  ·refine zz ?_
   exact hG1 _ _ _ _ (zG [0,1,2,3]) (J1 x8 hr)
 rcases Bool.eq_false_or_eq_true (aY == 15) with h27 | h27
 ·replace hr := eO hr h27
  refine xr ?_
  refine zz ?_
  exact hG5 _ _ _ _ (zG [0,1,2,3]) (J5 true hr)
 ·replace hr := eP hr h27
  refine xr ?_
  refine zz ?_
  exact hG5 _ _ _ _ (zG [0,1,2,3]) (J5 (aY == 16) hr)
end Go.Proofs.YtnoklhehodlkaaaGreatDoor
