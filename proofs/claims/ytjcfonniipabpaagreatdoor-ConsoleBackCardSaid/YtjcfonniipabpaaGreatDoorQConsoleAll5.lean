/- Texts of ours, joined: TyF, Shelf, Find, Act, Format, Kit, Hand, Ract, Rline, VmMark, Hand2. -/
import Derived.Test.YtjcfonniipabpaaGreatDoorQConsoleAll4
import Derived.Shelf.Strings.Builder1
import Derived.Shelf.Strings.Builder2
import Derived.Shelf.Strings.OnBuilder
import Derived.Shelf.Small.Bits
import Derived.Shelf.Small.Wraps
import Derived.Shelf.Strconv.Itoa0
import Derived.Shelf.Strconv.Itoa1
import Derived.Shelf.LaysM
import Derived.Shelf.Strconv.Itoa2
import Derived.Shelf.Strconv.Itoa3
import Derived.Shelf.Strings.Search1
import Derived.Shelf.Strings.Search2
import Derived.Shelf.Strings.Cut
import Derived.Shelf.Strings.Shaped
import Derived.Shelf.Strings.Prefix
import Derived.Shelf.Bits.Mul64
import Derived.Ground.Names2Prog
import Derived.Shelf.Slices.Clone
import Derived.Shelf.Slices.SearchI
import Derived.Ground.SlgnProg
import Derived.Shelf.SlicesE.Clone
import Derived.Shelf.SlicesQ.IndexFunc
import Derived.Ground.SlgfProg
import Derived.Test.YtjcfonniipabpaaGreatDoorProg
import Derived.Lib.SliceRun
import Derived.WalkKit
import Derived.Handy
import Derived.Lib.Builder
import Derived.BigCall
import Derived.Lib.OthersKept
import Derived.Lib.AppendIntMem
import Derived.Laws.StructEq
import Derived.Deep.QuietTactic
import Derived.BigQuiet
open Array renaming getElem?_eq_some_iff → aOg,getElem?_setIfInBounds_ne → aOj,getElem?_setIfInBounds_self_of_lt → aOp,getElem?_eq_none → aOv,getElem?_modify → aOD,ext_getElem? → aOG
open Nat renaming lt_of_lt_of_le → aOh,le_refl → aOm,le_of_eq → aOI,zero_le → aOJ
open List renaming getElem?_eq_getElem → aOi,drop_eq_getElem_cons → aOk,eq_nil_of_length_eq_zero → aOo,getElem?_eq_some_iff → aOq,prefix_refl → aOr,getElem?_cons_succ → aOt,drop_eq_nil_of_le → aOu,all_eq_true → aOw,mem_of_find?_eq_some → aOy,not_mem_nil → aOz,find?_cons → aOA,length_map → aOB,getElem?_toArray → aOC,mem_of_getElem? → aOE,mem_cons → aOF
open Option.some renaming inj → aOl,injEq → aOH
open ByteArray renaming size_append → aOn
open Option renaming isSome_iff_exists → aOs,getD_some → aOx
open Prod.mk renaming injEq → aOK
namespace Go.Proofs.YtjcfonniipabpaaGreatDoor
open Go Go.Vm
theorem mixed :Tryz.prog.follows .mixedOrders=true:=by kernel_rfl
theorem dep :2≤Tryz.prog.depth:=Nat.le_of_ble_eq_true (by kernel_rfl)
instance :DepC Tryz.prog:=⟨dep⟩
instance :TiC Tryz.prog 2 ⟨.int .i64,1,8,.int .i64 0⟩:=⟨ti2⟩
instance :NoA Tryz.prog 2:=⟨trivial⟩
instance :TiC Tryz.prog 3 ⟨.int .i64,1,8,.int .i64 0⟩:=⟨tZ⟩
instance :NoA Tryz.prog 3:=⟨trivial⟩
instance :TiC Tryz.prog 4 ⟨.bool,1,1,.bool false⟩:=⟨ti4⟩
instance :NoA Tryz.prog 4:=⟨trivial⟩
instance :TiC Tryz.prog 5 ⟨.int .u8,1,1,.int .u8 0⟩:=⟨cG⟩
instance :NoA Tryz.prog 5:=⟨trivial⟩
instance :TiC Tryz.prog 9 ⟨.string,1,16,.string .empty⟩:=⟨eT⟩
instance :NoA Tryz.prog 9:=⟨trivial⟩
instance :TiC Tryz.prog 12 ⟨.int .u64,1,8,.int .u64 0⟩:=⟨aML⟩
instance :NoA Tryz.prog 12:=⟨trivial⟩
instance :TiC Tryz.prog 21 ⟨.int .i32,1,4,.int .i32 0⟩:=⟨aNS⟩
instance :NoA Tryz.prog 21:=⟨trivial⟩
instance :TiC Tryz.prog 22 ⟨.slice 3,1,24,.slice none 0 0⟩:=⟨aGz⟩
instance :NoA Tryz.prog 22:=⟨trivial⟩
instance :TiC Tryz.prog 25 ⟨.slice 9,1,24,.slice none 0 0⟩:=⟨yH⟩
instance :NoA Tryz.prog 25:=⟨trivial⟩
instance :TiC Tryz.prog 26 ⟨.slice 39,1,24,.slice none 0 0⟩:=⟨aDh⟩
instance :NoA Tryz.prog 26:=⟨trivial⟩
instance :TiC Tryz.prog 27 ⟨.int .i64,1,8,.int .i64 0⟩:=⟨aNV⟩
instance :NoA Tryz.prog 27:=⟨trivial⟩
instance :TiC Tryz.prog 33 ⟨.slice 5,1,24,.slice none 0 0⟩:=⟨bJ⟩
instance :NoA Tryz.prog 33:=⟨trivial⟩
instance :TiC Tryz.prog 36 ⟨.pointer 88,1,8,.pointer none⟩:=⟨aMY⟩
instance :NoA Tryz.prog 36:=⟨trivial⟩
instance :TiC Tryz.prog 38 ⟨.struct #[{name:= "Kind",type:=3,offset:=0,embedded:=false,tag:= "",pkgPath:= "",byteOffset:=0},{name:= "A",type:=3,offset:=1,embedded:=false,tag:= "",pkgPath:= "",byteOffset:=8},{name:= "B",type:=3,offset:=2,embedded:=false,tag:= "",pkgPath:= "",byteOffset:=16},{name:= "N",type:=3,offset:=3,embedded:=false,tag:= "",pkgPath:= "",byteOffset:=24}],4,32,.agg #[.int .i64 0,.int .i64 0,.int .i64 0,.int .i64 0]⟩:=⟨aN7⟩
instance :NoA Tryz.prog 38:=⟨trivial⟩
instance :TiC Tryz.prog 39 ⟨.struct #[{name:= "Kind",type:=3,offset:=0,embedded:=false,tag:= "",pkgPath:= "",byteOffset:=0},{name:= "A",type:=3,offset:=1,embedded:=false,tag:= "",pkgPath:= "",byteOffset:=8},{name:= "B",type:=3,offset:=2,embedded:=false,tag:= "",pkgPath:= "",byteOffset:=16},{name:= "N",type:=3,offset:=3,embedded:=false,tag:= "",pkgPath:= "",byteOffset:=24}],4,32,.agg #[.int .i64 0,.int .i64 0,.int .i64 0,.int .i64 0]⟩:=⟨o5⟩
instance :NoA Tryz.prog 39:=⟨trivial⟩
instance :TiC Tryz.prog 40 ⟨.slice 26,1,24,.slice none 0 0⟩:=⟨aND⟩
instance :NoA Tryz.prog 40:=⟨trivial⟩
instance :TiC Tryz.prog 44 ⟨.int .u32,1,4,.int .u32 0⟩:=⟨aC4⟩
instance :NoA Tryz.prog 44:=⟨trivial⟩
instance :TiC Tryz.prog 45 ⟨.array 32 5,32,32,.agg #[.int .u8 0,.int .u8 0,.int .u8 0,.int .u8 0,.int .u8 0,.int .u8 0,.int .u8 0,.int .u8 0,.int .u8 0,.int .u8 0,.int .u8 0,.int .u8 0,.int .u8 0,.int .u8 0,.int .u8 0,.int .u8 0,.int .u8 0,.int .u8 0,.int .u8 0,.int .u8 0,.int .u8 0,.int .u8 0,.int .u8 0,.int .u8 0,.int .u8 0,.int .u8 0,.int .u8 0,.int .u8 0,.int .u8 0,.int .u8 0,.int .u8 0,.int .u8 0]⟩:=⟨aNp⟩
instance :TiC Tryz.prog 46 ⟨.array 32 5,32,32,.agg #[.int .u8 0,.int .u8 0,.int .u8 0,.int .u8 0,.int .u8 0,.int .u8 0,.int .u8 0,.int .u8 0,.int .u8 0,.int .u8 0,.int .u8 0,.int .u8 0,.int .u8 0,.int .u8 0,.int .u8 0,.int .u8 0,.int .u8 0,.int .u8 0,.int .u8 0,.int .u8 0,.int .u8 0,.int .u8 0,.int .u8 0,.int .u8 0,.int .u8 0,.int .u8 0,.int .u8 0,.int .u8 0,.int .u8 0,.int .u8 0,.int .u8 0,.int .u8 0]⟩:=⟨aN9⟩
instance :TiC Tryz.prog 47 ⟨.struct #[{name:= "Version",type:=44,offset:=0,embedded:=false,tag:= "",pkgPath:= "",byteOffset:=0},{name:= "Prev",type:=46,offset:=1,embedded:=false,tag:= "",pkgPath:= "",byteOffset:=4},{name:= "Root",type:=46,offset:=33,embedded:=false,tag:= "",pkgPath:= "",byteOffset:=36},{name:= "Time",type:=44,offset:=65,embedded:=false,tag:= "",pkgPath:= "",byteOffset:=68},{name:= "Bits",type:=44,offset:=66,embedded:=false,tag:= "",pkgPath:= "",byteOffset:=72},{name:= "Nonce",type:=44,offset:=67,embedded:=false,tag:= "",pkgPath:= "",byteOffset:=76}],68,80,.agg #[.int .u32 0,.int .u8 0,.int .u8 0,.int .u8 0,.int .u8 0,.int .u8 0,.int .u8 0,.int .u8 0,.int .u8 0,.int .u8 0,.int .u8 0,.int .u8 0,.int .u8 0,.int .u8 0,.int .u8 0,.int .u8 0,.int .u8 0,.int .u8 0,.int .u8 0,.int .u8 0,.int .u8 0,.int .u8 0,.int .u8 0,.int .u8 0,.int .u8 0,.int .u8 0,.int .u8 0,.int .u8 0,.int .u8 0,.int .u8 0,.int .u8 0,.int .u8 0,.int .u8 0,.int .u8 0,.int .u8 0,.int .u8 0,.int .u8 0,.int .u8 0,.int .u8 0,.int .u8 0,.int .u8 0,.int .u8 0,.int .u8 0,.int .u8 0,.int .u8 0,.int .u8 0,.int .u8 0,.int .u8 0,.int .u8 0,.int .u8 0,.int .u8 0,.int .u8 0,.int .u8 0,.int .u8 0,.int .u8 0,.int .u8 0,.int .u8 0,.int .u8 0,.int .u8 0,.int .u8 0,.int .u8 0,.int .u8 0,.int .u8 0,.int .u8 0,.int .u8 0,.int .u32 0,.int .u32 0,.int .u32 0]⟩:=⟨aNn⟩
instance :TiC Tryz.prog 48 ⟨.struct #[{name:= "Version",type:=44,offset:=0,embedded:=false,tag:= "",pkgPath:= "",byteOffset:=0},{name:= "Prev",type:=46,offset:=1,embedded:=false,tag:= "",pkgPath:= "",byteOffset:=4},{name:= "Root",type:=46,offset:=33,embedded:=false,tag:= "",pkgPath:= "",byteOffset:=36},{name:= "Time",type:=44,offset:=65,embedded:=false,tag:= "",pkgPath:= "",byteOffset:=68},{name:= "Bits",type:=44,offset:=66,embedded:=false,tag:= "",pkgPath:= "",byteOffset:=72},{name:= "Nonce",type:=44,offset:=67,embedded:=false,tag:= "",pkgPath:= "",byteOffset:=76}],68,80,.agg #[.int .u32 0,.int .u8 0,.int .u8 0,.int .u8 0,.int .u8 0,.int .u8 0,.int .u8 0,.int .u8 0,.int .u8 0,.int .u8 0,.int .u8 0,.int .u8 0,.int .u8 0,.int .u8 0,.int .u8 0,.int .u8 0,.int .u8 0,.int .u8 0,.int .u8 0,.int .u8 0,.int .u8 0,.int .u8 0,.int .u8 0,.int .u8 0,.int .u8 0,.int .u8 0,.int .u8 0,.int .u8 0,.int .u8 0,.int .u8 0,.int .u8 0,.int .u8 0,.int .u8 0,.int .u8 0,.int .u8 0,.int .u8 0,.int .u8 0,.int .u8 0,.int .u8 0,.int .u8 0,.int .u8 0,.int .u8 0,.int .u8 0,.int .u8 0,.int .u8 0,.int .u8 0,.int .u8 0,.int .u8 0,.int .u8 0,.int .u8 0,.int .u8 0,.int .u8 0,.int .u8 0,.int .u8 0,.int .u8 0,.int .u8 0,.int .u8 0,.int .u8 0,.int .u8 0,.int .u8 0,.int .u8 0,.int .u8 0,.int .u8 0,.int .u8 0,.int .u8 0,.int .u32 0,.int .u32 0,.int .u32 0]⟩:=⟨aM7⟩
instance :TiC Tryz.prog 49 ⟨.int .u64,1,8,.int .u64 0⟩:=⟨kM⟩
instance :NoA Tryz.prog 49:=⟨trivial⟩
instance :TiC Tryz.prog 50 ⟨.array 4 49,4,32,.agg #[.int .u64 0,.int .u64 0,.int .u64 0,.int .u64 0]⟩:=⟨aM3⟩
instance :TiC Tryz.prog 51 ⟨.array 4 49,4,32,.agg #[.int .u64 0,.int .u64 0,.int .u64 0,.int .u64 0]⟩:=⟨bK⟩
instance :TiC Tryz.prog 52 ⟨.slice 275,1,24,.slice none 0 0⟩:=⟨aMW⟩
instance :NoA Tryz.prog 52:=⟨trivial⟩
instance :TiC Tryz.prog 53 ⟨.struct #[{name:= "Genesis",type:=48,offset:=0,embedded:=false,tag:= "",pkgPath:= "",byteOffset:=0},{name:= "Limit",type:=51,offset:=68,embedded:=false,tag:= "",pkgPath:= "",byteOffset:=80},{name:= "Window",type:=3,offset:=72,embedded:=false,tag:= "",pkgPath:= "",byteOffset:=112},{name:= "Spacing",type:=44,offset:=73,embedded:=false,tag:= "",pkgPath:= "",byteOffset:=120},{name:= "Future",type:=44,offset:=74,embedded:=false,tag:= "",pkgPath:= "",byteOffset:=124},{name:= "Version",type:=44,offset:=75,embedded:=false,tag:= "",pkgPath:= "",byteOffset:=128},{name:= "Checkpoints",type:=52,offset:=76,embedded:=false,tag:= "",pkgPath:= "",byteOffset:=136},{name:= "Subsidy",type:=2,offset:=77,embedded:=false,tag:= "",pkgPath:= "",byteOffset:=160},{name:= "Halving",type:=3,offset:=78,embedded:=false,tag:= "",pkgPath:= "",byteOffset:=168},{name:= "Maturity",type:=3,offset:=79,embedded:=false,tag:= "",pkgPath:= "",byteOffset:=176}],80,184,.agg #[.int .u32 0,.int .u8 0,.int .u8 0,.int .u8 0,.int .u8 0,.int .u8 0,.int .u8 0,.int .u8 0,.int .u8 0,.int .u8 0,.int .u8 0,.int .u8 0,.int .u8 0,.int .u8 0,.int .u8 0,.int .u8 0,.int .u8 0,.int .u8 0,.int .u8 0,.int .u8 0,.int .u8 0,.int .u8 0,.int .u8 0,.int .u8 0,.int .u8 0,.int .u8 0,.int .u8 0,.int .u8 0,.int .u8 0,.int .u8 0,.int .u8 0,.int .u8 0,.int .u8 0,.int .u8 0,.int .u8 0,.int .u8 0,.int .u8 0,.int .u8 0,.int .u8 0,.int .u8 0,.int .u8 0,.int .u8 0,.int .u8 0,.int .u8 0,.int .u8 0,.int .u8 0,.int .u8 0,.int .u8 0,.int .u8 0,.int .u8 0,.int .u8 0,.int .u8 0,.int .u8 0,.int .u8 0,.int .u8 0,.int .u8 0,.int .u8 0,.int .u8 0,.int .u8 0,.int .u8 0,.int .u8 0,.int .u8 0,.int .u8 0,.int .u8 0,.int .u8 0,.int .u32 0,.int .u32 0,.int .u32 0,.int .u64 0,.int .u64 0,.int .u64 0,.int .u64 0,.int .i64 0,.int .u32 0,.int .u32 0,.int .u32 0,.slice none 0 0,.int .i64 0,.int .i64 0,.int .i64 0]⟩:=⟨aM0⟩
instance :TiC Tryz.prog 54 ⟨.struct #[{name:= "Genesis",type:=48,offset:=0,embedded:=false,tag:= "",pkgPath:= "",byteOffset:=0},{name:= "Limit",type:=51,offset:=68,embedded:=false,tag:= "",pkgPath:= "",byteOffset:=80},{name:= "Window",type:=3,offset:=72,embedded:=false,tag:= "",pkgPath:= "",byteOffset:=112},{name:= "Spacing",type:=44,offset:=73,embedded:=false,tag:= "",pkgPath:= "",byteOffset:=120},{name:= "Future",type:=44,offset:=74,embedded:=false,tag:= "",pkgPath:= "",byteOffset:=124},{name:= "Version",type:=44,offset:=75,embedded:=false,tag:= "",pkgPath:= "",byteOffset:=128},{name:= "Checkpoints",type:=52,offset:=76,embedded:=false,tag:= "",pkgPath:= "",byteOffset:=136},{name:= "Subsidy",type:=2,offset:=77,embedded:=false,tag:= "",pkgPath:= "",byteOffset:=160},{name:= "Halving",type:=3,offset:=78,embedded:=false,tag:= "",pkgPath:= "",byteOffset:=168},{name:= "Maturity",type:=3,offset:=79,embedded:=false,tag:= "",pkgPath:= "",byteOffset:=176}],80,184,.agg #[.int .u32 0,.int .u8 0,.int .u8 0,.int .u8 0,.int .u8 0,.int .u8 0,.int .u8 0,.int .u8 0,.int .u8 0,.int .u8 0,.int .u8 0,.int .u8 0,.int .u8 0,.int .u8 0,.int .u8 0,.int .u8 0,.int .u8 0,.int .u8 0,.int .u8 0,.int .u8 0,.int .u8 0,.int .u8 0,.int .u8 0,.int .u8 0,.int .u8 0,.int .u8 0,.int .u8 0,.int .u8 0,.int .u8 0,.int .u8 0,.int .u8 0,.int .u8 0,.int .u8 0,.int .u8 0,.int .u8 0,.int .u8 0,.int .u8 0,.int .u8 0,.int .u8 0,.int .u8 0,.int .u8 0,.int .u8 0,.int .u8 0,.int .u8 0,.int .u8 0,.int .u8 0,.int .u8 0,.int .u8 0,.int .u8 0,.int .u8 0,.int .u8 0,.int .u8 0,.int .u8 0,.int .u8 0,.int .u8 0,.int .u8 0,.int .u8 0,.int .u8 0,.int .u8 0,.int .u8 0,.int .u8 0,.int .u8 0,.int .u8 0,.int .u8 0,.int .u8 0,.int .u32 0,.int .u32 0,.int .u32 0,.int .u64 0,.int .u64 0,.int .u64 0,.int .u64 0,.int .i64 0,.int .u32 0,.int .u32 0,.int .u32 0,.slice none 0 0,.int .i64 0,.int .i64 0,.int .i64 0]⟩:=⟨aG0⟩
instance :TiC Tryz.prog 55 ⟨.slice 165,1,24,.slice none 0 0⟩:=⟨aNv⟩
instance :NoA Tryz.prog 55:=⟨trivial⟩
instance :TiC Tryz.prog 56 ⟨.struct #[{name:= "Nodes",type:=55,offset:=0,embedded:=false,tag:= "",pkgPath:= "",byteOffset:=0},{name:= "Best",type:=3,offset:=1,embedded:=false,tag:= "",pkgPath:= "",byteOffset:=24}],2,32,.agg #[.slice none 0 0,.int .i64 0]⟩:=⟨aM4⟩
instance :NoA Tryz.prog 56:=⟨trivial⟩
instance :TiC Tryz.prog 57 ⟨.struct #[{name:= "Nodes",type:=55,offset:=0,embedded:=false,tag:= "",pkgPath:= "",byteOffset:=0},{name:= "Best",type:=3,offset:=1,embedded:=false,tag:= "",pkgPath:= "",byteOffset:=24}],2,32,.agg #[.slice none 0 0,.int .i64 0]⟩:=⟨aMM⟩
instance :NoA Tryz.prog 57:=⟨trivial⟩
instance :TiC Tryz.prog 58 ⟨.slice 46,1,24,.slice none 0 0⟩:=⟨aNR⟩
instance :NoA Tryz.prog 58:=⟨trivial⟩
instance :TiC Tryz.prog 59 ⟨.struct #[{name:= "Blocks",type:=58,offset:=0,embedded:=false,tag:= "",pkgPath:= "",byteOffset:=0},{name:= "Headers",type:=58,offset:=1,embedded:=false,tag:= "",pkgPath:= "",byteOffset:=24}],2,48,.agg #[.slice none 0 0,.slice none 0 0]⟩:=⟨aNu⟩
instance :NoA Tryz.prog 59:=⟨trivial⟩
instance :TiC Tryz.prog 60 ⟨.struct #[{name:= "Blocks",type:=58,offset:=0,embedded:=false,tag:= "",pkgPath:= "",byteOffset:=0},{name:= "Headers",type:=58,offset:=1,embedded:=false,tag:= "",pkgPath:= "",byteOffset:=24}],2,48,.agg #[.slice none 0 0,.slice none 0 0]⟩:=⟨aOc⟩
instance :NoA Tryz.prog 60:=⟨trivial⟩
instance :TiC Tryz.prog 61 ⟨.slice 301,1,24,.slice none 0 0⟩:=⟨aNg⟩
instance :NoA Tryz.prog 61:=⟨trivial⟩
instance :TiC Tryz.prog 62 ⟨.struct #[{name:= "Low",type:=3,offset:=0,embedded:=false,tag:= "",pkgPath:= "",byteOffset:=0},{name:= "High",type:=3,offset:=1,embedded:=false,tag:= "",pkgPath:= "",byteOffset:=8},{name:= "Agreed",type:=46,offset:=2,embedded:=false,tag:= "",pkgPath:= "",byteOffset:=16},{name:= "Claims",type:=61,offset:=34,embedded:=false,tag:= "",pkgPath:= "",byteOffset:=48}],35,72,.agg #[.int .i64 0,.int .i64 0,.int .u8 0,.int .u8 0,.int .u8 0,.int .u8 0,.int .u8 0,.int .u8 0,.int .u8 0,.int .u8 0,.int .u8 0,.int .u8 0,.int .u8 0,.int .u8 0,.int .u8 0,.int .u8 0,.int .u8 0,.int .u8 0,.int .u8 0,.int .u8 0,.int .u8 0,.int .u8 0,.int .u8 0,.int .u8 0,.int .u8 0,.int .u8 0,.int .u8 0,.int .u8 0,.int .u8 0,.int .u8 0,.int .u8 0,.int .u8 0,.int .u8 0,.int .u8 0,.slice none 0 0]⟩:=⟨aNI⟩
instance :TiC Tryz.prog 63 ⟨.struct #[{name:= "Low",type:=3,offset:=0,embedded:=false,tag:= "",pkgPath:= "",byteOffset:=0},{name:= "High",type:=3,offset:=1,embedded:=false,tag:= "",pkgPath:= "",byteOffset:=8},{name:= "Agreed",type:=46,offset:=2,embedded:=false,tag:= "",pkgPath:= "",byteOffset:=16},{name:= "Claims",type:=61,offset:=34,embedded:=false,tag:= "",pkgPath:= "",byteOffset:=48}],35,72,.agg #[.int .i64 0,.int .i64 0,.int .u8 0,.int .u8 0,.int .u8 0,.int .u8 0,.int .u8 0,.int .u8 0,.int .u8 0,.int .u8 0,.int .u8 0,.int .u8 0,.int .u8 0,.int .u8 0,.int .u8 0,.int .u8 0,.int .u8 0,.int .u8 0,.int .u8 0,.int .u8 0,.int .u8 0,.int .u8 0,.int .u8 0,.int .u8 0,.int .u8 0,.int .u8 0,.int .u8 0,.int .u8 0,.int .u8 0,.int .u8 0,.int .u8 0,.int .u8 0,.int .u8 0,.int .u8 0,.slice none 0 0]⟩:=⟨aMX⟩
instance :TiC Tryz.prog 64 ⟨.slice 304,1,24,.slice none 0 0⟩:=⟨aM1⟩
instance :NoA Tryz.prog 64:=⟨trivial⟩
instance :TiC Tryz.prog 65 ⟨.slice 309,1,24,.slice none 0 0⟩:=⟨aNy⟩
instance :NoA Tryz.prog 65:=⟨trivial⟩
instance :TiC Tryz.prog 66 ⟨.struct #[{name:= "Tasks",type:=64,offset:=0,embedded:=false,tag:= "",pkgPath:= "",byteOffset:=0},{name:= "Owned",type:=65,offset:=1,embedded:=false,tag:= "",pkgPath:= "",byteOffset:=24}],2,48,.agg #[.slice none 0 0,.slice none 0 0]⟩:=⟨aNf⟩
instance :NoA Tryz.prog 66:=⟨trivial⟩
instance :TiC Tryz.prog 67 ⟨.struct #[{name:= "Tasks",type:=64,offset:=0,embedded:=false,tag:= "",pkgPath:= "",byteOffset:=0},{name:= "Owned",type:=65,offset:=1,embedded:=false,tag:= "",pkgPath:= "",byteOffset:=24}],2,48,.agg #[.slice none 0 0,.slice none 0 0]⟩:=⟨aNi⟩
instance :NoA Tryz.prog 67:=⟨trivial⟩
instance :TiC Tryz.prog 68 ⟨.slice 156,1,24,.slice none 0 0⟩:=⟨aNr⟩
instance :NoA Tryz.prog 68:=⟨trivial⟩
instance :TiC Tryz.prog 69 ⟨.slice 315,1,24,.slice none 0 0⟩:=⟨aNj⟩
instance :NoA Tryz.prog 69:=⟨trivial⟩
instance :TiC Tryz.prog 70 ⟨.struct #[{name:= "Salt",type:=46,offset:=0,embedded:=false,tag:= "",pkgPath:= "",byteOffset:=0},{name:= "Batch",type:=3,offset:=32,embedded:=false,tag:= "",pkgPath:= "",byteOffset:=32},{name:= "Side",type:=3,offset:=33,embedded:=false,tag:= "",pkgPath:= "",byteOffset:=40},{name:= "Tree",type:=57,offset:=34,embedded:=false,tag:= "",pkgPath:= "",byteOffset:=48},{name:= "Filters",type:=60,offset:=36,embedded:=false,tag:= "",pkgPath:= "",byteOffset:=80},{name:= "Base",type:=3,offset:=38,embedded:=false,tag:= "",pkgPath:= "",byteOffset:=128},{name:= "Checked",type:=3,offset:=39,embedded:=false,tag:= "",pkgPath:= "",byteOffset:=136},{name:= "Source",type:=3,offset:=40,embedded:=false,tag:= "",pkgPath:= "",byteOffset:=144},{name:= "HasAgreed",type:=4,offset:=41,embedded:=false,tag:= "",pkgPath:= "",byteOffset:=152},{name:= "Agreed",type:=46,offset:=42,embedded:=false,tag:= "",pkgPath:= "",byteOffset:=153},{name:= "Disputing",type:=4,offset:=74,embedded:=false,tag:= "",pkgPath:= "",byteOffset:=185},{name:= "Dispute",type:=63,offset:=75,embedded:=false,tag:= "",pkgPath:= "",byteOffset:=192},{name:= "Doubt",type:=3,offset:=110,embedded:=false,tag:= "",pkgPath:= "",byteOffset:=264},{name:= "Blamed",type:=3,offset:=111,embedded:=false,tag:= "",pkgPath:= "",byteOffset:=272},{name:= "Wanted",type:=3,offset:=112,embedded:=false,tag:= "",pkgPath:= "",byteOffset:=280},{name:= "Scan",type:=67,offset:=113,embedded:=false,tag:= "",pkgPath:= "",byteOffset:=288},{name:= "Remotes",type:=68,offset:=115,embedded:=false,tag:= "",pkgPath:= "",byteOffset:=336},{name:= "Penalties",type:=69,offset:=116,embedded:=false,tag:= "",pkgPath:= "",byteOffset:=360}],117,384,.agg #[.int .u8 0,.int .u8 0,.int .u8 0,.int .u8 0,.int .u8 0,.int .u8 0,.int .u8 0,.int .u8 0,.int .u8 0,.int .u8 0,.int .u8 0,.int .u8 0,.int .u8 0,.int .u8 0,.int .u8 0,.int .u8 0,.int .u8 0,.int .u8 0,.int .u8 0,.int .u8 0,.int .u8 0,.int .u8 0,.int .u8 0,.int .u8 0,.int .u8 0,.int .u8 0,.int .u8 0,.int .u8 0,.int .u8 0,.int .u8 0,.int .u8 0,.int .u8 0,.int .i64 0,.int .i64 0,.slice none 0 0,.int .i64 0,.slice none 0 0,.slice none 0 0,.int .i64 0,.int .i64 0,.int .i64 0,.bool false,.int .u8 0,.int .u8 0,.int .u8 0,.int .u8 0,.int .u8 0,.int .u8 0,.int .u8 0,.int .u8 0,.int .u8 0,.int .u8 0,.int .u8 0,.int .u8 0,.int .u8 0,.int .u8 0,.int .u8 0,.int .u8 0,.int .u8 0,.int .u8 0,.int .u8 0,.int .u8 0,.int .u8 0,.int .u8 0,.int .u8 0,.int .u8 0,.int .u8 0,.int .u8 0,.int .u8 0,.int .u8 0,.int .u8 0,.int .u8 0,.int .u8 0,.int .u8 0,.bool false,.int .i64 0,.int .i64 0,.int .u8 0,.int .u8 0,.int .u8 0,.int .u8 0,.int .u8 0,.int .u8 0,.int .u8 0,.int .u8 0,.int .u8 0,.int .u8 0,.int .u8 0,.int .u8 0,.int .u8 0,.int .u8 0,.int .u8 0,.int .u8 0,.int .u8 0,.int .u8 0,.int .u8 0,.int .u8 0,.int .u8 0,.int .u8 0,.int .u8 0,.int .u8 0,.int .u8 0,.int .u8 0,.int .u8 0,.int .u8 0,.int .u8 0,.int .u8 0,.int .u8 0,.int .u8 0,.slice none 0 0,.int .i64 0,.int .i64 0,.int .i64 0,.slice none 0 0,.slice none 0 0,.slice none 0 0,.slice none 0 0]⟩:=⟨aM5⟩
instance :TiC Tryz.prog 71 ⟨.struct #[{name:= "Salt",type:=46,offset:=0,embedded:=false,tag:= "",pkgPath:= "",byteOffset:=0},{name:= "Batch",type:=3,offset:=32,embedded:=false,tag:= "",pkgPath:= "",byteOffset:=32},{name:= "Side",type:=3,offset:=33,embedded:=false,tag:= "",pkgPath:= "",byteOffset:=40},{name:= "Tree",type:=57,offset:=34,embedded:=false,tag:= "",pkgPath:= "",byteOffset:=48},{name:= "Filters",type:=60,offset:=36,embedded:=false,tag:= "",pkgPath:= "",byteOffset:=80},{name:= "Base",type:=3,offset:=38,embedded:=false,tag:= "",pkgPath:= "",byteOffset:=128},{name:= "Checked",type:=3,offset:=39,embedded:=false,tag:= "",pkgPath:= "",byteOffset:=136},{name:= "Source",type:=3,offset:=40,embedded:=false,tag:= "",pkgPath:= "",byteOffset:=144},{name:= "HasAgreed",type:=4,offset:=41,embedded:=false,tag:= "",pkgPath:= "",byteOffset:=152},{name:= "Agreed",type:=46,offset:=42,embedded:=false,tag:= "",pkgPath:= "",byteOffset:=153},{name:= "Disputing",type:=4,offset:=74,embedded:=false,tag:= "",pkgPath:= "",byteOffset:=185},{name:= "Dispute",type:=63,offset:=75,embedded:=false,tag:= "",pkgPath:= "",byteOffset:=192},{name:= "Doubt",type:=3,offset:=110,embedded:=false,tag:= "",pkgPath:= "",byteOffset:=264},{name:= "Blamed",type:=3,offset:=111,embedded:=false,tag:= "",pkgPath:= "",byteOffset:=272},{name:= "Wanted",type:=3,offset:=112,embedded:=false,tag:= "",pkgPath:= "",byteOffset:=280},{name:= "Scan",type:=67,offset:=113,embedded:=false,tag:= "",pkgPath:= "",byteOffset:=288},{name:= "Remotes",type:=68,offset:=115,embedded:=false,tag:= "",pkgPath:= "",byteOffset:=336},{name:= "Penalties",type:=69,offset:=116,embedded:=false,tag:= "",pkgPath:= "",byteOffset:=360}],117,384,.agg #[.int .u8 0,.int .u8 0,.int .u8 0,.int .u8 0,.int .u8 0,.int .u8 0,.int .u8 0,.int .u8 0,.int .u8 0,.int .u8 0,.int .u8 0,.int .u8 0,.int .u8 0,.int .u8 0,.int .u8 0,.int .u8 0,.int .u8 0,.int .u8 0,.int .u8 0,.int .u8 0,.int .u8 0,.int .u8 0,.int .u8 0,.int .u8 0,.int .u8 0,.int .u8 0,.int .u8 0,.int .u8 0,.int .u8 0,.int .u8 0,.int .u8 0,.int .u8 0,.int .i64 0,.int .i64 0,.slice none 0 0,.int .i64 0,.slice none 0 0,.slice none 0 0,.int .i64 0,.int .i64 0,.int .i64 0,.bool false,.int .u8 0,.int .u8 0,.int .u8 0,.int .u8 0,.int .u8 0,.int .u8 0,.int .u8 0,.int .u8 0,.int .u8 0,.int .u8 0,.int .u8 0,.int .u8 0,.int .u8 0,.int .u8 0,.int .u8 0,.int .u8 0,.int .u8 0,.int .u8 0,.int .u8 0,.int .u8 0,.int .u8 0,.int .u8 0,.int .u8 0,.int .u8 0,.int .u8 0,.int .u8 0,.int .u8 0,.int .u8 0,.int .u8 0,.int .u8 0,.int .u8 0,.int .u8 0,.bool false,.int .i64 0,.int .i64 0,.int .u8 0,.int .u8 0,.int .u8 0,.int .u8 0,.int .u8 0,.int .u8 0,.int .u8 0,.int .u8 0,.int .u8 0,.int .u8 0,.int .u8 0,.int .u8 0,.int .u8 0,.int .u8 0,.int .u8 0,.int .u8 0,.int .u8 0,.int .u8 0,.int .u8 0,.int .u8 0,.int .u8 0,.int .u8 0,.int .u8 0,.int .u8 0,.int .u8 0,.int .u8 0,.int .u8 0,.int .u8 0,.int .u8 0,.int .u8 0,.int .u8 0,.int .u8 0,.slice none 0 0,.int .i64 0,.int .i64 0,.int .i64 0,.slice none 0 0,.slice none 0 0,.slice none 0 0,.slice none 0 0]⟩:=⟨aNF⟩
instance :TiC Tryz.prog 72 ⟨.slice 106,1,24,.slice none 0 0⟩:=⟨aMG⟩
instance :NoA Tryz.prog 72:=⟨trivial⟩
instance :TiC Tryz.prog 73 ⟨.struct #[{name:= "Round",type:=3,offset:=0,embedded:=false,tag:= "",pkgPath:= "",byteOffset:=0},{name:= "Patience",type:=3,offset:=1,embedded:=false,tag:= "",pkgPath:= "",byteOffset:=8},{name:= "Client",type:=71,offset:=2,embedded:=false,tag:= "",pkgPath:= "",byteOffset:=16},{name:= "Servers",type:=72,offset:=119,embedded:=false,tag:= "",pkgPath:= "",byteOffset:=400},{name:= "Delays",type:=22,offset:=120,embedded:=false,tag:= "",pkgPath:= "",byteOffset:=424}],121,448,.agg #[.int .i64 0,.int .i64 0,.int .u8 0,.int .u8 0,.int .u8 0,.int .u8 0,.int .u8 0,.int .u8 0,.int .u8 0,.int .u8 0,.int .u8 0,.int .u8 0,.int .u8 0,.int .u8 0,.int .u8 0,.int .u8 0,.int .u8 0,.int .u8 0,.int .u8 0,.int .u8 0,.int .u8 0,.int .u8 0,.int .u8 0,.int .u8 0,.int .u8 0,.int .u8 0,.int .u8 0,.int .u8 0,.int .u8 0,.int .u8 0,.int .u8 0,.int .u8 0,.int .u8 0,.int .u8 0,.int .i64 0,.int .i64 0,.slice none 0 0,.int .i64 0,.slice none 0 0,.slice none 0 0,.int .i64 0,.int .i64 0,.int .i64 0,.bool false,.int .u8 0,.int .u8 0,.int .u8 0,.int .u8 0,.int .u8 0,.int .u8 0,.int .u8 0,.int .u8 0,.int .u8 0,.int .u8 0,.int .u8 0,.int .u8 0,.int .u8 0,.int .u8 0,.int .u8 0,.int .u8 0,.int .u8 0,.int .u8 0,.int .u8 0,.int .u8 0,.int .u8 0,.int .u8 0,.int .u8 0,.int .u8 0,.int .u8 0,.int .u8 0,.int .u8 0,.int .u8 0,.int .u8 0,.int .u8 0,.int .u8 0,.int .u8 0,.bool false,.int .i64 0,.int .i64 0,.int .u8 0,.int .u8 0,.int .u8 0,.int .u8 0,.int .u8 0,.int .u8 0,.int .u8 0,.int .u8 0,.int .u8 0,.int .u8 0,.int .u8 0,.int .u8 0,.int .u8 0,.int .u8 0,.int .u8 0,.int .u8 0,.int .u8 0,.int .u8 0,.int .u8 0,.int .u8 0,.int .u8 0,.int .u8 0,.int .u8 0,.int .u8 0,.int .u8 0,.int .u8 0,.int .u8 0,.int .u8 0,.int .u8 0,.int .u8 0,.int .u8 0,.int .u8 0,.slice none 0 0,.int .i64 0,.int .i64 0,.int .i64 0,.slice none 0 0,.slice none 0 0,.slice none 0 0,.slice none 0 0,.slice none 0 0,.slice none 0 0]⟩:=⟨aMN⟩
instance :TiC Tryz.prog 74 ⟨.struct #[{name:= "Round",type:=3,offset:=0,embedded:=false,tag:= "",pkgPath:= "",byteOffset:=0},{name:= "Patience",type:=3,offset:=1,embedded:=false,tag:= "",pkgPath:= "",byteOffset:=8},{name:= "Client",type:=71,offset:=2,embedded:=false,tag:= "",pkgPath:= "",byteOffset:=16},{name:= "Servers",type:=72,offset:=119,embedded:=false,tag:= "",pkgPath:= "",byteOffset:=400},{name:= "Delays",type:=22,offset:=120,embedded:=false,tag:= "",pkgPath:= "",byteOffset:=424}],121,448,.agg #[.int .i64 0,.int .i64 0,.int .u8 0,.int .u8 0,.int .u8 0,.int .u8 0,.int .u8 0,.int .u8 0,.int .u8 0,.int .u8 0,.int .u8 0,.int .u8 0,.int .u8 0,.int .u8 0,.int .u8 0,.int .u8 0,.int .u8 0,.int .u8 0,.int .u8 0,.int .u8 0,.int .u8 0,.int .u8 0,.int .u8 0,.int .u8 0,.int .u8 0,.int .u8 0,.int .u8 0,.int .u8 0,.int .u8 0,.int .u8 0,.int .u8 0,.int .u8 0,.int .u8 0,.int .u8 0,.int .i64 0,.int .i64 0,.slice none 0 0,.int .i64 0,.slice none 0 0,.slice none 0 0,.int .i64 0,.int .i64 0,.int .i64 0,.bool false,.int .u8 0,.int .u8 0,.int .u8 0,.int .u8 0,.int .u8 0,.int .u8 0,.int .u8 0,.int .u8 0,.int .u8 0,.int .u8 0,.int .u8 0,.int .u8 0,.int .u8 0,.int .u8 0,.int .u8 0,.int .u8 0,.int .u8 0,.int .u8 0,.int .u8 0,.int .u8 0,.int .u8 0,.int .u8 0,.int .u8 0,.int .u8 0,.int .u8 0,.int .u8 0,.int .u8 0,.int .u8 0,.int .u8 0,.int .u8 0,.int .u8 0,.int .u8 0,.bool false,.int .i64 0,.int .i64 0,.int .u8 0,.int .u8 0,.int .u8 0,.int .u8 0,.int .u8 0,.int .u8 0,.int .u8 0,.int .u8 0,.int .u8 0,.int .u8 0,.int .u8 0,.int .u8 0,.int .u8 0,.int .u8 0,.int .u8 0,.int .u8 0,.int .u8 0,.int .u8 0,.int .u8 0,.int .u8 0,.int .u8 0,.int .u8 0,.int .u8 0,.int .u8 0,.int .u8 0,.int .u8 0,.int .u8 0,.int .u8 0,.int .u8 0,.int .u8 0,.int .u8 0,.int .u8 0,.slice none 0 0,.int .i64 0,.int .i64 0,.int .i64 0,.slice none 0 0,.slice none 0 0,.slice none 0 0,.slice none 0 0,.slice none 0 0,.slice none 0 0]⟩:=⟨aG7⟩
instance :TiC Tryz.prog 75 ⟨.slice 91,1,24,.slice none 0 0⟩:=⟨aG1⟩
instance :NoA Tryz.prog 75:=⟨trivial⟩
instance :TiC Tryz.prog 76 ⟨.slice 33,1,24,.slice none 0 0⟩:=⟨aGJ⟩
instance :NoA Tryz.prog 76:=⟨trivial⟩
instance :TiC Tryz.prog 77 ⟨.struct #[{name:= "P",type:=54,offset:=0,embedded:=false,tag:= "",pkgPath:= "",byteOffset:=0},{name:= "N",type:=74,offset:=80,embedded:=false,tag:= "",pkgPath:= "",byteOffset:=184},{name:= "Branches",type:=75,offset:=201,embedded:=false,tag:= "",pkgPath:= "",byteOffset:=632},{name:= "Scripts",type:=76,offset:=202,embedded:=false,tag:= "",pkgPath:= "",byteOffset:=656}],203,680,.agg #[.int .u32 0,.int .u8 0,.int .u8 0,.int .u8 0,.int .u8 0,.int .u8 0,.int .u8 0,.int .u8 0,.int .u8 0,.int .u8 0,.int .u8 0,.int .u8 0,.int .u8 0,.int .u8 0,.int .u8 0,.int .u8 0,.int .u8 0,.int .u8 0,.int .u8 0,.int .u8 0,.int .u8 0,.int .u8 0,.int .u8 0,.int .u8 0,.int .u8 0,.int .u8 0,.int .u8 0,.int .u8 0,.int .u8 0,.int .u8 0,.int .u8 0,.int .u8 0,.int .u8 0,.int .u8 0,.int .u8 0,.int .u8 0,.int .u8 0,.int .u8 0,.int .u8 0,.int .u8 0,.int .u8 0,.int .u8 0,.int .u8 0,.int .u8 0,.int .u8 0,.int .u8 0,.int .u8 0,.int .u8 0,.int .u8 0,.int .u8 0,.int .u8 0,.int .u8 0,.int .u8 0,.int .u8 0,.int .u8 0,.int .u8 0,.int .u8 0,.int .u8 0,.int .u8 0,.int .u8 0,.int .u8 0,.int .u8 0,.int .u8 0,.int .u8 0,.int .u8 0,.int .u32 0,.int .u32 0,.int .u32 0,.int .u64 0,.int .u64 0,.int .u64 0,.int .u64 0,.int .i64 0,.int .u32 0,.int .u32 0,.int .u32 0,.slice none 0 0,.int .i64 0,.int .i64 0,.int .i64 0,.int .i64 0,.int .i64 0,.int .u8 0,.int .u8 0,.int .u8 0,.int .u8 0,.int .u8 0,.int .u8 0,.int .u8 0,.int .u8 0,.int .u8 0,.int .u8 0,.int .u8 0,.int .u8 0,.int .u8 0,.int .u8 0,.int .u8 0,.int .u8 0,.int .u8 0,.int .u8 0,.int .u8 0,.int .u8 0,.int .u8 0,.int .u8 0,.int .u8 0,.int .u8 0,.int .u8 0,.int .u8 0,.int .u8 0,.int .u8 0,.int .u8 0,.int .u8 0,.int .u8 0,.int .u8 0,.int .i64 0,.int .i64 0,.slice none 0 0,.int .i64 0,.slice none 0 0,.slice none 0 0,.int .i64 0,.int .i64 0,.int .i64 0,.bool false,.int .u8 0,.int .u8 0,.int .u8 0,.int .u8 0,.int .u8 0,.int .u8 0,.int .u8 0,.int .u8 0,.int .u8 0,.int .u8 0,.int .u8 0,.int .u8 0,.int .u8 0,.int .u8 0,.int .u8 0,.int .u8 0,.int .u8 0,.int .u8 0,.int .u8 0,.int .u8 0,.int .u8 0,.int .u8 0,.int .u8 0,.int .u8 0,.int .u8 0,.int .u8 0,.int .u8 0,.int .u8 0,.int .u8 0,.int .u8 0,.int .u8 0,.int .u8 0,.bool false,.int .i64 0,.int .i64 0,.int .u8 0,.int .u8 0,.int .u8 0,.int .u8 0,.int .u8 0,.int .u8 0,.int .u8 0,.int .u8 0,.int .u8 0,.int .u8 0,.int .u8 0,.int .u8 0,.int .u8 0,.int .u8 0,.int .u8 0,.int .u8 0,.int .u8 0,.int .u8 0,.int .u8 0,.int .u8 0,.int .u8 0,.int .u8 0,.int .u8 0,.int .u8 0,.int .u8 0,.int .u8 0,.int .u8 0,.int .u8 0,.int .u8 0,.int .u8 0,.int .u8 0,.int .u8 0,.slice none 0 0,.int .i64 0,.int .i64 0,.int .i64 0,.slice none 0 0,.slice none 0 0,.slice none 0 0,.slice none 0 0,.slice none 0 0,.slice none 0 0,.slice none 0 0,.slice none 0 0]⟩:=⟨aMH⟩
instance :TiC Tryz.prog 78 ⟨.struct #[{name:= "P",type:=54,offset:=0,embedded:=false,tag:= "",pkgPath:= "",byteOffset:=0},{name:= "N",type:=74,offset:=80,embedded:=false,tag:= "",pkgPath:= "",byteOffset:=184},{name:= "Branches",type:=75,offset:=201,embedded:=false,tag:= "",pkgPath:= "",byteOffset:=632},{name:= "Scripts",type:=76,offset:=202,embedded:=false,tag:= "",pkgPath:= "",byteOffset:=656}],203,680,.agg #[.int .u32 0,.int .u8 0,.int .u8 0,.int .u8 0,.int .u8 0,.int .u8 0,.int .u8 0,.int .u8 0,.int .u8 0,.int .u8 0,.int .u8 0,.int .u8 0,.int .u8 0,.int .u8 0,.int .u8 0,.int .u8 0,.int .u8 0,.int .u8 0,.int .u8 0,.int .u8 0,.int .u8 0,.int .u8 0,.int .u8 0,.int .u8 0,.int .u8 0,.int .u8 0,.int .u8 0,.int .u8 0,.int .u8 0,.int .u8 0,.int .u8 0,.int .u8 0,.int .u8 0,.int .u8 0,.int .u8 0,.int .u8 0,.int .u8 0,.int .u8 0,.int .u8 0,.int .u8 0,.int .u8 0,.int .u8 0,.int .u8 0,.int .u8 0,.int .u8 0,.int .u8 0,.int .u8 0,.int .u8 0,.int .u8 0,.int .u8 0,.int .u8 0,.int .u8 0,.int .u8 0,.int .u8 0,.int .u8 0,.int .u8 0,.int .u8 0,.int .u8 0,.int .u8 0,.int .u8 0,.int .u8 0,.int .u8 0,.int .u8 0,.int .u8 0,.int .u8 0,.int .u32 0,.int .u32 0,.int .u32 0,.int .u64 0,.int .u64 0,.int .u64 0,.int .u64 0,.int .i64 0,.int .u32 0,.int .u32 0,.int .u32 0,.slice none 0 0,.int .i64 0,.int .i64 0,.int .i64 0,.int .i64 0,.int .i64 0,.int .u8 0,.int .u8 0,.int .u8 0,.int .u8 0,.int .u8 0,.int .u8 0,.int .u8 0,.int .u8 0,.int .u8 0,.int .u8 0,.int .u8 0,.int .u8 0,.int .u8 0,.int .u8 0,.int .u8 0,.int .u8 0,.int .u8 0,.int .u8 0,.int .u8 0,.int .u8 0,.int .u8 0,.int .u8 0,.int .u8 0,.int .u8 0,.int .u8 0,.int .u8 0,.int .u8 0,.int .u8 0,.int .u8 0,.int .u8 0,.int .u8 0,.int .u8 0,.int .i64 0,.int .i64 0,.slice none 0 0,.int .i64 0,.slice none 0 0,.slice none 0 0,.int .i64 0,.int .i64 0,.int .i64 0,.bool false,.int .u8 0,.int .u8 0,.int .u8 0,.int .u8 0,.int .u8 0,.int .u8 0,.int .u8 0,.int .u8 0,.int .u8 0,.int .u8 0,.int .u8 0,.int .u8 0,.int .u8 0,.int .u8 0,.int .u8 0,.int .u8 0,.int .u8 0,.int .u8 0,.int .u8 0,.int .u8 0,.int .u8 0,.int .u8 0,.int .u8 0,.int .u8 0,.int .u8 0,.int .u8 0,.int .u8 0,.int .u8 0,.int .u8 0,.int .u8 0,.int .u8 0,.int .u8 0,.bool false,.int .i64 0,.int .i64 0,.int .u8 0,.int .u8 0,.int .u8 0,.int .u8 0,.int .u8 0,.int .u8 0,.int .u8 0,.int .u8 0,.int .u8 0,.int .u8 0,.int .u8 0,.int .u8 0,.int .u8 0,.int .u8 0,.int .u8 0,.int .u8 0,.int .u8 0,.int .u8 0,.int .u8 0,.int .u8 0,.int .u8 0,.int .u8 0,.int .u8 0,.int .u8 0,.int .u8 0,.int .u8 0,.int .u8 0,.int .u8 0,.int .u8 0,.int .u8 0,.int .u8 0,.int .u8 0,.slice none 0 0,.int .i64 0,.int .i64 0,.int .i64 0,.slice none 0 0,.slice none 0 0,.slice none 0 0,.slice none 0 0,.slice none 0 0,.slice none 0 0,.slice none 0 0,.slice none 0 0]⟩:=⟨uZ⟩
instance :TiC Tryz.prog 87 ⟨.struct #[{name:= "L",type:=22,offset:=0,embedded:=false,tag:= "",pkgPath:= "",byteOffset:=0},{name:= "At",type:=3,offset:=1,embedded:=false,tag:= "",pkgPath:= "",byteOffset:=24}],2,32,.agg #[.slice none 0 0,.int .i64 0]⟩:=⟨aN3⟩
instance :NoA Tryz.prog 87:=⟨trivial⟩
instance :TiC Tryz.prog 88 ⟨.struct #[{name:= "L",type:=22,offset:=0,embedded:=false,tag:= "",pkgPath:= "",byteOffset:=0},{name:= "At",type:=3,offset:=1,embedded:=false,tag:= "",pkgPath:= "",byteOffset:=24}],2,32,.agg #[.slice none 0 0,.int .i64 0]⟩:=⟨aCN⟩
instance :NoA Tryz.prog 88:=⟨trivial⟩
instance :TiC Tryz.prog 91 ⟨.slice 143,1,24,.slice none 0 0⟩:=⟨aMT⟩
instance :NoA Tryz.prog 91:=⟨trivial⟩
instance :TiC Tryz.prog 92 ⟨.slice 182,1,24,.slice none 0 0⟩:=⟨aNW⟩
instance :NoA Tryz.prog 92:=⟨trivial⟩
instance :TiC Tryz.prog 93 ⟨.slice 150,1,24,.slice none 0 0⟩:=⟨aMP⟩
instance :NoA Tryz.prog 93:=⟨trivial⟩
instance :TiC Tryz.prog 94 ⟨.slice 185,1,24,.slice none 0 0⟩:=⟨aNs⟩
instance :NoA Tryz.prog 94:=⟨trivial⟩
instance :TiC Tryz.prog 95 ⟨.struct #[{name:= "Params",type:=54,offset:=0,embedded:=false,tag:= "",pkgPath:= "",byteOffset:=0},{name:= "Blocks",type:=91,offset:=80,embedded:=false,tag:= "",pkgPath:= "",byteOffset:=184},{name:= "Ledgers",type:=92,offset:=81,embedded:=false,tag:= "",pkgPath:= "",byteOffset:=208},{name:= "Contexts",type:=93,offset:=82,embedded:=false,tag:= "",pkgPath:= "",byteOffset:=232},{name:= "Undos",type:=94,offset:=83,embedded:=false,tag:= "",pkgPath:= "",byteOffset:=256}],84,280,.agg #[.int .u32 0,.int .u8 0,.int .u8 0,.int .u8 0,.int .u8 0,.int .u8 0,.int .u8 0,.int .u8 0,.int .u8 0,.int .u8 0,.int .u8 0,.int .u8 0,.int .u8 0,.int .u8 0,.int .u8 0,.int .u8 0,.int .u8 0,.int .u8 0,.int .u8 0,.int .u8 0,.int .u8 0,.int .u8 0,.int .u8 0,.int .u8 0,.int .u8 0,.int .u8 0,.int .u8 0,.int .u8 0,.int .u8 0,.int .u8 0,.int .u8 0,.int .u8 0,.int .u8 0,.int .u8 0,.int .u8 0,.int .u8 0,.int .u8 0,.int .u8 0,.int .u8 0,.int .u8 0,.int .u8 0,.int .u8 0,.int .u8 0,.int .u8 0,.int .u8 0,.int .u8 0,.int .u8 0,.int .u8 0,.int .u8 0,.int .u8 0,.int .u8 0,.int .u8 0,.int .u8 0,.int .u8 0,.int .u8 0,.int .u8 0,.int .u8 0,.int .u8 0,.int .u8 0,.int .u8 0,.int .u8 0,.int .u8 0,.int .u8 0,.int .u8 0,.int .u8 0,.int .u32 0,.int .u32 0,.int .u32 0,.int .u64 0,.int .u64 0,.int .u64 0,.int .u64 0,.int .i64 0,.int .u32 0,.int .u32 0,.int .u32 0,.slice none 0 0,.int .i64 0,.int .i64 0,.int .i64 0,.slice none 0 0,.slice none 0 0,.slice none 0 0,.slice none 0 0]⟩:=⟨aNz⟩
instance :TiC Tryz.prog 96 ⟨.struct #[{name:= "Params",type:=54,offset:=0,embedded:=false,tag:= "",pkgPath:= "",byteOffset:=0},{name:= "Blocks",type:=91,offset:=80,embedded:=false,tag:= "",pkgPath:= "",byteOffset:=184},{name:= "Ledgers",type:=92,offset:=81,embedded:=false,tag:= "",pkgPath:= "",byteOffset:=208},{name:= "Contexts",type:=93,offset:=82,embedded:=false,tag:= "",pkgPath:= "",byteOffset:=232},{name:= "Undos",type:=94,offset:=83,embedded:=false,tag:= "",pkgPath:= "",byteOffset:=256}],84,280,.agg #[.int .u32 0,.int .u8 0,.int .u8 0,.int .u8 0,.int .u8 0,.int .u8 0,.int .u8 0,.int .u8 0,.int .u8 0,.int .u8 0,.int .u8 0,.int .u8 0,.int .u8 0,.int .u8 0,.int .u8 0,.int .u8 0,.int .u8 0,.int .u8 0,.int .u8 0,.int .u8 0,.int .u8 0,.int .u8 0,.int .u8 0,.int .u8 0,.int .u8 0,.int .u8 0,.int .u8 0,.int .u8 0,.int .u8 0,.int .u8 0,.int .u8 0,.int .u8 0,.int .u8 0,.int .u8 0,.int .u8 0,.int .u8 0,.int .u8 0,.int .u8 0,.int .u8 0,.int .u8 0,.int .u8 0,.int .u8 0,.int .u8 0,.int .u8 0,.int .u8 0,.int .u8 0,.int .u8 0,.int .u8 0,.int .u8 0,.int .u8 0,.int .u8 0,.int .u8 0,.int .u8 0,.int .u8 0,.int .u8 0,.int .u8 0,.int .u8 0,.int .u8 0,.int .u8 0,.int .u8 0,.int .u8 0,.int .u8 0,.int .u8 0,.int .u8 0,.int .u8 0,.int .u32 0,.int .u32 0,.int .u32 0,.int .u64 0,.int .u64 0,.int .u64 0,.int .u64 0,.int .i64 0,.int .u32 0,.int .u32 0,.int .u32 0,.slice none 0 0,.int .i64 0,.int .i64 0,.int .i64 0,.slice none 0 0,.slice none 0 0,.slice none 0 0,.slice none 0 0]⟩:=⟨aNb⟩
instance :TiC Tryz.prog 105 ⟨.struct #[{name:= "Blocks",type:=91,offset:=0,embedded:=false,tag:= "",pkgPath:= "",byteOffset:=0},{name:= "Fault",type:=3,offset:=1,embedded:=false,tag:= "",pkgPath:= "",byteOffset:=24},{name:= "From",type:=3,offset:=2,embedded:=false,tag:= "",pkgPath:= "",byteOffset:=32}],3,40,.agg #[.slice none 0 0,.int .i64 0,.int .i64 0]⟩:=⟨aLm⟩
instance :NoA Tryz.prog 105:=⟨trivial⟩
instance :TiC Tryz.prog 106 ⟨.struct #[{name:= "Blocks",type:=91,offset:=0,embedded:=false,tag:= "",pkgPath:= "",byteOffset:=0},{name:= "Fault",type:=3,offset:=1,embedded:=false,tag:= "",pkgPath:= "",byteOffset:=24},{name:= "From",type:=3,offset:=2,embedded:=false,tag:= "",pkgPath:= "",byteOffset:=32}],3,40,.agg #[.slice none 0 0,.int .i64 0,.int .i64 0]⟩:=⟨aLs⟩
instance :NoA Tryz.prog 106:=⟨trivial⟩
instance :TiC Tryz.prog 107 ⟨.pointer 109,1,8,.pointer none⟩:=⟨aMq⟩
instance :NoA Tryz.prog 107:=⟨trivial⟩
instance :TiC Tryz.prog 108 ⟨.struct #[{name:= "addr",type:=107,offset:=0,embedded:=false,tag:= "",pkgPath:= "strings",byteOffset:=0},{name:= "buf",type:=33,offset:=1,embedded:=false,tag:= "",pkgPath:= "strings",byteOffset:=8}],2,32,.agg #[.pointer none,.slice none 0 0]⟩:=⟨aK9⟩
instance :NoA Tryz.prog 108:=⟨trivial⟩
instance :TiC Tryz.prog 109 ⟨.struct #[{name:= "addr",type:=107,offset:=0,embedded:=false,tag:= "",pkgPath:= "strings",byteOffset:=0},{name:= "buf",type:=33,offset:=1,embedded:=false,tag:= "",pkgPath:= "strings",byteOffset:=8}],2,32,.agg #[.pointer none,.slice none 0 0]⟩:=⟨aLe⟩
instance :NoA Tryz.prog 109:=⟨trivial⟩
instance :TiC Tryz.prog 118 ⟨.struct #[{name:= "name",type:=9,offset:=0,embedded:=false,tag:= "",pkgPath:= "lightclient/console",byteOffset:=0},{name:= "kind",type:=3,offset:=1,embedded:=false,tag:= "",pkgPath:= "lightclient/console",byteOffset:=16},{name:= "fields",type:=9,offset:=2,embedded:=false,tag:= "",pkgPath:= "lightclient/console",byteOffset:=24}],3,40,.agg #[.string .empty,.int .i64 0,.string .empty]⟩:=⟨aLx⟩
instance :NoA Tryz.prog 118:=⟨trivial⟩
instance :TiC Tryz.prog 119 ⟨.struct #[{name:= "name",type:=9,offset:=0,embedded:=false,tag:= "",pkgPath:= "lightclient/console",byteOffset:=0},{name:= "kind",type:=3,offset:=1,embedded:=false,tag:= "",pkgPath:= "lightclient/console",byteOffset:=16},{name:= "fields",type:=9,offset:=2,embedded:=false,tag:= "",pkgPath:= "lightclient/console",byteOffset:=24}],3,40,.agg #[.string .empty,.int .i64 0,.string .empty]⟩:=⟨uP⟩
instance :NoA Tryz.prog 119:=⟨trivial⟩
instance :TiC Tryz.prog 125 ⟨.pointer 3,1,8,.pointer none⟩:=⟨aK7⟩
instance :NoA Tryz.prog 125:=⟨trivial⟩
instance :TiC Tryz.prog 127 ⟨.pointer 39,1,8,.pointer none⟩:=⟨aLu⟩
instance :NoA Tryz.prog 127:=⟨trivial⟩
instance :TiC Tryz.prog 137 ⟨.struct #[{name:= "Count",type:=3,offset:=0,embedded:=false,tag:= "",pkgPath:= "",byteOffset:=0},{name:= "Data",type:=33,offset:=1,embedded:=false,tag:= "",pkgPath:= "",byteOffset:=8}],2,32,.agg #[.int .i64 0,.slice none 0 0]⟩:=⟨aLQ⟩
instance :NoA Tryz.prog 137:=⟨trivial⟩
instance :TiC Tryz.prog 138 ⟨.struct #[{name:= "Count",type:=3,offset:=0,embedded:=false,tag:= "",pkgPath:= "",byteOffset:=0},{name:= "Data",type:=33,offset:=1,embedded:=false,tag:= "",pkgPath:= "",byteOffset:=8}],2,32,.agg #[.int .i64 0,.slice none 0 0]⟩:=⟨aLV⟩
instance :NoA Tryz.prog 138:=⟨trivial⟩
instance :TiC Tryz.prog 141 ⟨.slice 218,1,24,.slice none 0 0⟩:=⟨aKx⟩
instance :NoA Tryz.prog 141:=⟨trivial⟩
instance :TiC Tryz.prog 142 ⟨.struct #[{name:= "Header",type:=48,offset:=0,embedded:=false,tag:= "",pkgPath:= "",byteOffset:=0},{name:= "Txs",type:=141,offset:=68,embedded:=false,tag:= "",pkgPath:= "",byteOffset:=80}],69,104,.agg #[.int .u32 0,.int .u8 0,.int .u8 0,.int .u8 0,.int .u8 0,.int .u8 0,.int .u8 0,.int .u8 0,.int .u8 0,.int .u8 0,.int .u8 0,.int .u8 0,.int .u8 0,.int .u8 0,.int .u8 0,.int .u8 0,.int .u8 0,.int .u8 0,.int .u8 0,.int .u8 0,.int .u8 0,.int .u8 0,.int .u8 0,.int .u8 0,.int .u8 0,.int .u8 0,.int .u8 0,.int .u8 0,.int .u8 0,.int .u8 0,.int .u8 0,.int .u8 0,.int .u8 0,.int .u8 0,.int .u8 0,.int .u8 0,.int .u8 0,.int .u8 0,.int .u8 0,.int .u8 0,.int .u8 0,.int .u8 0,.int .u8 0,.int .u8 0,.int .u8 0,.int .u8 0,.int .u8 0,.int .u8 0,.int .u8 0,.int .u8 0,.int .u8 0,.int .u8 0,.int .u8 0,.int .u8 0,.int .u8 0,.int .u8 0,.int .u8 0,.int .u8 0,.int .u8 0,.int .u8 0,.int .u8 0,.int .u8 0,.int .u8 0,.int .u8 0,.int .u8 0,.int .u32 0,.int .u32 0,.int .u32 0,.slice none 0 0]⟩:=⟨aL1⟩
instance :TiC Tryz.prog 143 ⟨.struct #[{name:= "Header",type:=48,offset:=0,embedded:=false,tag:= "",pkgPath:= "",byteOffset:=0},{name:= "Txs",type:=141,offset:=68,embedded:=false,tag:= "",pkgPath:= "",byteOffset:=80}],69,104,.agg #[.int .u32 0,.int .u8 0,.int .u8 0,.int .u8 0,.int .u8 0,.int .u8 0,.int .u8 0,.int .u8 0,.int .u8 0,.int .u8 0,.int .u8 0,.int .u8 0,.int .u8 0,.int .u8 0,.int .u8 0,.int .u8 0,.int .u8 0,.int .u8 0,.int .u8 0,.int .u8 0,.int .u8 0,.int .u8 0,.int .u8 0,.int .u8 0,.int .u8 0,.int .u8 0,.int .u8 0,.int .u8 0,.int .u8 0,.int .u8 0,.int .u8 0,.int .u8 0,.int .u8 0,.int .u8 0,.int .u8 0,.int .u8 0,.int .u8 0,.int .u8 0,.int .u8 0,.int .u8 0,.int .u8 0,.int .u8 0,.int .u8 0,.int .u8 0,.int .u8 0,.int .u8 0,.int .u8 0,.int .u8 0,.int .u8 0,.int .u8 0,.int .u8 0,.int .u8 0,.int .u8 0,.int .u8 0,.int .u8 0,.int .u8 0,.int .u8 0,.int .u8 0,.int .u8 0,.int .u8 0,.int .u8 0,.int .u8 0,.int .u8 0,.int .u8 0,.int .u8 0,.int .u32 0,.int .u32 0,.int .u32 0,.slice none 0 0]⟩:=⟨aLl⟩
instance :TiC Tryz.prog 148 ⟨.slice 44,1,24,.slice none 0 0⟩:=⟨aMA⟩
instance :NoA Tryz.prog 148:=⟨trivial⟩
instance :TiC Tryz.prog 149 ⟨.struct #[{name:= "Height",type:=3,offset:=0,embedded:=false,tag:= "",pkgPath:= "",byteOffset:=0},{name:= "Hash",type:=46,offset:=1,embedded:=false,tag:= "",pkgPath:= "",byteOffset:=8},{name:= "Bits",type:=44,offset:=33,embedded:=false,tag:= "",pkgPath:= "",byteOffset:=40},{name:= "First",type:=44,offset:=34,embedded:=false,tag:= "",pkgPath:= "",byteOffset:=44},{name:= "Times",type:=148,offset:=35,embedded:=false,tag:= "",pkgPath:= "",byteOffset:=48}],36,72,.agg #[.int .i64 0,.int .u8 0,.int .u8 0,.int .u8 0,.int .u8 0,.int .u8 0,.int .u8 0,.int .u8 0,.int .u8 0,.int .u8 0,.int .u8 0,.int .u8 0,.int .u8 0,.int .u8 0,.int .u8 0,.int .u8 0,.int .u8 0,.int .u8 0,.int .u8 0,.int .u8 0,.int .u8 0,.int .u8 0,.int .u8 0,.int .u8 0,.int .u8 0,.int .u8 0,.int .u8 0,.int .u8 0,.int .u8 0,.int .u8 0,.int .u8 0,.int .u8 0,.int .u8 0,.int .u32 0,.int .u32 0,.slice none 0 0]⟩:=⟨aKt⟩
instance :TiC Tryz.prog 150 ⟨.struct #[{name:= "Height",type:=3,offset:=0,embedded:=false,tag:= "",pkgPath:= "",byteOffset:=0},{name:= "Hash",type:=46,offset:=1,embedded:=false,tag:= "",pkgPath:= "",byteOffset:=8},{name:= "Bits",type:=44,offset:=33,embedded:=false,tag:= "",pkgPath:= "",byteOffset:=40},{name:= "First",type:=44,offset:=34,embedded:=false,tag:= "",pkgPath:= "",byteOffset:=44},{name:= "Times",type:=148,offset:=35,embedded:=false,tag:= "",pkgPath:= "",byteOffset:=48}],36,72,.agg #[.int .i64 0,.int .u8 0,.int .u8 0,.int .u8 0,.int .u8 0,.int .u8 0,.int .u8 0,.int .u8 0,.int .u8 0,.int .u8 0,.int .u8 0,.int .u8 0,.int .u8 0,.int .u8 0,.int .u8 0,.int .u8 0,.int .u8 0,.int .u8 0,.int .u8 0,.int .u8 0,.int .u8 0,.int .u8 0,.int .u8 0,.int .u8 0,.int .u8 0,.int .u8 0,.int .u8 0,.int .u8 0,.int .u8 0,.int .u8 0,.int .u8 0,.int .u8 0,.int .u8 0,.int .u32 0,.int .u32 0,.slice none 0 0]⟩:=⟨aLn⟩
instance :TiC Tryz.prog 151 ⟨.slice 4,1,24,.slice none 0 0⟩:=⟨aLj⟩
instance :NoA Tryz.prog 151:=⟨trivial⟩
instance :TiC Tryz.prog 152 ⟨.slice 48,1,24,.slice none 0 0⟩:=⟨aMd⟩
instance :NoA Tryz.prog 152:=⟨trivial⟩
instance :TiC Tryz.prog 153 ⟨.struct #[{name:= "Phase",type:=3,offset:=0,embedded:=false,tag:= "",pkgPath:= "",byteOffset:=0},{name:= "Salt",type:=46,offset:=1,embedded:=false,tag:= "",pkgPath:= "",byteOffset:=8},{name:= "Goal",type:=51,offset:=33,embedded:=false,tag:= "",pkgPath:= "",byteOffset:=40},{name:= "Start",type:=150,offset:=37,embedded:=false,tag:= "",pkgPath:= "",byteOffset:=72},{name:= "Base",type:=51,offset:=73,embedded:=false,tag:= "",pkgPath:= "",byteOffset:=144},{name:= "At",type:=150,offset:=77,embedded:=false,tag:= "",pkgPath:= "",byteOffset:=176},{name:= "Work",type:=51,offset:=113,embedded:=false,tag:= "",pkgPath:= "",byteOffset:=248},{name:= "Count",type:=3,offset:=117,embedded:=false,tag:= "",pkgPath:= "",byteOffset:=280},{name:= "Bits",type:=151,offset:=118,embedded:=false,tag:= "",pkgPath:= "",byteOffset:=288},{name:= "Buffer",type:=152,offset:=119,embedded:=false,tag:= "",pkgPath:= "",byteOffset:=312}],120,336,.agg #[.int .i64 0,.int .u8 0,.int .u8 0,.int .u8 0,.int .u8 0,.int .u8 0,.int .u8 0,.int .u8 0,.int .u8 0,.int .u8 0,.int .u8 0,.int .u8 0,.int .u8 0,.int .u8 0,.int .u8 0,.int .u8 0,.int .u8 0,.int .u8 0,.int .u8 0,.int .u8 0,.int .u8 0,.int .u8 0,.int .u8 0,.int .u8 0,.int .u8 0,.int .u8 0,.int .u8 0,.int .u8 0,.int .u8 0,.int .u8 0,.int .u8 0,.int .u8 0,.int .u8 0,.int .u64 0,.int .u64 0,.int .u64 0,.int .u64 0,.int .i64 0,.int .u8 0,.int .u8 0,.int .u8 0,.int .u8 0,.int .u8 0,.int .u8 0,.int .u8 0,.int .u8 0,.int .u8 0,.int .u8 0,.int .u8 0,.int .u8 0,.int .u8 0,.int .u8 0,.int .u8 0,.int .u8 0,.int .u8 0,.int .u8 0,.int .u8 0,.int .u8 0,.int .u8 0,.int .u8 0,.int .u8 0,.int .u8 0,.int .u8 0,.int .u8 0,.int .u8 0,.int .u8 0,.int .u8 0,.int .u8 0,.int .u8 0,.int .u8 0,.int .u32 0,.int .u32 0,.slice none 0 0,.int .u64 0,.int .u64 0,.int .u64 0,.int .u64 0,.int .i64 0,.int .u8 0,.int .u8 0,.int .u8 0,.int .u8 0,.int .u8 0,.int .u8 0,.int .u8 0,.int .u8 0,.int .u8 0,.int .u8 0,.int .u8 0,.int .u8 0,.int .u8 0,.int .u8 0,.int .u8 0,.int .u8 0,.int .u8 0,.int .u8 0,.int .u8 0,.int .u8 0,.int .u8 0,.int .u8 0,.int .u8 0,.int .u8 0,.int .u8 0,.int .u8 0,.int .u8 0,.int .u8 0,.int .u8 0,.int .u8 0,.int .u8 0,.int .u8 0,.int .u32 0,.int .u32 0,.slice none 0 0,.int .u64 0,.int .u64 0,.int .u64 0,.int .u64 0,.int .i64 0,.slice none 0 0,.slice none 0 0]⟩:=⟨aLd⟩
instance :TiC Tryz.prog 154 ⟨.struct #[{name:= "Phase",type:=3,offset:=0,embedded:=false,tag:= "",pkgPath:= "",byteOffset:=0},{name:= "Salt",type:=46,offset:=1,embedded:=false,tag:= "",pkgPath:= "",byteOffset:=8},{name:= "Goal",type:=51,offset:=33,embedded:=false,tag:= "",pkgPath:= "",byteOffset:=40},{name:= "Start",type:=150,offset:=37,embedded:=false,tag:= "",pkgPath:= "",byteOffset:=72},{name:= "Base",type:=51,offset:=73,embedded:=false,tag:= "",pkgPath:= "",byteOffset:=144},{name:= "At",type:=150,offset:=77,embedded:=false,tag:= "",pkgPath:= "",byteOffset:=176},{name:= "Work",type:=51,offset:=113,embedded:=false,tag:= "",pkgPath:= "",byteOffset:=248},{name:= "Count",type:=3,offset:=117,embedded:=false,tag:= "",pkgPath:= "",byteOffset:=280},{name:= "Bits",type:=151,offset:=118,embedded:=false,tag:= "",pkgPath:= "",byteOffset:=288},{name:= "Buffer",type:=152,offset:=119,embedded:=false,tag:= "",pkgPath:= "",byteOffset:=312}],120,336,.agg #[.int .i64 0,.int .u8 0,.int .u8 0,.int .u8 0,.int .u8 0,.int .u8 0,.int .u8 0,.int .u8 0,.int .u8 0,.int .u8 0,.int .u8 0,.int .u8 0,.int .u8 0,.int .u8 0,.int .u8 0,.int .u8 0,.int .u8 0,.int .u8 0,.int .u8 0,.int .u8 0,.int .u8 0,.int .u8 0,.int .u8 0,.int .u8 0,.int .u8 0,.int .u8 0,.int .u8 0,.int .u8 0,.int .u8 0,.int .u8 0,.int .u8 0,.int .u8 0,.int .u8 0,.int .u64 0,.int .u64 0,.int .u64 0,.int .u64 0,.int .i64 0,.int .u8 0,.int .u8 0,.int .u8 0,.int .u8 0,.int .u8 0,.int .u8 0,.int .u8 0,.int .u8 0,.int .u8 0,.int .u8 0,.int .u8 0,.int .u8 0,.int .u8 0,.int .u8 0,.int .u8 0,.int .u8 0,.int .u8 0,.int .u8 0,.int .u8 0,.int .u8 0,.int .u8 0,.int .u8 0,.int .u8 0,.int .u8 0,.int .u8 0,.int .u8 0,.int .u8 0,.int .u8 0,.int .u8 0,.int .u8 0,.int .u8 0,.int .u8 0,.int .u32 0,.int .u32 0,.slice none 0 0,.int .u64 0,.int .u64 0,.int .u64 0,.int .u64 0,.int .i64 0,.int .u8 0,.int .u8 0,.int .u8 0,.int .u8 0,.int .u8 0,.int .u8 0,.int .u8 0,.int .u8 0,.int .u8 0,.int .u8 0,.int .u8 0,.int .u8 0,.int .u8 0,.int .u8 0,.int .u8 0,.int .u8 0,.int .u8 0,.int .u8 0,.int .u8 0,.int .u8 0,.int .u8 0,.int .u8 0,.int .u8 0,.int .u8 0,.int .u8 0,.int .u8 0,.int .u8 0,.int .u8 0,.int .u8 0,.int .u8 0,.int .u8 0,.int .u8 0,.int .u32 0,.int .u32 0,.slice none 0 0,.int .u64 0,.int .u64 0,.int .u64 0,.int .u64 0,.int .i64 0,.slice none 0 0,.slice none 0 0]⟩:=⟨aKp⟩
instance :TiC Tryz.prog 155 ⟨.struct #[{name:= "ID",type:=3,offset:=0,embedded:=false,tag:= "",pkgPath:= "",byteOffset:=0},{name:= "Gone",type:=4,offset:=1,embedded:=false,tag:= "",pkgPath:= "",byteOffset:=8},{name:= "Idle",type:=4,offset:=2,embedded:=false,tag:= "",pkgPath:= "",byteOffset:=9},{name:= "Done",type:=4,offset:=3,embedded:=false,tag:= "",pkgPath:= "",byteOffset:=10},{name:= "Syncing",type:=4,offset:=4,embedded:=false,tag:= "",pkgPath:= "",byteOffset:=11},{name:= "Sync",type:=154,offset:=5,embedded:=false,tag:= "",pkgPath:= "",byteOffset:=16},{name:= "Tail",type:=46,offset:=125,embedded:=false,tag:= "",pkgPath:= "",byteOffset:=352}],157,384,.agg #[.int .i64 0,.bool false,.bool false,.bool false,.bool false,.int .i64 0,.int .u8 0,.int .u8 0,.int .u8 0,.int .u8 0,.int .u8 0,.int .u8 0,.int .u8 0,.int .u8 0,.int .u8 0,.int .u8 0,.int .u8 0,.int .u8 0,.int .u8 0,.int .u8 0,.int .u8 0,.int .u8 0,.int .u8 0,.int .u8 0,.int .u8 0,.int .u8 0,.int .u8 0,.int .u8 0,.int .u8 0,.int .u8 0,.int .u8 0,.int .u8 0,.int .u8 0,.int .u8 0,.int .u8 0,.int .u8 0,.int .u8 0,.int .u8 0,.int .u64 0,.int .u64 0,.int .u64 0,.int .u64 0,.int .i64 0,.int .u8 0,.int .u8 0,.int .u8 0,.int .u8 0,.int .u8 0,.int .u8 0,.int .u8 0,.int .u8 0,.int .u8 0,.int .u8 0,.int .u8 0,.int .u8 0,.int .u8 0,.int .u8 0,.int .u8 0,.int .u8 0,.int .u8 0,.int .u8 0,.int .u8 0,.int .u8 0,.int .u8 0,.int .u8 0,.int .u8 0,.int .u8 0,.int .u8 0,.int .u8 0,.int .u8 0,.int .u8 0,.int .u8 0,.int .u8 0,.int .u8 0,.int .u8 0,.int .u32 0,.int .u32 0,.slice none 0 0,.int .u64 0,.int .u64 0,.int .u64 0,.int .u64 0,.int .i64 0,.int .u8 0,.int .u8 0,.int .u8 0,.int .u8 0,.int .u8 0,.int .u8 0,.int .u8 0,.int .u8 0,.int .u8 0,.int .u8 0,.int .u8 0,.int .u8 0,.int .u8 0,.int .u8 0,.int .u8 0,.int .u8 0,.int .u8 0,.int .u8 0,.int .u8 0,.int .u8 0,.int .u8 0,.int .u8 0,.int .u8 0,.int .u8 0,.int .u8 0,.int .u8 0,.int .u8 0,.int .u8 0,.int .u8 0,.int .u8 0,.int .u8 0,.int .u8 0,.int .u32 0,.int .u32 0,.slice none 0 0,.int .u64 0,.int .u64 0,.int .u64 0,.int .u64 0,.int .i64 0,.slice none 0 0,.slice none 0 0,.int .u8 0,.int .u8 0,.int .u8 0,.int .u8 0,.int .u8 0,.int .u8 0,.int .u8 0,.int .u8 0,.int .u8 0,.int .u8 0,.int .u8 0,.int .u8 0,.int .u8 0,.int .u8 0,.int .u8 0,.int .u8 0,.int .u8 0,.int .u8 0,.int .u8 0,.int .u8 0,.int .u8 0,.int .u8 0,.int .u8 0,.int .u8 0,.int .u8 0,.int .u8 0,.int .u8 0,.int .u8 0,.int .u8 0,.int .u8 0,.int .u8 0,.int .u8 0]⟩:=⟨aLr⟩
instance :TiC Tryz.prog 156 ⟨.struct #[{name:= "ID",type:=3,offset:=0,embedded:=false,tag:= "",pkgPath:= "",byteOffset:=0},{name:= "Gone",type:=4,offset:=1,embedded:=false,tag:= "",pkgPath:= "",byteOffset:=8},{name:= "Idle",type:=4,offset:=2,embedded:=false,tag:= "",pkgPath:= "",byteOffset:=9},{name:= "Done",type:=4,offset:=3,embedded:=false,tag:= "",pkgPath:= "",byteOffset:=10},{name:= "Syncing",type:=4,offset:=4,embedded:=false,tag:= "",pkgPath:= "",byteOffset:=11},{name:= "Sync",type:=154,offset:=5,embedded:=false,tag:= "",pkgPath:= "",byteOffset:=16},{name:= "Tail",type:=46,offset:=125,embedded:=false,tag:= "",pkgPath:= "",byteOffset:=352}],157,384,.agg #[.int .i64 0,.bool false,.bool false,.bool false,.bool false,.int .i64 0,.int .u8 0,.int .u8 0,.int .u8 0,.int .u8 0,.int .u8 0,.int .u8 0,.int .u8 0,.int .u8 0,.int .u8 0,.int .u8 0,.int .u8 0,.int .u8 0,.int .u8 0,.int .u8 0,.int .u8 0,.int .u8 0,.int .u8 0,.int .u8 0,.int .u8 0,.int .u8 0,.int .u8 0,.int .u8 0,.int .u8 0,.int .u8 0,.int .u8 0,.int .u8 0,.int .u8 0,.int .u8 0,.int .u8 0,.int .u8 0,.int .u8 0,.int .u8 0,.int .u64 0,.int .u64 0,.int .u64 0,.int .u64 0,.int .i64 0,.int .u8 0,.int .u8 0,.int .u8 0,.int .u8 0,.int .u8 0,.int .u8 0,.int .u8 0,.int .u8 0,.int .u8 0,.int .u8 0,.int .u8 0,.int .u8 0,.int .u8 0,.int .u8 0,.int .u8 0,.int .u8 0,.int .u8 0,.int .u8 0,.int .u8 0,.int .u8 0,.int .u8 0,.int .u8 0,.int .u8 0,.int .u8 0,.int .u8 0,.int .u8 0,.int .u8 0,.int .u8 0,.int .u8 0,.int .u8 0,.int .u8 0,.int .u8 0,.int .u32 0,.int .u32 0,.slice none 0 0,.int .u64 0,.int .u64 0,.int .u64 0,.int .u64 0,.int .i64 0,.int .u8 0,.int .u8 0,.int .u8 0,.int .u8 0,.int .u8 0,.int .u8 0,.int .u8 0,.int .u8 0,.int .u8 0,.int .u8 0,.int .u8 0,.int .u8 0,.int .u8 0,.int .u8 0,.int .u8 0,.int .u8 0,.int .u8 0,.int .u8 0,.int .u8 0,.int .u8 0,.int .u8 0,.int .u8 0,.int .u8 0,.int .u8 0,.int .u8 0,.int .u8 0,.int .u8 0,.int .u8 0,.int .u8 0,.int .u8 0,.int .u8 0,.int .u8 0,.int .u32 0,.int .u32 0,.slice none 0 0,.int .u64 0,.int .u64 0,.int .u64 0,.int .u64 0,.int .i64 0,.slice none 0 0,.slice none 0 0,.int .u8 0,.int .u8 0,.int .u8 0,.int .u8 0,.int .u8 0,.int .u8 0,.int .u8 0,.int .u8 0,.int .u8 0,.int .u8 0,.int .u8 0,.int .u8 0,.int .u8 0,.int .u8 0,.int .u8 0,.int .u8 0,.int .u8 0,.int .u8 0,.int .u8 0,.int .u8 0,.int .u8 0,.int .u8 0,.int .u8 0,.int .u8 0,.int .u8 0,.int .u8 0,.int .u8 0,.int .u8 0,.int .u8 0,.int .u8 0,.int .u8 0,.int .u8 0]⟩:=⟨aKB⟩
instance :TiC Tryz.prog 164 ⟨.struct #[{name:= "Header",type:=48,offset:=0,embedded:=false,tag:= "",pkgPath:= "",byteOffset:=0},{name:= "Hash",type:=46,offset:=68,embedded:=false,tag:= "",pkgPath:= "",byteOffset:=80},{name:= "Parent",type:=3,offset:=100,embedded:=false,tag:= "",pkgPath:= "",byteOffset:=112},{name:= "Height",type:=3,offset:=101,embedded:=false,tag:= "",pkgPath:= "",byteOffset:=120},{name:= "Work",type:=51,offset:=102,embedded:=false,tag:= "",pkgPath:= "",byteOffset:=128}],106,160,.agg #[.int .u32 0,.int .u8 0,.int .u8 0,.int .u8 0,.int .u8 0,.int .u8 0,.int .u8 0,.int .u8 0,.int .u8 0,.int .u8 0,.int .u8 0,.int .u8 0,.int .u8 0,.int .u8 0,.int .u8 0,.int .u8 0,.int .u8 0,.int .u8 0,.int .u8 0,.int .u8 0,.int .u8 0,.int .u8 0,.int .u8 0,.int .u8 0,.int .u8 0,.int .u8 0,.int .u8 0,.int .u8 0,.int .u8 0,.int .u8 0,.int .u8 0,.int .u8 0,.int .u8 0,.int .u8 0,.int .u8 0,.int .u8 0,.int .u8 0,.int .u8 0,.int .u8 0,.int .u8 0,.int .u8 0,.int .u8 0,.int .u8 0,.int .u8 0,.int .u8 0,.int .u8 0,.int .u8 0,.int .u8 0,.int .u8 0,.int .u8 0,.int .u8 0,.int .u8 0,.int .u8 0,.int .u8 0,.int .u8 0,.int .u8 0,.int .u8 0,.int .u8 0,.int .u8 0,.int .u8 0,.int .u8 0,.int .u8 0,.int .u8 0,.int .u8 0,.int .u8 0,.int .u32 0,.int .u32 0,.int .u32 0,.int .u8 0,.int .u8 0,.int .u8 0,.int .u8 0,.int .u8 0,.int .u8 0,.int .u8 0,.int .u8 0,.int .u8 0,.int .u8 0,.int .u8 0,.int .u8 0,.int .u8 0,.int .u8 0,.int .u8 0,.int .u8 0,.int .u8 0,.int .u8 0,.int .u8 0,.int .u8 0,.int .u8 0,.int .u8 0,.int .u8 0,.int .u8 0,.int .u8 0,.int .u8 0,.int .u8 0,.int .u8 0,.int .u8 0,.int .u8 0,.int .u8 0,.int .u8 0,.int .i64 0,.int .i64 0,.int .u64 0,.int .u64 0,.int .u64 0,.int .u64 0]⟩:=⟨aKj⟩
instance :TiC Tryz.prog 165 ⟨.struct #[{name:= "Header",type:=48,offset:=0,embedded:=false,tag:= "",pkgPath:= "",byteOffset:=0},{name:= "Hash",type:=46,offset:=68,embedded:=false,tag:= "",pkgPath:= "",byteOffset:=80},{name:= "Parent",type:=3,offset:=100,embedded:=false,tag:= "",pkgPath:= "",byteOffset:=112},{name:= "Height",type:=3,offset:=101,embedded:=false,tag:= "",pkgPath:= "",byteOffset:=120},{name:= "Work",type:=51,offset:=102,embedded:=false,tag:= "",pkgPath:= "",byteOffset:=128}],106,160,.agg #[.int .u32 0,.int .u8 0,.int .u8 0,.int .u8 0,.int .u8 0,.int .u8 0,.int .u8 0,.int .u8 0,.int .u8 0,.int .u8 0,.int .u8 0,.int .u8 0,.int .u8 0,.int .u8 0,.int .u8 0,.int .u8 0,.int .u8 0,.int .u8 0,.int .u8 0,.int .u8 0,.int .u8 0,.int .u8 0,.int .u8 0,.int .u8 0,.int .u8 0,.int .u8 0,.int .u8 0,.int .u8 0,.int .u8 0,.int .u8 0,.int .u8 0,.int .u8 0,.int .u8 0,.int .u8 0,.int .u8 0,.int .u8 0,.int .u8 0,.int .u8 0,.int .u8 0,.int .u8 0,.int .u8 0,.int .u8 0,.int .u8 0,.int .u8 0,.int .u8 0,.int .u8 0,.int .u8 0,.int .u8 0,.int .u8 0,.int .u8 0,.int .u8 0,.int .u8 0,.int .u8 0,.int .u8 0,.int .u8 0,.int .u8 0,.int .u8 0,.int .u8 0,.int .u8 0,.int .u8 0,.int .u8 0,.int .u8 0,.int .u8 0,.int .u8 0,.int .u8 0,.int .u32 0,.int .u32 0,.int .u32 0,.int .u8 0,.int .u8 0,.int .u8 0,.int .u8 0,.int .u8 0,.int .u8 0,.int .u8 0,.int .u8 0,.int .u8 0,.int .u8 0,.int .u8 0,.int .u8 0,.int .u8 0,.int .u8 0,.int .u8 0,.int .u8 0,.int .u8 0,.int .u8 0,.int .u8 0,.int .u8 0,.int .u8 0,.int .u8 0,.int .u8 0,.int .u8 0,.int .u8 0,.int .u8 0,.int .u8 0,.int .u8 0,.int .u8 0,.int .u8 0,.int .u8 0,.int .u8 0,.int .i64 0,.int .i64 0,.int .u64 0,.int .u64 0,.int .u64 0,.int .u64 0]⟩:=⟨aKZ⟩
instance :TiC Tryz.prog 166 ⟨.slice 265,1,24,.slice none 0 0⟩:=⟨aL5⟩
instance :NoA Tryz.prog 166:=⟨trivial⟩
instance :TiC Tryz.prog 174 ⟨.pointer 5,1,8,.pointer none⟩:=⟨aLh⟩
instance :NoA Tryz.prog 174:=⟨trivial⟩
instance :TiC Tryz.prog 176 ⟨.slice 119,1,24,.slice none 0 0⟩:=⟨aKQ⟩
instance :NoA Tryz.prog 176:=⟨trivial⟩
instance :TiC Tryz.prog 181 ⟨.struct #[{name:= "Height",type:=3,offset:=0,embedded:=false,tag:= "",pkgPath:= "",byteOffset:=0},{name:= "Tip",type:=46,offset:=1,embedded:=false,tag:= "",pkgPath:= "",byteOffset:=8},{name:= "Coins",type:=166,offset:=33,embedded:=false,tag:= "",pkgPath:= "",byteOffset:=40}],34,64,.agg #[.int .i64 0,.int .u8 0,.int .u8 0,.int .u8 0,.int .u8 0,.int .u8 0,.int .u8 0,.int .u8 0,.int .u8 0,.int .u8 0,.int .u8 0,.int .u8 0,.int .u8 0,.int .u8 0,.int .u8 0,.int .u8 0,.int .u8 0,.int .u8 0,.int .u8 0,.int .u8 0,.int .u8 0,.int .u8 0,.int .u8 0,.int .u8 0,.int .u8 0,.int .u8 0,.int .u8 0,.int .u8 0,.int .u8 0,.int .u8 0,.int .u8 0,.int .u8 0,.int .u8 0,.slice none 0 0]⟩:=⟨aMi⟩
instance :TiC Tryz.prog 182 ⟨.struct #[{name:= "Height",type:=3,offset:=0,embedded:=false,tag:= "",pkgPath:= "",byteOffset:=0},{name:= "Tip",type:=46,offset:=1,embedded:=false,tag:= "",pkgPath:= "",byteOffset:=8},{name:= "Coins",type:=166,offset:=33,embedded:=false,tag:= "",pkgPath:= "",byteOffset:=40}],34,64,.agg #[.int .i64 0,.int .u8 0,.int .u8 0,.int .u8 0,.int .u8 0,.int .u8 0,.int .u8 0,.int .u8 0,.int .u8 0,.int .u8 0,.int .u8 0,.int .u8 0,.int .u8 0,.int .u8 0,.int .u8 0,.int .u8 0,.int .u8 0,.int .u8 0,.int .u8 0,.int .u8 0,.int .u8 0,.int .u8 0,.int .u8 0,.int .u8 0,.int .u8 0,.int .u8 0,.int .u8 0,.int .u8 0,.int .u8 0,.int .u8 0,.int .u8 0,.int .u8 0,.int .u8 0,.slice none 0 0]⟩:=⟨aLG⟩
instance :TiC Tryz.prog 184 ⟨.struct #[{name:= "Spent",type:=166,offset:=0,embedded:=false,tag:= "",pkgPath:= "",byteOffset:=0}],1,24,.agg #[.slice none 0 0]⟩:=⟨aLP⟩
instance :NoA Tryz.prog 184:=⟨trivial⟩
instance :TiC Tryz.prog 185 ⟨.struct #[{name:= "Spent",type:=166,offset:=0,embedded:=false,tag:= "",pkgPath:= "",byteOffset:=0}],1,24,.agg #[.slice none 0 0]⟩:=⟨aMg⟩
instance :NoA Tryz.prog 185:=⟨trivial⟩
instance :TiC Tryz.prog 195 ⟨.array 2 49,2,16,.agg #[.int .u64 0,.int .u64 0]⟩:=⟨aLq⟩
instance :TiC Tryz.prog 196 ⟨.array 2 49,2,16,.agg #[.int .u64 0,.int .u64 0]⟩:=⟨aKE⟩
instance :TiC Tryz.prog 215 ⟨.slice 291,1,24,.slice none 0 0⟩:=⟨aLi⟩
instance :NoA Tryz.prog 215:=⟨trivial⟩
instance :TiC Tryz.prog 216 ⟨.slice 263,1,24,.slice none 0 0⟩:=⟨aLv⟩
instance :NoA Tryz.prog 216:=⟨trivial⟩
instance :TiC Tryz.prog 217 ⟨.struct #[{name:= "Version",type:=44,offset:=0,embedded:=false,tag:= "",pkgPath:= "",byteOffset:=0},{name:= "Inputs",type:=215,offset:=1,embedded:=false,tag:= "",pkgPath:= "",byteOffset:=8},{name:= "Outputs",type:=216,offset:=2,embedded:=false,tag:= "",pkgPath:= "",byteOffset:=32},{name:= "Lock",type:=44,offset:=3,embedded:=false,tag:= "",pkgPath:= "",byteOffset:=56}],4,64,.agg #[.int .u32 0,.slice none 0 0,.slice none 0 0,.int .u32 0]⟩:=⟨aKw⟩
instance :NoA Tryz.prog 217:=⟨trivial⟩
instance :TiC Tryz.prog 218 ⟨.struct #[{name:= "Version",type:=44,offset:=0,embedded:=false,tag:= "",pkgPath:= "",byteOffset:=0},{name:= "Inputs",type:=215,offset:=1,embedded:=false,tag:= "",pkgPath:= "",byteOffset:=8},{name:= "Outputs",type:=216,offset:=2,embedded:=false,tag:= "",pkgPath:= "",byteOffset:=32},{name:= "Lock",type:=44,offset:=3,embedded:=false,tag:= "",pkgPath:= "",byteOffset:=56}],4,64,.agg #[.int .u32 0,.slice none 0 0,.slice none 0 0,.int .u32 0]⟩:=⟨aLO⟩
instance :NoA Tryz.prog 218:=⟨trivial⟩
instance :TiC Tryz.prog 219 ⟨.slice 526,1,24,.slice none 0 0⟩:=⟨aMy⟩
instance :NoA Tryz.prog 219:=⟨trivial⟩
instance :TiC Tryz.prog 220 ⟨.struct #[{name:= "Kind",type:=3,offset:=0,embedded:=false,tag:= "",pkgPath:= "",byteOffset:=0},{name:= "Version",type:=44,offset:=1,embedded:=false,tag:= "",pkgPath:= "",byteOffset:=8},{name:= "Nonce",type:=49,offset:=2,embedded:=false,tag:= "",pkgPath:= "",byteOffset:=16},{name:= "Start",type:=3,offset:=3,embedded:=false,tag:= "",pkgPath:= "",byteOffset:=24},{name:= "Stop",type:=46,offset:=4,embedded:=false,tag:= "",pkgPath:= "",byteOffset:=32},{name:= "Hashes",type:=58,offset:=36,embedded:=false,tag:= "",pkgPath:= "",byteOffset:=64},{name:= "Headers",type:=152,offset:=37,embedded:=false,tag:= "",pkgPath:= "",byteOffset:=88},{name:= "Filter",type:=138,offset:=38,embedded:=false,tag:= "",pkgPath:= "",byteOffset:=112},{name:= "Block",type:=143,offset:=40,embedded:=false,tag:= "",pkgPath:= "",byteOffset:=144},{name:= "Tx",type:=218,offset:=109,embedded:=false,tag:= "",pkgPath:= "",byteOffset:=248},{name:= "Addrs",type:=219,offset:=113,embedded:=false,tag:= "",pkgPath:= "",byteOffset:=312}],114,336,.agg #[.int .i64 0,.int .u32 0,.int .u64 0,.int .i64 0,.int .u8 0,.int .u8 0,.int .u8 0,.int .u8 0,.int .u8 0,.int .u8 0,.int .u8 0,.int .u8 0,.int .u8 0,.int .u8 0,.int .u8 0,.int .u8 0,.int .u8 0,.int .u8 0,.int .u8 0,.int .u8 0,.int .u8 0,.int .u8 0,.int .u8 0,.int .u8 0,.int .u8 0,.int .u8 0,.int .u8 0,.int .u8 0,.int .u8 0,.int .u8 0,.int .u8 0,.int .u8 0,.int .u8 0,.int .u8 0,.int .u8 0,.int .u8 0,.slice none 0 0,.slice none 0 0,.int .i64 0,.slice none 0 0,.int .u32 0,.int .u8 0,.int .u8 0,.int .u8 0,.int .u8 0,.int .u8 0,.int .u8 0,.int .u8 0,.int .u8 0,.int .u8 0,.int .u8 0,.int .u8 0,.int .u8 0,.int .u8 0,.int .u8 0,.int .u8 0,.int .u8 0,.int .u8 0,.int .u8 0,.int .u8 0,.int .u8 0,.int .u8 0,.int .u8 0,.int .u8 0,.int .u8 0,.int .u8 0,.int .u8 0,.int .u8 0,.int .u8 0,.int .u8 0,.int .u8 0,.int .u8 0,.int .u8 0,.int .u8 0,.int .u8 0,.int .u8 0,.int .u8 0,.int .u8 0,.int .u8 0,.int .u8 0,.int .u8 0,.int .u8 0,.int .u8 0,.int .u8 0,.int .u8 0,.int .u8 0,.int .u8 0,.int .u8 0,.int .u8 0,.int .u8 0,.int .u8 0,.int .u8 0,.int .u8 0,.int .u8 0,.int .u8 0,.int .u8 0,.int .u8 0,.int .u8 0,.int .u8 0,.int .u8 0,.int .u8 0,.int .u8 0,.int .u8 0,.int .u8 0,.int .u8 0,.int .u32 0,.int .u32 0,.int .u32 0,.slice none 0 0,.int .u32 0,.slice none 0 0,.slice none 0 0,.int .u32 0,.slice none 0 0]⟩:=⟨aK6⟩
instance :TiC Tryz.prog 221 ⟨.struct #[{name:= "Kind",type:=3,offset:=0,embedded:=false,tag:= "",pkgPath:= "",byteOffset:=0},{name:= "Version",type:=44,offset:=1,embedded:=false,tag:= "",pkgPath:= "",byteOffset:=8},{name:= "Nonce",type:=49,offset:=2,embedded:=false,tag:= "",pkgPath:= "",byteOffset:=16},{name:= "Start",type:=3,offset:=3,embedded:=false,tag:= "",pkgPath:= "",byteOffset:=24},{name:= "Stop",type:=46,offset:=4,embedded:=false,tag:= "",pkgPath:= "",byteOffset:=32},{name:= "Hashes",type:=58,offset:=36,embedded:=false,tag:= "",pkgPath:= "",byteOffset:=64},{name:= "Headers",type:=152,offset:=37,embedded:=false,tag:= "",pkgPath:= "",byteOffset:=88},{name:= "Filter",type:=138,offset:=38,embedded:=false,tag:= "",pkgPath:= "",byteOffset:=112},{name:= "Block",type:=143,offset:=40,embedded:=false,tag:= "",pkgPath:= "",byteOffset:=144},{name:= "Tx",type:=218,offset:=109,embedded:=false,tag:= "",pkgPath:= "",byteOffset:=248},{name:= "Addrs",type:=219,offset:=113,embedded:=false,tag:= "",pkgPath:= "",byteOffset:=312}],114,336,.agg #[.int .i64 0,.int .u32 0,.int .u64 0,.int .i64 0,.int .u8 0,.int .u8 0,.int .u8 0,.int .u8 0,.int .u8 0,.int .u8 0,.int .u8 0,.int .u8 0,.int .u8 0,.int .u8 0,.int .u8 0,.int .u8 0,.int .u8 0,.int .u8 0,.int .u8 0,.int .u8 0,.int .u8 0,.int .u8 0,.int .u8 0,.int .u8 0,.int .u8 0,.int .u8 0,.int .u8 0,.int .u8 0,.int .u8 0,.int .u8 0,.int .u8 0,.int .u8 0,.int .u8 0,.int .u8 0,.int .u8 0,.int .u8 0,.slice none 0 0,.slice none 0 0,.int .i64 0,.slice none 0 0,.int .u32 0,.int .u8 0,.int .u8 0,.int .u8 0,.int .u8 0,.int .u8 0,.int .u8 0,.int .u8 0,.int .u8 0,.int .u8 0,.int .u8 0,.int .u8 0,.int .u8 0,.int .u8 0,.int .u8 0,.int .u8 0,.int .u8 0,.int .u8 0,.int .u8 0,.int .u8 0,.int .u8 0,.int .u8 0,.int .u8 0,.int .u8 0,.int .u8 0,.int .u8 0,.int .u8 0,.int .u8 0,.int .u8 0,.int .u8 0,.int .u8 0,.int .u8 0,.int .u8 0,.int .u8 0,.int .u8 0,.int .u8 0,.int .u8 0,.int .u8 0,.int .u8 0,.int .u8 0,.int .u8 0,.int .u8 0,.int .u8 0,.int .u8 0,.int .u8 0,.int .u8 0,.int .u8 0,.int .u8 0,.int .u8 0,.int .u8 0,.int .u8 0,.int .u8 0,.int .u8 0,.int .u8 0,.int .u8 0,.int .u8 0,.int .u8 0,.int .u8 0,.int .u8 0,.int .u8 0,.int .u8 0,.int .u8 0,.int .u8 0,.int .u8 0,.int .u8 0,.int .u32 0,.int .u32 0,.int .u32 0,.slice none 0 0,.int .u32 0,.slice none 0 0,.slice none 0 0,.int .u32 0,.slice none 0 0]⟩:=⟨aKV⟩
instance :TiC Tryz.prog 236 ⟨.int .u64,1,8,.int .u64 0⟩:=⟨aL9⟩
instance :NoA Tryz.prog 236:=⟨trivial⟩
instance :TiC Tryz.prog 260 ⟨.struct #[{name:= "Tx",type:=46,offset:=0,embedded:=false,tag:= "",pkgPath:= "",byteOffset:=0},{name:= "Index",type:=44,offset:=32,embedded:=false,tag:= "",pkgPath:= "",byteOffset:=32}],33,36,.agg #[.int .u8 0,.int .u8 0,.int .u8 0,.int .u8 0,.int .u8 0,.int .u8 0,.int .u8 0,.int .u8 0,.int .u8 0,.int .u8 0,.int .u8 0,.int .u8 0,.int .u8 0,.int .u8 0,.int .u8 0,.int .u8 0,.int .u8 0,.int .u8 0,.int .u8 0,.int .u8 0,.int .u8 0,.int .u8 0,.int .u8 0,.int .u8 0,.int .u8 0,.int .u8 0,.int .u8 0,.int .u8 0,.int .u8 0,.int .u8 0,.int .u8 0,.int .u8 0,.int .u32 0]⟩:=⟨aLN⟩
instance :TiC Tryz.prog 261 ⟨.struct #[{name:= "Tx",type:=46,offset:=0,embedded:=false,tag:= "",pkgPath:= "",byteOffset:=0},{name:= "Index",type:=44,offset:=32,embedded:=false,tag:= "",pkgPath:= "",byteOffset:=32}],33,36,.agg #[.int .u8 0,.int .u8 0,.int .u8 0,.int .u8 0,.int .u8 0,.int .u8 0,.int .u8 0,.int .u8 0,.int .u8 0,.int .u8 0,.int .u8 0,.int .u8 0,.int .u8 0,.int .u8 0,.int .u8 0,.int .u8 0,.int .u8 0,.int .u8 0,.int .u8 0,.int .u8 0,.int .u8 0,.int .u8 0,.int .u8 0,.int .u8 0,.int .u8 0,.int .u8 0,.int .u8 0,.int .u8 0,.int .u8 0,.int .u8 0,.int .u8 0,.int .u8 0,.int .u32 0]⟩:=⟨aLB⟩
instance :TiC Tryz.prog 262 ⟨.struct #[{name:= "Value",type:=2,offset:=0,embedded:=false,tag:= "",pkgPath:= "",byteOffset:=0},{name:= "Script",type:=33,offset:=1,embedded:=false,tag:= "",pkgPath:= "",byteOffset:=8}],2,32,.agg #[.int .i64 0,.slice none 0 0]⟩:=⟨aKP⟩
instance :NoA Tryz.prog 262:=⟨trivial⟩
instance :TiC Tryz.prog 263 ⟨.struct #[{name:= "Value",type:=2,offset:=0,embedded:=false,tag:= "",pkgPath:= "",byteOffset:=0},{name:= "Script",type:=33,offset:=1,embedded:=false,tag:= "",pkgPath:= "",byteOffset:=8}],2,32,.agg #[.int .i64 0,.slice none 0 0]⟩:=⟨aKk⟩
instance :NoA Tryz.prog 263:=⟨trivial⟩
instance :TiC Tryz.prog 264 ⟨.struct #[{name:= "Out",type:=261,offset:=0,embedded:=false,tag:= "",pkgPath:= "",byteOffset:=0},{name:= "Output",type:=263,offset:=33,embedded:=false,tag:= "",pkgPath:= "",byteOffset:=40},{name:= "Height",type:=3,offset:=35,embedded:=false,tag:= "",pkgPath:= "",byteOffset:=72},{name:= "Coinbase",type:=4,offset:=36,embedded:=false,tag:= "",pkgPath:= "",byteOffset:=80}],37,88,.agg #[.int .u8 0,.int .u8 0,.int .u8 0,.int .u8 0,.int .u8 0,.int .u8 0,.int .u8 0,.int .u8 0,.int .u8 0,.int .u8 0,.int .u8 0,.int .u8 0,.int .u8 0,.int .u8 0,.int .u8 0,.int .u8 0,.int .u8 0,.int .u8 0,.int .u8 0,.int .u8 0,.int .u8 0,.int .u8 0,.int .u8 0,.int .u8 0,.int .u8 0,.int .u8 0,.int .u8 0,.int .u8 0,.int .u8 0,.int .u8 0,.int .u8 0,.int .u8 0,.int .u32 0,.int .i64 0,.slice none 0 0,.int .i64 0,.bool false]⟩:=⟨aKc⟩
instance :TiC Tryz.prog 265 ⟨.struct #[{name:= "Out",type:=261,offset:=0,embedded:=false,tag:= "",pkgPath:= "",byteOffset:=0},{name:= "Output",type:=263,offset:=33,embedded:=false,tag:= "",pkgPath:= "",byteOffset:=40},{name:= "Height",type:=3,offset:=35,embedded:=false,tag:= "",pkgPath:= "",byteOffset:=72},{name:= "Coinbase",type:=4,offset:=36,embedded:=false,tag:= "",pkgPath:= "",byteOffset:=80}],37,88,.agg #[.int .u8 0,.int .u8 0,.int .u8 0,.int .u8 0,.int .u8 0,.int .u8 0,.int .u8 0,.int .u8 0,.int .u8 0,.int .u8 0,.int .u8 0,.int .u8 0,.int .u8 0,.int .u8 0,.int .u8 0,.int .u8 0,.int .u8 0,.int .u8 0,.int .u8 0,.int .u8 0,.int .u8 0,.int .u8 0,.int .u8 0,.int .u8 0,.int .u8 0,.int .u8 0,.int .u8 0,.int .u8 0,.int .u8 0,.int .u8 0,.int .u8 0,.int .u8 0,.int .u32 0,.int .i64 0,.slice none 0 0,.int .i64 0,.bool false]⟩:=⟨aK2⟩
instance :TiC Tryz.prog 274 ⟨.struct #[{name:= "Height",type:=3,offset:=0,embedded:=false,tag:= "",pkgPath:= "",byteOffset:=0},{name:= "Hash",type:=46,offset:=1,embedded:=false,tag:= "",pkgPath:= "",byteOffset:=8}],33,40,.agg #[.int .i64 0,.int .u8 0,.int .u8 0,.int .u8 0,.int .u8 0,.int .u8 0,.int .u8 0,.int .u8 0,.int .u8 0,.int .u8 0,.int .u8 0,.int .u8 0,.int .u8 0,.int .u8 0,.int .u8 0,.int .u8 0,.int .u8 0,.int .u8 0,.int .u8 0,.int .u8 0,.int .u8 0,.int .u8 0,.int .u8 0,.int .u8 0,.int .u8 0,.int .u8 0,.int .u8 0,.int .u8 0,.int .u8 0,.int .u8 0,.int .u8 0,.int .u8 0,.int .u8 0]⟩:=⟨aKm⟩
instance :TiC Tryz.prog 275 ⟨.struct #[{name:= "Height",type:=3,offset:=0,embedded:=false,tag:= "",pkgPath:= "",byteOffset:=0},{name:= "Hash",type:=46,offset:=1,embedded:=false,tag:= "",pkgPath:= "",byteOffset:=8}],33,40,.agg #[.int .i64 0,.int .u8 0,.int .u8 0,.int .u8 0,.int .u8 0,.int .u8 0,.int .u8 0,.int .u8 0,.int .u8 0,.int .u8 0,.int .u8 0,.int .u8 0,.int .u8 0,.int .u8 0,.int .u8 0,.int .u8 0,.int .u8 0,.int .u8 0,.int .u8 0,.int .u8 0,.int .u8 0,.int .u8 0,.int .u8 0,.int .u8 0,.int .u8 0,.int .u8 0,.int .u8 0,.int .u8 0,.int .u8 0,.int .u8 0,.int .u8 0,.int .u8 0,.int .u8 0]⟩:=⟨aLH⟩
instance :TiC Tryz.prog 284 ⟨.slice 49,1,24,.slice none 0 0⟩:=⟨aLg⟩
instance :NoA Tryz.prog 284:=⟨trivial⟩
instance :TiC Tryz.prog 290 ⟨.struct #[{name:= "Prev",type:=261,offset:=0,embedded:=false,tag:= "",pkgPath:= "",byteOffset:=0},{name:= "Sequence",type:=44,offset:=33,embedded:=false,tag:= "",pkgPath:= "",byteOffset:=36},{name:= "Witness",type:=76,offset:=34,embedded:=false,tag:= "",pkgPath:= "",byteOffset:=40}],35,64,.agg #[.int .u8 0,.int .u8 0,.int .u8 0,.int .u8 0,.int .u8 0,.int .u8 0,.int .u8 0,.int .u8 0,.int .u8 0,.int .u8 0,.int .u8 0,.int .u8 0,.int .u8 0,.int .u8 0,.int .u8 0,.int .u8 0,.int .u8 0,.int .u8 0,.int .u8 0,.int .u8 0,.int .u8 0,.int .u8 0,.int .u8 0,.int .u8 0,.int .u8 0,.int .u8 0,.int .u8 0,.int .u8 0,.int .u8 0,.int .u8 0,.int .u8 0,.int .u8 0,.int .u32 0,.int .u32 0,.slice none 0 0]⟩:=⟨aMp⟩
instance :TiC Tryz.prog 291 ⟨.struct #[{name:= "Prev",type:=261,offset:=0,embedded:=false,tag:= "",pkgPath:= "",byteOffset:=0},{name:= "Sequence",type:=44,offset:=33,embedded:=false,tag:= "",pkgPath:= "",byteOffset:=36},{name:= "Witness",type:=76,offset:=34,embedded:=false,tag:= "",pkgPath:= "",byteOffset:=40}],35,64,.agg #[.int .u8 0,.int .u8 0,.int .u8 0,.int .u8 0,.int .u8 0,.int .u8 0,.int .u8 0,.int .u8 0,.int .u8 0,.int .u8 0,.int .u8 0,.int .u8 0,.int .u8 0,.int .u8 0,.int .u8 0,.int .u8 0,.int .u8 0,.int .u8 0,.int .u8 0,.int .u8 0,.int .u8 0,.int .u8 0,.int .u8 0,.int .u8 0,.int .u8 0,.int .u8 0,.int .u8 0,.int .u8 0,.int .u8 0,.int .u8 0,.int .u8 0,.int .u8 0,.int .u32 0,.int .u32 0,.slice none 0 0]⟩:=⟨aLU⟩
instance :TiC Tryz.prog 300 ⟨.struct #[{name:= "Peer",type:=3,offset:=0,embedded:=false,tag:= "",pkgPath:= "",byteOffset:=0},{name:= "Header",type:=46,offset:=1,embedded:=false,tag:= "",pkgPath:= "",byteOffset:=8}],33,40,.agg #[.int .i64 0,.int .u8 0,.int .u8 0,.int .u8 0,.int .u8 0,.int .u8 0,.int .u8 0,.int .u8 0,.int .u8 0,.int .u8 0,.int .u8 0,.int .u8 0,.int .u8 0,.int .u8 0,.int .u8 0,.int .u8 0,.int .u8 0,.int .u8 0,.int .u8 0,.int .u8 0,.int .u8 0,.int .u8 0,.int .u8 0,.int .u8 0,.int .u8 0,.int .u8 0,.int .u8 0,.int .u8 0,.int .u8 0,.int .u8 0,.int .u8 0,.int .u8 0,.int .u8 0]⟩:=⟨aKL⟩
instance :TiC Tryz.prog 301 ⟨.struct #[{name:= "Peer",type:=3,offset:=0,embedded:=false,tag:= "",pkgPath:= "",byteOffset:=0},{name:= "Header",type:=46,offset:=1,embedded:=false,tag:= "",pkgPath:= "",byteOffset:=8}],33,40,.agg #[.int .i64 0,.int .u8 0,.int .u8 0,.int .u8 0,.int .u8 0,.int .u8 0,.int .u8 0,.int .u8 0,.int .u8 0,.int .u8 0,.int .u8 0,.int .u8 0,.int .u8 0,.int .u8 0,.int .u8 0,.int .u8 0,.int .u8 0,.int .u8 0,.int .u8 0,.int .u8 0,.int .u8 0,.int .u8 0,.int .u8 0,.int .u8 0,.int .u8 0,.int .u8 0,.int .u8 0,.int .u8 0,.int .u8 0,.int .u8 0,.int .u8 0,.int .u8 0,.int .u8 0]⟩:=⟨aLR⟩
instance :TiC Tryz.prog 303 ⟨.struct #[{name:= "Script",type:=33,offset:=0,embedded:=false,tag:= "",pkgPath:= "",byteOffset:=0},{name:= "Birth",type:=3,offset:=1,embedded:=false,tag:= "",pkgPath:= "",byteOffset:=24},{name:= "Reached",type:=3,offset:=2,embedded:=false,tag:= "",pkgPath:= "",byteOffset:=32}],3,40,.agg #[.slice none 0 0,.int .i64 0,.int .i64 0]⟩:=⟨aMv⟩
instance :NoA Tryz.prog 303:=⟨trivial⟩
instance :TiC Tryz.prog 304 ⟨.struct #[{name:= "Script",type:=33,offset:=0,embedded:=false,tag:= "",pkgPath:= "",byteOffset:=0},{name:= "Birth",type:=3,offset:=1,embedded:=false,tag:= "",pkgPath:= "",byteOffset:=24},{name:= "Reached",type:=3,offset:=2,embedded:=false,tag:= "",pkgPath:= "",byteOffset:=32}],3,40,.agg #[.slice none 0 0,.int .i64 0,.int .i64 0]⟩:=⟨aMw⟩
instance :NoA Tryz.prog 304:=⟨trivial⟩
instance :TiC Tryz.prog 308 ⟨.struct #[{name:= "Coin",type:=265,offset:=0,embedded:=false,tag:= "",pkgPath:= "",byteOffset:=0},{name:= "Spent",type:=3,offset:=37,embedded:=false,tag:= "",pkgPath:= "",byteOffset:=88}],38,96,.agg #[.int .u8 0,.int .u8 0,.int .u8 0,.int .u8 0,.int .u8 0,.int .u8 0,.int .u8 0,.int .u8 0,.int .u8 0,.int .u8 0,.int .u8 0,.int .u8 0,.int .u8 0,.int .u8 0,.int .u8 0,.int .u8 0,.int .u8 0,.int .u8 0,.int .u8 0,.int .u8 0,.int .u8 0,.int .u8 0,.int .u8 0,.int .u8 0,.int .u8 0,.int .u8 0,.int .u8 0,.int .u8 0,.int .u8 0,.int .u8 0,.int .u8 0,.int .u8 0,.int .u32 0,.int .i64 0,.slice none 0 0,.int .i64 0,.bool false,.int .i64 0]⟩:=⟨aLo⟩
instance :TiC Tryz.prog 309 ⟨.struct #[{name:= "Coin",type:=265,offset:=0,embedded:=false,tag:= "",pkgPath:= "",byteOffset:=0},{name:= "Spent",type:=3,offset:=37,embedded:=false,tag:= "",pkgPath:= "",byteOffset:=88}],38,96,.agg #[.int .u8 0,.int .u8 0,.int .u8 0,.int .u8 0,.int .u8 0,.int .u8 0,.int .u8 0,.int .u8 0,.int .u8 0,.int .u8 0,.int .u8 0,.int .u8 0,.int .u8 0,.int .u8 0,.int .u8 0,.int .u8 0,.int .u8 0,.int .u8 0,.int .u8 0,.int .u8 0,.int .u8 0,.int .u8 0,.int .u8 0,.int .u8 0,.int .u8 0,.int .u8 0,.int .u8 0,.int .u8 0,.int .u8 0,.int .u8 0,.int .u8 0,.int .u8 0,.int .u32 0,.int .i64 0,.slice none 0 0,.int .i64 0,.bool false,.int .i64 0]⟩:=⟨aK3⟩
instance :TiC Tryz.prog 314 ⟨.struct #[{name:= "Peer",type:=3,offset:=0,embedded:=false,tag:= "",pkgPath:= "",byteOffset:=0},{name:= "Points",type:=3,offset:=1,embedded:=false,tag:= "",pkgPath:= "",byteOffset:=8},{name:= "Until",type:=44,offset:=2,embedded:=false,tag:= "",pkgPath:= "",byteOffset:=16}],3,24,.agg #[.int .i64 0,.int .i64 0,.int .u32 0]⟩:=⟨aLK⟩
instance :NoA Tryz.prog 314:=⟨trivial⟩
instance :TiC Tryz.prog 315 ⟨.struct #[{name:= "Peer",type:=3,offset:=0,embedded:=false,tag:= "",pkgPath:= "",byteOffset:=0},{name:= "Points",type:=3,offset:=1,embedded:=false,tag:= "",pkgPath:= "",byteOffset:=8},{name:= "Until",type:=44,offset:=2,embedded:=false,tag:= "",pkgPath:= "",byteOffset:=16}],3,24,.agg #[.int .i64 0,.int .i64 0,.int .u32 0]⟩:=⟨aKT⟩
instance :NoA Tryz.prog 315:=⟨trivial⟩
instance :TiC Tryz.prog 317 ⟨.slice 320,1,24,.slice none 0 0⟩:=⟨aK0⟩
instance :NoA Tryz.prog 317:=⟨trivial⟩
instance :TiC Tryz.prog 319 ⟨.struct #[{name:= "Peer",type:=3,offset:=0,embedded:=false,tag:= "",pkgPath:= "",byteOffset:=0},{name:= "Message",type:=221,offset:=1,embedded:=false,tag:= "",pkgPath:= "",byteOffset:=8}],115,344,.agg #[.int .i64 0,.int .i64 0,.int .u32 0,.int .u64 0,.int .i64 0,.int .u8 0,.int .u8 0,.int .u8 0,.int .u8 0,.int .u8 0,.int .u8 0,.int .u8 0,.int .u8 0,.int .u8 0,.int .u8 0,.int .u8 0,.int .u8 0,.int .u8 0,.int .u8 0,.int .u8 0,.int .u8 0,.int .u8 0,.int .u8 0,.int .u8 0,.int .u8 0,.int .u8 0,.int .u8 0,.int .u8 0,.int .u8 0,.int .u8 0,.int .u8 0,.int .u8 0,.int .u8 0,.int .u8 0,.int .u8 0,.int .u8 0,.int .u8 0,.slice none 0 0,.slice none 0 0,.int .i64 0,.slice none 0 0,.int .u32 0,.int .u8 0,.int .u8 0,.int .u8 0,.int .u8 0,.int .u8 0,.int .u8 0,.int .u8 0,.int .u8 0,.int .u8 0,.int .u8 0,.int .u8 0,.int .u8 0,.int .u8 0,.int .u8 0,.int .u8 0,.int .u8 0,.int .u8 0,.int .u8 0,.int .u8 0,.int .u8 0,.int .u8 0,.int .u8 0,.int .u8 0,.int .u8 0,.int .u8 0,.int .u8 0,.int .u8 0,.int .u8 0,.int .u8 0,.int .u8 0,.int .u8 0,.int .u8 0,.int .u8 0,.int .u8 0,.int .u8 0,.int .u8 0,.int .u8 0,.int .u8 0,.int .u8 0,.int .u8 0,.int .u8 0,.int .u8 0,.int .u8 0,.int .u8 0,.int .u8 0,.int .u8 0,.int .u8 0,.int .u8 0,.int .u8 0,.int .u8 0,.int .u8 0,.int .u8 0,.int .u8 0,.int .u8 0,.int .u8 0,.int .u8 0,.int .u8 0,.int .u8 0,.int .u8 0,.int .u8 0,.int .u8 0,.int .u8 0,.int .u8 0,.int .u8 0,.int .u32 0,.int .u32 0,.int .u32 0,.slice none 0 0,.int .u32 0,.slice none 0 0,.slice none 0 0,.int .u32 0,.slice none 0 0]⟩:=⟨aMk⟩
instance :TiC Tryz.prog 320 ⟨.struct #[{name:= "Peer",type:=3,offset:=0,embedded:=false,tag:= "",pkgPath:= "",byteOffset:=0},{name:= "Message",type:=221,offset:=1,embedded:=false,tag:= "",pkgPath:= "",byteOffset:=8}],115,344,.agg #[.int .i64 0,.int .i64 0,.int .u32 0,.int .u64 0,.int .i64 0,.int .u8 0,.int .u8 0,.int .u8 0,.int .u8 0,.int .u8 0,.int .u8 0,.int .u8 0,.int .u8 0,.int .u8 0,.int .u8 0,.int .u8 0,.int .u8 0,.int .u8 0,.int .u8 0,.int .u8 0,.int .u8 0,.int .u8 0,.int .u8 0,.int .u8 0,.int .u8 0,.int .u8 0,.int .u8 0,.int .u8 0,.int .u8 0,.int .u8 0,.int .u8 0,.int .u8 0,.int .u8 0,.int .u8 0,.int .u8 0,.int .u8 0,.int .u8 0,.slice none 0 0,.slice none 0 0,.int .i64 0,.slice none 0 0,.int .u32 0,.int .u8 0,.int .u8 0,.int .u8 0,.int .u8 0,.int .u8 0,.int .u8 0,.int .u8 0,.int .u8 0,.int .u8 0,.int .u8 0,.int .u8 0,.int .u8 0,.int .u8 0,.int .u8 0,.int .u8 0,.int .u8 0,.int .u8 0,.int .u8 0,.int .u8 0,.int .u8 0,.int .u8 0,.int .u8 0,.int .u8 0,.int .u8 0,.int .u8 0,.int .u8 0,.int .u8 0,.int .u8 0,.int .u8 0,.int .u8 0,.int .u8 0,.int .u8 0,.int .u8 0,.int .u8 0,.int .u8 0,.int .u8 0,.int .u8 0,.int .u8 0,.int .u8 0,.int .u8 0,.int .u8 0,.int .u8 0,.int .u8 0,.int .u8 0,.int .u8 0,.int .u8 0,.int .u8 0,.int .u8 0,.int .u8 0,.int .u8 0,.int .u8 0,.int .u8 0,.int .u8 0,.int .u8 0,.int .u8 0,.int .u8 0,.int .u8 0,.int .u8 0,.int .u8 0,.int .u8 0,.int .u8 0,.int .u8 0,.int .u8 0,.int .u8 0,.int .u32 0,.int .u32 0,.int .u32 0,.slice none 0 0,.int .u32 0,.slice none 0 0,.slice none 0 0,.int .u32 0,.slice none 0 0]⟩:=⟨aKC⟩
instance :TiC Tryz.prog 321 ⟨.slice 221,1,24,.slice none 0 0⟩:=⟨aLJ⟩
instance :NoA Tryz.prog 321:=⟨trivial⟩
instance :TiC Tryz.prog 332 ⟨.struct #[{name:= "Client",type:=71,offset:=0,embedded:=true,tag:= "",pkgPath:= "",byteOffset:=0},{name:= "params",type:=54,offset:=117,embedded:=false,tag:= "",pkgPath:= "lightclient/client",byteOffset:=384},{name:= "now",type:=44,offset:=197,embedded:=false,tag:= "",pkgPath:= "lightclient/client",byteOffset:=568},{name:= "claims",type:=61,offset:=198,embedded:=false,tag:= "",pkgPath:= "lightclient/client",byteOffset:=576}],199,600,.agg #[.int .u8 0,.int .u8 0,.int .u8 0,.int .u8 0,.int .u8 0,.int .u8 0,.int .u8 0,.int .u8 0,.int .u8 0,.int .u8 0,.int .u8 0,.int .u8 0,.int .u8 0,.int .u8 0,.int .u8 0,.int .u8 0,.int .u8 0,.int .u8 0,.int .u8 0,.int .u8 0,.int .u8 0,.int .u8 0,.int .u8 0,.int .u8 0,.int .u8 0,.int .u8 0,.int .u8 0,.int .u8 0,.int .u8 0,.int .u8 0,.int .u8 0,.int .u8 0,.int .i64 0,.int .i64 0,.slice none 0 0,.int .i64 0,.slice none 0 0,.slice none 0 0,.int .i64 0,.int .i64 0,.int .i64 0,.bool false,.int .u8 0,.int .u8 0,.int .u8 0,.int .u8 0,.int .u8 0,.int .u8 0,.int .u8 0,.int .u8 0,.int .u8 0,.int .u8 0,.int .u8 0,.int .u8 0,.int .u8 0,.int .u8 0,.int .u8 0,.int .u8 0,.int .u8 0,.int .u8 0,.int .u8 0,.int .u8 0,.int .u8 0,.int .u8 0,.int .u8 0,.int .u8 0,.int .u8 0,.int .u8 0,.int .u8 0,.int .u8 0,.int .u8 0,.int .u8 0,.int .u8 0,.int .u8 0,.bool false,.int .i64 0,.int .i64 0,.int .u8 0,.int .u8 0,.int .u8 0,.int .u8 0,.int .u8 0,.int .u8 0,.int .u8 0,.int .u8 0,.int .u8 0,.int .u8 0,.int .u8 0,.int .u8 0,.int .u8 0,.int .u8 0,.int .u8 0,.int .u8 0,.int .u8 0,.int .u8 0,.int .u8 0,.int .u8 0,.int .u8 0,.int .u8 0,.int .u8 0,.int .u8 0,.int .u8 0,.int .u8 0,.int .u8 0,.int .u8 0,.int .u8 0,.int .u8 0,.int .u8 0,.int .u8 0,.slice none 0 0,.int .i64 0,.int .i64 0,.int .i64 0,.slice none 0 0,.slice none 0 0,.slice none 0 0,.slice none 0 0,.int .u32 0,.int .u8 0,.int .u8 0,.int .u8 0,.int .u8 0,.int .u8 0,.int .u8 0,.int .u8 0,.int .u8 0,.int .u8 0,.int .u8 0,.int .u8 0,.int .u8 0,.int .u8 0,.int .u8 0,.int .u8 0,.int .u8 0,.int .u8 0,.int .u8 0,.int .u8 0,.int .u8 0,.int .u8 0,.int .u8 0,.int .u8 0,.int .u8 0,.int .u8 0,.int .u8 0,.int .u8 0,.int .u8 0,.int .u8 0,.int .u8 0,.int .u8 0,.int .u8 0,.int .u8 0,.int .u8 0,.int .u8 0,.int .u8 0,.int .u8 0,.int .u8 0,.int .u8 0,.int .u8 0,.int .u8 0,.int .u8 0,.int .u8 0,.int .u8 0,.int .u8 0,.int .u8 0,.int .u8 0,.int .u8 0,.int .u8 0,.int .u8 0,.int .u8 0,.int .u8 0,.int .u8 0,.int .u8 0,.int .u8 0,.int .u8 0,.int .u8 0,.int .u8 0,.int .u8 0,.int .u8 0,.int .u8 0,.int .u8 0,.int .u8 0,.int .u8 0,.int .u32 0,.int .u32 0,.int .u32 0,.int .u64 0,.int .u64 0,.int .u64 0,.int .u64 0,.int .i64 0,.int .u32 0,.int .u32 0,.int .u32 0,.slice none 0 0,.int .i64 0,.int .i64 0,.int .i64 0,.int .u32 0,.slice none 0 0]⟩:=⟨aKs⟩
instance :TiC Tryz.prog 333 ⟨.struct #[{name:= "Client",type:=71,offset:=0,embedded:=true,tag:= "",pkgPath:= "",byteOffset:=0},{name:= "params",type:=54,offset:=117,embedded:=false,tag:= "",pkgPath:= "lightclient/client",byteOffset:=384},{name:= "now",type:=44,offset:=197,embedded:=false,tag:= "",pkgPath:= "lightclient/client",byteOffset:=568},{name:= "claims",type:=61,offset:=198,embedded:=false,tag:= "",pkgPath:= "lightclient/client",byteOffset:=576}],199,600,.agg #[.int .u8 0,.int .u8 0,.int .u8 0,.int .u8 0,.int .u8 0,.int .u8 0,.int .u8 0,.int .u8 0,.int .u8 0,.int .u8 0,.int .u8 0,.int .u8 0,.int .u8 0,.int .u8 0,.int .u8 0,.int .u8 0,.int .u8 0,.int .u8 0,.int .u8 0,.int .u8 0,.int .u8 0,.int .u8 0,.int .u8 0,.int .u8 0,.int .u8 0,.int .u8 0,.int .u8 0,.int .u8 0,.int .u8 0,.int .u8 0,.int .u8 0,.int .u8 0,.int .i64 0,.int .i64 0,.slice none 0 0,.int .i64 0,.slice none 0 0,.slice none 0 0,.int .i64 0,.int .i64 0,.int .i64 0,.bool false,.int .u8 0,.int .u8 0,.int .u8 0,.int .u8 0,.int .u8 0,.int .u8 0,.int .u8 0,.int .u8 0,.int .u8 0,.int .u8 0,.int .u8 0,.int .u8 0,.int .u8 0,.int .u8 0,.int .u8 0,.int .u8 0,.int .u8 0,.int .u8 0,.int .u8 0,.int .u8 0,.int .u8 0,.int .u8 0,.int .u8 0,.int .u8 0,.int .u8 0,.int .u8 0,.int .u8 0,.int .u8 0,.int .u8 0,.int .u8 0,.int .u8 0,.int .u8 0,.bool false,.int .i64 0,.int .i64 0,.int .u8 0,.int .u8 0,.int .u8 0,.int .u8 0,.int .u8 0,.int .u8 0,.int .u8 0,.int .u8 0,.int .u8 0,.int .u8 0,.int .u8 0,.int .u8 0,.int .u8 0,.int .u8 0,.int .u8 0,.int .u8 0,.int .u8 0,.int .u8 0,.int .u8 0,.int .u8 0,.int .u8 0,.int .u8 0,.int .u8 0,.int .u8 0,.int .u8 0,.int .u8 0,.int .u8 0,.int .u8 0,.int .u8 0,.int .u8 0,.int .u8 0,.int .u8 0,.slice none 0 0,.int .i64 0,.int .i64 0,.int .i64 0,.slice none 0 0,.slice none 0 0,.slice none 0 0,.slice none 0 0,.int .u32 0,.int .u8 0,.int .u8 0,.int .u8 0,.int .u8 0,.int .u8 0,.int .u8 0,.int .u8 0,.int .u8 0,.int .u8 0,.int .u8 0,.int .u8 0,.int .u8 0,.int .u8 0,.int .u8 0,.int .u8 0,.int .u8 0,.int .u8 0,.int .u8 0,.int .u8 0,.int .u8 0,.int .u8 0,.int .u8 0,.int .u8 0,.int .u8 0,.int .u8 0,.int .u8 0,.int .u8 0,.int .u8 0,.int .u8 0,.int .u8 0,.int .u8 0,.int .u8 0,.int .u8 0,.int .u8 0,.int .u8 0,.int .u8 0,.int .u8 0,.int .u8 0,.int .u8 0,.int .u8 0,.int .u8 0,.int .u8 0,.int .u8 0,.int .u8 0,.int .u8 0,.int .u8 0,.int .u8 0,.int .u8 0,.int .u8 0,.int .u8 0,.int .u8 0,.int .u8 0,.int .u8 0,.int .u8 0,.int .u8 0,.int .u8 0,.int .u8 0,.int .u8 0,.int .u8 0,.int .u8 0,.int .u8 0,.int .u8 0,.int .u8 0,.int .u8 0,.int .u32 0,.int .u32 0,.int .u32 0,.int .u64 0,.int .u64 0,.int .u64 0,.int .u64 0,.int .i64 0,.int .u32 0,.int .u32 0,.int .u32 0,.slice none 0 0,.int .i64 0,.int .i64 0,.int .i64 0,.int .u32 0,.slice none 0 0]⟩:=⟨aLL⟩
instance :TiC Tryz.prog 334 ⟨.pointer 156,1,8,.pointer none⟩:=⟨aLz⟩
instance :NoA Tryz.prog 334:=⟨trivial⟩
instance :TiC Tryz.prog 348 ⟨.array 24 5,24,24,.agg #[.int .u8 0,.int .u8 0,.int .u8 0,.int .u8 0,.int .u8 0,.int .u8 0,.int .u8 0,.int .u8 0,.int .u8 0,.int .u8 0,.int .u8 0,.int .u8 0,.int .u8 0,.int .u8 0,.int .u8 0,.int .u8 0,.int .u8 0,.int .u8 0,.int .u8 0,.int .u8 0,.int .u8 0,.int .u8 0,.int .u8 0,.int .u8 0]⟩:=⟨aKM⟩
instance :TiC Tryz.prog 387 ⟨.struct #[{name:= "Data",type:=33,offset:=0,embedded:=false,tag:= "",pkgPath:= "",byteOffset:=0},{name:= "N",type:=3,offset:=1,embedded:=false,tag:= "",pkgPath:= "",byteOffset:=24}],2,32,.agg #[.slice none 0 0,.int .i64 0]⟩:=⟨aMs⟩
instance :NoA Tryz.prog 387:=⟨trivial⟩
instance :TiC Tryz.prog 388 ⟨.struct #[{name:= "Data",type:=33,offset:=0,embedded:=false,tag:= "",pkgPath:= "",byteOffset:=0},{name:= "N",type:=3,offset:=1,embedded:=false,tag:= "",pkgPath:= "",byteOffset:=24}],2,32,.agg #[.slice none 0 0,.int .i64 0]⟩:=⟨aLc⟩
instance :NoA Tryz.prog 388:=⟨trivial⟩
instance :TiC Tryz.prog 393 ⟨.array 8 44,8,32,.agg #[.int .u32 0,.int .u32 0,.int .u32 0,.int .u32 0,.int .u32 0,.int .u32 0,.int .u32 0,.int .u32 0]⟩:=⟨aCr⟩
instance :TiC Tryz.prog 395 ⟨.array 64 5,64,64,.agg #[.int .u8 0,.int .u8 0,.int .u8 0,.int .u8 0,.int .u8 0,.int .u8 0,.int .u8 0,.int .u8 0,.int .u8 0,.int .u8 0,.int .u8 0,.int .u8 0,.int .u8 0,.int .u8 0,.int .u8 0,.int .u8 0,.int .u8 0,.int .u8 0,.int .u8 0,.int .u8 0,.int .u8 0,.int .u8 0,.int .u8 0,.int .u8 0,.int .u8 0,.int .u8 0,.int .u8 0,.int .u8 0,.int .u8 0,.int .u8 0,.int .u8 0,.int .u8 0,.int .u8 0,.int .u8 0,.int .u8 0,.int .u8 0,.int .u8 0,.int .u8 0,.int .u8 0,.int .u8 0,.int .u8 0,.int .u8 0,.int .u8 0,.int .u8 0,.int .u8 0,.int .u8 0,.int .u8 0,.int .u8 0,.int .u8 0,.int .u8 0,.int .u8 0,.int .u8 0,.int .u8 0,.int .u8 0,.int .u8 0,.int .u8 0,.int .u8 0,.int .u8 0,.int .u8 0,.int .u8 0,.int .u8 0,.int .u8 0,.int .u8 0,.int .u8 0]⟩:=⟨aMl⟩
instance :TiC Tryz.prog 416 ⟨.map 9 3,1,8,.map none⟩:=⟨aLI⟩
instance :NoA Tryz.prog 416:=⟨trivial⟩
instance :TiC Tryz.prog 420 ⟨.struct #[{name:= "Height",type:=3,offset:=0,embedded:=false,tag:= "",pkgPath:= "",byteOffset:=0},{name:= "Tip",type:=46,offset:=1,embedded:=false,tag:= "",pkgPath:= "",byteOffset:=8},{name:= "Owned",type:=65,offset:=33,embedded:=false,tag:= "",pkgPath:= "",byteOffset:=40}],34,64,.agg #[.int .i64 0,.int .u8 0,.int .u8 0,.int .u8 0,.int .u8 0,.int .u8 0,.int .u8 0,.int .u8 0,.int .u8 0,.int .u8 0,.int .u8 0,.int .u8 0,.int .u8 0,.int .u8 0,.int .u8 0,.int .u8 0,.int .u8 0,.int .u8 0,.int .u8 0,.int .u8 0,.int .u8 0,.int .u8 0,.int .u8 0,.int .u8 0,.int .u8 0,.int .u8 0,.int .u8 0,.int .u8 0,.int .u8 0,.int .u8 0,.int .u8 0,.int .u8 0,.int .u8 0,.slice none 0 0]⟩:=⟨aLT⟩
instance :TiC Tryz.prog 421 ⟨.struct #[{name:= "Height",type:=3,offset:=0,embedded:=false,tag:= "",pkgPath:= "",byteOffset:=0},{name:= "Tip",type:=46,offset:=1,embedded:=false,tag:= "",pkgPath:= "",byteOffset:=8},{name:= "Owned",type:=65,offset:=33,embedded:=false,tag:= "",pkgPath:= "",byteOffset:=40}],34,64,.agg #[.int .i64 0,.int .u8 0,.int .u8 0,.int .u8 0,.int .u8 0,.int .u8 0,.int .u8 0,.int .u8 0,.int .u8 0,.int .u8 0,.int .u8 0,.int .u8 0,.int .u8 0,.int .u8 0,.int .u8 0,.int .u8 0,.int .u8 0,.int .u8 0,.int .u8 0,.int .u8 0,.int .u8 0,.int .u8 0,.int .u8 0,.int .u8 0,.int .u8 0,.int .u8 0,.int .u8 0,.int .u8 0,.int .u8 0,.int .u8 0,.int .u8 0,.int .u8 0,.int .u8 0,.slice none 0 0]⟩:=⟨aKd⟩
instance :TiC Tryz.prog 423 ⟨.pointer 333,1,8,.pointer none⟩:=⟨aKv⟩
instance :NoA Tryz.prog 423:=⟨trivial⟩
instance :TiC Tryz.prog 424 ⟨.pointer 426,1,8,.pointer none⟩:=⟨aLA⟩
instance :NoA Tryz.prog 424:=⟨trivial⟩
instance :TiC Tryz.prog 425 ⟨.struct #[{name:= "b",type:=33,offset:=0,embedded:=false,tag:= "",pkgPath:= "lightclient/message",byteOffset:=0},{name:= "at",type:=3,offset:=1,embedded:=false,tag:= "",pkgPath:= "lightclient/message",byteOffset:=24},{name:= "e",type:=27,offset:=2,embedded:=false,tag:= "",pkgPath:= "lightclient/message",byteOffset:=32}],3,40,.agg #[.slice none 0 0,.int .i64 0,.int .i64 0]⟩:=⟨aK5⟩
instance :NoA Tryz.prog 425:=⟨trivial⟩
instance :TiC Tryz.prog 426 ⟨.struct #[{name:= "b",type:=33,offset:=0,embedded:=false,tag:= "",pkgPath:= "lightclient/message",byteOffset:=0},{name:= "at",type:=3,offset:=1,embedded:=false,tag:= "",pkgPath:= "lightclient/message",byteOffset:=24},{name:= "e",type:=27,offset:=2,embedded:=false,tag:= "",pkgPath:= "lightclient/message",byteOffset:=32}],3,40,.agg #[.slice none 0 0,.int .i64 0,.int .i64 0]⟩:=⟨aMx⟩
instance :NoA Tryz.prog 426:=⟨trivial⟩
instance :TiC Tryz.prog 432 ⟨.array 4 5,4,4,.agg #[.int .u8 0,.int .u8 0,.int .u8 0,.int .u8 0]⟩:=⟨aLf⟩
instance :TiC Tryz.prog 448 ⟨.array 20 49,20,160,.agg #[.int .u64 0,.int .u64 0,.int .u64 0,.int .u64 0,.int .u64 0,.int .u64 0,.int .u64 0,.int .u64 0,.int .u64 0,.int .u64 0,.int .u64 0,.int .u64 0,.int .u64 0,.int .u64 0,.int .u64 0,.int .u64 0,.int .u64 0,.int .u64 0,.int .u64 0,.int .u64 0]⟩:=⟨aMB⟩
instance :TiC Tryz.prog 449 ⟨.array 65 5,65,65,.agg #[.int .u8 0,.int .u8 0,.int .u8 0,.int .u8 0,.int .u8 0,.int .u8 0,.int .u8 0,.int .u8 0,.int .u8 0,.int .u8 0,.int .u8 0,.int .u8 0,.int .u8 0,.int .u8 0,.int .u8 0,.int .u8 0,.int .u8 0,.int .u8 0,.int .u8 0,.int .u8 0,.int .u8 0,.int .u8 0,.int .u8 0,.int .u8 0,.int .u8 0,.int .u8 0,.int .u8 0,.int .u8 0,.int .u8 0,.int .u8 0,.int .u8 0,.int .u8 0,.int .u8 0,.int .u8 0,.int .u8 0,.int .u8 0,.int .u8 0,.int .u8 0,.int .u8 0,.int .u8 0,.int .u8 0,.int .u8 0,.int .u8 0,.int .u8 0,.int .u8 0,.int .u8 0,.int .u8 0,.int .u8 0,.int .u8 0,.int .u8 0,.int .u8 0,.int .u8 0,.int .u8 0,.int .u8 0,.int .u8 0,.int .u8 0,.int .u8 0,.int .u8 0,.int .u8 0,.int .u8 0,.int .u8 0,.int .u8 0,.int .u8 0,.int .u8 0,.int .u8 0]⟩:=⟨aLt⟩
instance :TiC Tryz.prog 454 ⟨.map 9 4,1,8,.map none⟩:=⟨aKG⟩
instance :NoA Tryz.prog 454:=⟨trivial⟩
instance :TiC Tryz.prog 458 ⟨.slice 58,1,24,.slice none 0 0⟩:=⟨aLX⟩
instance :NoA Tryz.prog 458:=⟨trivial⟩
instance :TiC Tryz.prog 467 ⟨.struct #[{name:= "Message",type:=46,offset:=0,embedded:=false,tag:= "",pkgPath:= "",byteOffset:=0},{name:= "Height",type:=3,offset:=32,embedded:=false,tag:= "",pkgPath:= "",byteOffset:=32},{name:= "Age",type:=3,offset:=33,embedded:=false,tag:= "",pkgPath:= "",byteOffset:=40}],34,48,.agg #[.int .u8 0,.int .u8 0,.int .u8 0,.int .u8 0,.int .u8 0,.int .u8 0,.int .u8 0,.int .u8 0,.int .u8 0,.int .u8 0,.int .u8 0,.int .u8 0,.int .u8 0,.int .u8 0,.int .u8 0,.int .u8 0,.int .u8 0,.int .u8 0,.int .u8 0,.int .u8 0,.int .u8 0,.int .u8 0,.int .u8 0,.int .u8 0,.int .u8 0,.int .u8 0,.int .u8 0,.int .u8 0,.int .u8 0,.int .u8 0,.int .u8 0,.int .u8 0,.int .i64 0,.int .i64 0]⟩:=⟨aKz⟩
instance :TiC Tryz.prog 468 ⟨.struct #[{name:= "Message",type:=46,offset:=0,embedded:=false,tag:= "",pkgPath:= "",byteOffset:=0},{name:= "Height",type:=3,offset:=32,embedded:=false,tag:= "",pkgPath:= "",byteOffset:=32},{name:= "Age",type:=3,offset:=33,embedded:=false,tag:= "",pkgPath:= "",byteOffset:=40}],34,48,.agg #[.int .u8 0,.int .u8 0,.int .u8 0,.int .u8 0,.int .u8 0,.int .u8 0,.int .u8 0,.int .u8 0,.int .u8 0,.int .u8 0,.int .u8 0,.int .u8 0,.int .u8 0,.int .u8 0,.int .u8 0,.int .u8 0,.int .u8 0,.int .u8 0,.int .u8 0,.int .u8 0,.int .u8 0,.int .u8 0,.int .u8 0,.int .u8 0,.int .u8 0,.int .u8 0,.int .u8 0,.int .u8 0,.int .u8 0,.int .u8 0,.int .u8 0,.int .u8 0,.int .i64 0,.int .i64 0]⟩:=⟨aMf⟩
instance :TiC Tryz.prog 478 ⟨.array 64 44,64,256,.agg #[.int .u32 0,.int .u32 0,.int .u32 0,.int .u32 0,.int .u32 0,.int .u32 0,.int .u32 0,.int .u32 0,.int .u32 0,.int .u32 0,.int .u32 0,.int .u32 0,.int .u32 0,.int .u32 0,.int .u32 0,.int .u32 0,.int .u32 0,.int .u32 0,.int .u32 0,.int .u32 0,.int .u32 0,.int .u32 0,.int .u32 0,.int .u32 0,.int .u32 0,.int .u32 0,.int .u32 0,.int .u32 0,.int .u32 0,.int .u32 0,.int .u32 0,.int .u32 0,.int .u32 0,.int .u32 0,.int .u32 0,.int .u32 0,.int .u32 0,.int .u32 0,.int .u32 0,.int .u32 0,.int .u32 0,.int .u32 0,.int .u32 0,.int .u32 0,.int .u32 0,.int .u32 0,.int .u32 0,.int .u32 0,.int .u32 0,.int .u32 0,.int .u32 0,.int .u32 0,.int .u32 0,.int .u32 0,.int .u32 0,.int .u32 0,.int .u32 0,.int .u32 0,.int .u32 0,.int .u32 0,.int .u32 0,.int .u32 0,.int .u32 0,.int .u32 0]⟩:=⟨aHq⟩
instance :TiC Tryz.prog 524 ⟨.int .u16,1,2,.int .u16 0⟩:=⟨aKK⟩
instance :NoA Tryz.prog 524:=⟨trivial⟩
instance :TiC Tryz.prog 525 ⟨.struct #[{name:= "Host",type:=44,offset:=0,embedded:=false,tag:= "",pkgPath:= "",byteOffset:=0},{name:= "Port",type:=524,offset:=1,embedded:=false,tag:= "",pkgPath:= "",byteOffset:=4},{name:= "Time",type:=44,offset:=2,embedded:=false,tag:= "",pkgPath:= "",byteOffset:=8}],3,12,.agg #[.int .u32 0,.int .u16 0,.int .u32 0]⟩:=⟨aLk⟩
instance :NoA Tryz.prog 525:=⟨trivial⟩
instance :TiC Tryz.prog 526 ⟨.struct #[{name:= "Host",type:=44,offset:=0,embedded:=false,tag:= "",pkgPath:= "",byteOffset:=0},{name:= "Port",type:=524,offset:=1,embedded:=false,tag:= "",pkgPath:= "",byteOffset:=4},{name:= "Time",type:=44,offset:=2,embedded:=false,tag:= "",pkgPath:= "",byteOffset:=8}],3,12,.agg #[.int .u32 0,.int .u16 0,.int .u32 0]⟩:=⟨aMj⟩
instance :NoA Tryz.prog 526:=⟨trivial⟩
instance :TiC Tryz.prog 536 ⟨.slice 261,1,24,.slice none 0 0⟩:=⟨aMb⟩
instance :NoA Tryz.prog 536:=⟨trivial⟩
instance :TiC Tryz.prog 540 ⟨.array 8 49,8,64,.agg #[.int .u64 0,.int .u64 0,.int .u64 0,.int .u64 0,.int .u64 0,.int .u64 0,.int .u64 0,.int .u64 0]⟩:=⟨aL6⟩
instance :TiC Tryz.prog 548 ⟨.pointer 218,1,8,.pointer none⟩:=⟨aKl⟩
instance :NoA Tryz.prog 548:=⟨trivial⟩
instance :TiC Tryz.prog 549 ⟨.int .i64,1,8,.int .i64 0⟩:=⟨aK1⟩
instance :NoA Tryz.prog 549:=⟨trivial⟩
instance :TiC Tryz.prog 585 ⟨.slice 592,1,24,.slice none 0 0⟩:=⟨aKH⟩
instance :NoA Tryz.prog 585:=⟨trivial⟩
instance :TiC Tryz.prog 590 ⟨.slice 595,1,24,.slice none 0 0⟩:=⟨aKg⟩
instance :NoA Tryz.prog 590:=⟨trivial⟩
instance :TiC Tryz.prog 591 ⟨.struct #[{name:= "Code",type:=3,offset:=0,embedded:=false,tag:= "",pkgPath:= "",byteOffset:=0},{name:= "Data",type:=33,offset:=1,embedded:=false,tag:= "",pkgPath:= "",byteOffset:=8},{name:= "M",type:=3,offset:=2,embedded:=false,tag:= "",pkgPath:= "",byteOffset:=32},{name:= "N",type:=3,offset:=3,embedded:=false,tag:= "",pkgPath:= "",byteOffset:=40}],4,48,.agg #[.int .i64 0,.slice none 0 0,.int .i64 0,.int .i64 0]⟩:=⟨aKi⟩
instance :NoA Tryz.prog 591:=⟨trivial⟩
instance :TiC Tryz.prog 592 ⟨.struct #[{name:= "Code",type:=3,offset:=0,embedded:=false,tag:= "",pkgPath:= "",byteOffset:=0},{name:= "Data",type:=33,offset:=1,embedded:=false,tag:= "",pkgPath:= "",byteOffset:=8},{name:= "M",type:=3,offset:=2,embedded:=false,tag:= "",pkgPath:= "",byteOffset:=32},{name:= "N",type:=3,offset:=3,embedded:=false,tag:= "",pkgPath:= "",byteOffset:=40}],4,48,.agg #[.int .i64 0,.slice none 0 0,.int .i64 0,.int .i64 0]⟩:=⟨aKS⟩
instance :NoA Tryz.prog 592:=⟨trivial⟩
instance :TiC Tryz.prog 594 ⟨.struct #[{name:= "reached",type:=4,offset:=0,embedded:=false,tag:= "",pkgPath:= "lightclient/lightclientref08",byteOffset:=0},{name:= "done",type:=4,offset:=1,embedded:=false,tag:= "",pkgPath:= "lightclient/lightclientref08",byteOffset:=1}],2,2,.agg #[.bool false,.bool false]⟩:=⟨aLE⟩
instance :NoA Tryz.prog 594:=⟨trivial⟩
instance :TiC Tryz.prog 595 ⟨.struct #[{name:= "reached",type:=4,offset:=0,embedded:=false,tag:= "",pkgPath:= "lightclient/lightclientref08",byteOffset:=0},{name:= "done",type:=4,offset:=1,embedded:=false,tag:= "",pkgPath:= "lightclient/lightclientref08",byteOffset:=1}],2,2,.agg #[.bool false,.bool false]⟩:=⟨aMo⟩
instance :NoA Tryz.prog 595:=⟨trivial⟩
instance :TiC Tryz.prog 627 ⟨.pointer 629,1,8,.pointer none⟩:=⟨aKJ⟩
instance :NoA Tryz.prog 627:=⟨trivial⟩
instance :TiC Tryz.prog 628 ⟨.struct #[{name:= "b",type:=33,offset:=0,embedded:=false,tag:= "",pkgPath:= "lightclient/tx",byteOffset:=0},{name:= "at",type:=3,offset:=1,embedded:=false,tag:= "",pkgPath:= "lightclient/tx",byteOffset:=24},{name:= "failed",type:=27,offset:=2,embedded:=false,tag:= "",pkgPath:= "lightclient/tx",byteOffset:=32}],3,40,.agg #[.slice none 0 0,.int .i64 0,.int .i64 0]⟩:=⟨aK4⟩
instance :NoA Tryz.prog 628:=⟨trivial⟩
instance :TiC Tryz.prog 629 ⟨.struct #[{name:= "b",type:=33,offset:=0,embedded:=false,tag:= "",pkgPath:= "lightclient/tx",byteOffset:=0},{name:= "at",type:=3,offset:=1,embedded:=false,tag:= "",pkgPath:= "lightclient/tx",byteOffset:=24},{name:= "failed",type:=27,offset:=2,embedded:=false,tag:= "",pkgPath:= "lightclient/tx",byteOffset:=32}],3,40,.agg #[.slice none 0 0,.int .i64 0,.int .i64 0]⟩:=⟨aMt⟩
instance :NoA Tryz.prog 629:=⟨trivial⟩
instance :TiC Tryz.prog 656 ⟨.map 261 4,1,8,.map none⟩:=⟨aKu⟩
instance :NoA Tryz.prog 656:=⟨trivial⟩
instance :TiC Tryz.prog 657 ⟨.map 46 3,1,8,.map none⟩:=⟨aKD⟩
instance :NoA Tryz.prog 657:=⟨trivial⟩
instance :TiC Tryz.prog 668 ⟨.struct #[{name:= "E",type:=51,offset:=0,embedded:=false,tag:= "",pkgPath:= "",byteOffset:=0},{name:= "S",type:=51,offset:=4,embedded:=false,tag:= "",pkgPath:= "",byteOffset:=32}],8,64,.agg #[.int .u64 0,.int .u64 0,.int .u64 0,.int .u64 0,.int .u64 0,.int .u64 0,.int .u64 0,.int .u64 0]⟩:=⟨aMz⟩
instance :TiC Tryz.prog 669 ⟨.struct #[{name:= "E",type:=51,offset:=0,embedded:=false,tag:= "",pkgPath:= "",byteOffset:=0},{name:= "S",type:=51,offset:=4,embedded:=false,tag:= "",pkgPath:= "",byteOffset:=32}],8,64,.agg #[.int .u64 0,.int .u64 0,.int .u64 0,.int .u64 0,.int .u64 0,.int .u64 0,.int .u64 0,.int .u64 0]⟩:=⟨aLC⟩
instance :TiC Tryz.prog 675 ⟨.pointer 679,1,8,.pointer none⟩:=⟨aL8⟩
instance :NoA Tryz.prog 675:=⟨trivial⟩
instance :TiC Tryz.prog 678 ⟨.struct #[{name:= "Bits",type:=388,offset:=0,embedded:=true,tag:= "",pkgPath:= "",byteOffset:=0}],2,32,.agg #[.slice none 0 0,.int .i64 0]⟩:=⟨aLa⟩
instance :NoA Tryz.prog 678:=⟨trivial⟩
instance :TiC Tryz.prog 679 ⟨.struct #[{name:= "Bits",type:=388,offset:=0,embedded:=true,tag:= "",pkgPath:= "",byteOffset:=0}],2,32,.agg #[.slice none 0 0,.int .i64 0]⟩:=⟨aKo⟩
instance :NoA Tryz.prog 679:=⟨trivial⟩
instance :TiC Tryz.prog 680 ⟨.array 4 49,4,32,.agg #[.int .u64 0,.int .u64 0,.int .u64 0,.int .u64 0]⟩:=⟨aKR⟩
instance :TiC Tryz.prog 686 ⟨.struct #[{name:= "Presync",type:=154,offset:=0,embedded:=true,tag:= "",pkgPath:= "",byteOffset:=0},{name:= "params",type:=54,offset:=120,embedded:=false,tag:= "",pkgPath:= "lightclient/presync",byteOffset:=336},{name:= "now",type:=44,offset:=200,embedded:=false,tag:= "",pkgPath:= "lightclient/presync",byteOffset:=520},{name:= "out",type:=152,offset:=201,embedded:=false,tag:= "",pkgPath:= "lightclient/presync",byteOffset:=528}],202,552,.agg #[.int .i64 0,.int .u8 0,.int .u8 0,.int .u8 0,.int .u8 0,.int .u8 0,.int .u8 0,.int .u8 0,.int .u8 0,.int .u8 0,.int .u8 0,.int .u8 0,.int .u8 0,.int .u8 0,.int .u8 0,.int .u8 0,.int .u8 0,.int .u8 0,.int .u8 0,.int .u8 0,.int .u8 0,.int .u8 0,.int .u8 0,.int .u8 0,.int .u8 0,.int .u8 0,.int .u8 0,.int .u8 0,.int .u8 0,.int .u8 0,.int .u8 0,.int .u8 0,.int .u8 0,.int .u64 0,.int .u64 0,.int .u64 0,.int .u64 0,.int .i64 0,.int .u8 0,.int .u8 0,.int .u8 0,.int .u8 0,.int .u8 0,.int .u8 0,.int .u8 0,.int .u8 0,.int .u8 0,.int .u8 0,.int .u8 0,.int .u8 0,.int .u8 0,.int .u8 0,.int .u8 0,.int .u8 0,.int .u8 0,.int .u8 0,.int .u8 0,.int .u8 0,.int .u8 0,.int .u8 0,.int .u8 0,.int .u8 0,.int .u8 0,.int .u8 0,.int .u8 0,.int .u8 0,.int .u8 0,.int .u8 0,.int .u8 0,.int .u8 0,.int .u32 0,.int .u32 0,.slice none 0 0,.int .u64 0,.int .u64 0,.int .u64 0,.int .u64 0,.int .i64 0,.int .u8 0,.int .u8 0,.int .u8 0,.int .u8 0,.int .u8 0,.int .u8 0,.int .u8 0,.int .u8 0,.int .u8 0,.int .u8 0,.int .u8 0,.int .u8 0,.int .u8 0,.int .u8 0,.int .u8 0,.int .u8 0,.int .u8 0,.int .u8 0,.int .u8 0,.int .u8 0,.int .u8 0,.int .u8 0,.int .u8 0,.int .u8 0,.int .u8 0,.int .u8 0,.int .u8 0,.int .u8 0,.int .u8 0,.int .u8 0,.int .u8 0,.int .u8 0,.int .u32 0,.int .u32 0,.slice none 0 0,.int .u64 0,.int .u64 0,.int .u64 0,.int .u64 0,.int .i64 0,.slice none 0 0,.slice none 0 0,.int .u32 0,.int .u8 0,.int .u8 0,.int .u8 0,.int .u8 0,.int .u8 0,.int .u8 0,.int .u8 0,.int .u8 0,.int .u8 0,.int .u8 0,.int .u8 0,.int .u8 0,.int .u8 0,.int .u8 0,.int .u8 0,.int .u8 0,.int .u8 0,.int .u8 0,.int .u8 0,.int .u8 0,.int .u8 0,.int .u8 0,.int .u8 0,.int .u8 0,.int .u8 0,.int .u8 0,.int .u8 0,.int .u8 0,.int .u8 0,.int .u8 0,.int .u8 0,.int .u8 0,.int .u8 0,.int .u8 0,.int .u8 0,.int .u8 0,.int .u8 0,.int .u8 0,.int .u8 0,.int .u8 0,.int .u8 0,.int .u8 0,.int .u8 0,.int .u8 0,.int .u8 0,.int .u8 0,.int .u8 0,.int .u8 0,.int .u8 0,.int .u8 0,.int .u8 0,.int .u8 0,.int .u8 0,.int .u8 0,.int .u8 0,.int .u8 0,.int .u8 0,.int .u8 0,.int .u8 0,.int .u8 0,.int .u8 0,.int .u8 0,.int .u8 0,.int .u8 0,.int .u32 0,.int .u32 0,.int .u32 0,.int .u64 0,.int .u64 0,.int .u64 0,.int .u64 0,.int .i64 0,.int .u32 0,.int .u32 0,.int .u32 0,.slice none 0 0,.int .i64 0,.int .i64 0,.int .i64 0,.int .u32 0,.slice none 0 0]⟩:=⟨aLW⟩
instance :TiC Tryz.prog 687 ⟨.struct #[{name:= "Presync",type:=154,offset:=0,embedded:=true,tag:= "",pkgPath:= "",byteOffset:=0},{name:= "params",type:=54,offset:=120,embedded:=false,tag:= "",pkgPath:= "lightclient/presync",byteOffset:=336},{name:= "now",type:=44,offset:=200,embedded:=false,tag:= "",pkgPath:= "lightclient/presync",byteOffset:=520},{name:= "out",type:=152,offset:=201,embedded:=false,tag:= "",pkgPath:= "lightclient/presync",byteOffset:=528}],202,552,.agg #[.int .i64 0,.int .u8 0,.int .u8 0,.int .u8 0,.int .u8 0,.int .u8 0,.int .u8 0,.int .u8 0,.int .u8 0,.int .u8 0,.int .u8 0,.int .u8 0,.int .u8 0,.int .u8 0,.int .u8 0,.int .u8 0,.int .u8 0,.int .u8 0,.int .u8 0,.int .u8 0,.int .u8 0,.int .u8 0,.int .u8 0,.int .u8 0,.int .u8 0,.int .u8 0,.int .u8 0,.int .u8 0,.int .u8 0,.int .u8 0,.int .u8 0,.int .u8 0,.int .u8 0,.int .u64 0,.int .u64 0,.int .u64 0,.int .u64 0,.int .i64 0,.int .u8 0,.int .u8 0,.int .u8 0,.int .u8 0,.int .u8 0,.int .u8 0,.int .u8 0,.int .u8 0,.int .u8 0,.int .u8 0,.int .u8 0,.int .u8 0,.int .u8 0,.int .u8 0,.int .u8 0,.int .u8 0,.int .u8 0,.int .u8 0,.int .u8 0,.int .u8 0,.int .u8 0,.int .u8 0,.int .u8 0,.int .u8 0,.int .u8 0,.int .u8 0,.int .u8 0,.int .u8 0,.int .u8 0,.int .u8 0,.int .u8 0,.int .u8 0,.int .u32 0,.int .u32 0,.slice none 0 0,.int .u64 0,.int .u64 0,.int .u64 0,.int .u64 0,.int .i64 0,.int .u8 0,.int .u8 0,.int .u8 0,.int .u8 0,.int .u8 0,.int .u8 0,.int .u8 0,.int .u8 0,.int .u8 0,.int .u8 0,.int .u8 0,.int .u8 0,.int .u8 0,.int .u8 0,.int .u8 0,.int .u8 0,.int .u8 0,.int .u8 0,.int .u8 0,.int .u8 0,.int .u8 0,.int .u8 0,.int .u8 0,.int .u8 0,.int .u8 0,.int .u8 0,.int .u8 0,.int .u8 0,.int .u8 0,.int .u8 0,.int .u8 0,.int .u8 0,.int .u32 0,.int .u32 0,.slice none 0 0,.int .u64 0,.int .u64 0,.int .u64 0,.int .u64 0,.int .i64 0,.slice none 0 0,.slice none 0 0,.int .u32 0,.int .u8 0,.int .u8 0,.int .u8 0,.int .u8 0,.int .u8 0,.int .u8 0,.int .u8 0,.int .u8 0,.int .u8 0,.int .u8 0,.int .u8 0,.int .u8 0,.int .u8 0,.int .u8 0,.int .u8 0,.int .u8 0,.int .u8 0,.int .u8 0,.int .u8 0,.int .u8 0,.int .u8 0,.int .u8 0,.int .u8 0,.int .u8 0,.int .u8 0,.int .u8 0,.int .u8 0,.int .u8 0,.int .u8 0,.int .u8 0,.int .u8 0,.int .u8 0,.int .u8 0,.int .u8 0,.int .u8 0,.int .u8 0,.int .u8 0,.int .u8 0,.int .u8 0,.int .u8 0,.int .u8 0,.int .u8 0,.int .u8 0,.int .u8 0,.int .u8 0,.int .u8 0,.int .u8 0,.int .u8 0,.int .u8 0,.int .u8 0,.int .u8 0,.int .u8 0,.int .u8 0,.int .u8 0,.int .u8 0,.int .u8 0,.int .u8 0,.int .u8 0,.int .u8 0,.int .u8 0,.int .u8 0,.int .u8 0,.int .u8 0,.int .u8 0,.int .u32 0,.int .u32 0,.int .u32 0,.int .u64 0,.int .u64 0,.int .u64 0,.int .u64 0,.int .i64 0,.int .u32 0,.int .u32 0,.int .u32 0,.slice none 0 0,.int .i64 0,.int .i64 0,.int .i64 0,.int .u32 0,.slice none 0 0]⟩:=⟨aLY⟩
instance :TiC Tryz.prog 690 ⟨.map 46 4,1,8,.map none⟩:=⟨aMc⟩
instance :NoA Tryz.prog 690:=⟨trivial⟩
instance :TiC Tryz.prog 700 ⟨.int .i64,1,8,.int .i64 0⟩:=⟨aLS⟩
instance :NoA Tryz.prog 700:=⟨trivial⟩
instance :TiC Tryz.prog 706 ⟨.pointer 687,1,8,.pointer none⟩:=⟨aL7⟩
instance :NoA Tryz.prog 706:=⟨trivial⟩
instance :TiC Tryz.prog 714 ⟨.int .u64,1,8,.int .u64 0⟩:=⟨aKh⟩
instance :NoA Tryz.prog 714:=⟨trivial⟩
instance :TiC Tryz.prog 724 ⟨.pointer 714,1,8,.pointer none⟩:=⟨aKf⟩
instance :NoA Tryz.prog 724:=⟨trivial⟩
theorem aIi (b off:Nat):aL Tryz.prog 39 (.ptr b off) 0=some (.ptr b (off+0)):=by simp[aL,o5,tZ]
theorem aHB (es:List V)(i off:Nat):aL Tryz.prog 39 (.eptr es i off) 0=some (.eptr es i (off+0)):=by simp[aL,o5,tZ]
instance :FaC Tryz.prog 39 0 0:=⟨aIi,aHB⟩
theorem aHF (b off:Nat):aL Tryz.prog 39 (.ptr b off) 1=some (.ptr b (off+1)):=by simp[aL,o5,tZ]
theorem aH9 (es:List V)(i off:Nat):aL Tryz.prog 39 (.eptr es i off) 1=some (.eptr es i (off+1)):=by simp[aL,o5,tZ]
instance :FaC Tryz.prog 39 1 1:=⟨aHF,aH9⟩
theorem aH1 (b off:Nat):aL Tryz.prog 39 (.ptr b off) 2=some (.ptr b (off+2)):=by simp[aL,o5,tZ]
theorem aIa (es:List V)(i off:Nat):aL Tryz.prog 39 (.eptr es i off) 2=some (.eptr es i (off+2)):=by simp[aL,o5,tZ]
instance :FaC Tryz.prog 39 2 2:=⟨aH1,aIa⟩
theorem aHX (b off:Nat):aL Tryz.prog 39 (.ptr b off) 3=some (.ptr b (off+3)):=by simp[aL,o5,tZ]
theorem aIw (es:List V)(i off:Nat):aL Tryz.prog 39 (.eptr es i off) 3=some (.eptr es i (off+3)):=by simp[aL,o5,tZ]
instance :FaC Tryz.prog 39 3 3:=⟨aHX,aIw⟩
theorem aH7 (b off:Nat):aL Tryz.prog 78 (.ptr b off) 0=some (.ptr b (off+0)):=by simp[aL,uZ,aG0]
theorem aHQ (es:List V)(i off:Nat):aL Tryz.prog 78 (.eptr es i off) 0=some (.eptr es i (off+0)):=by simp[aL,uZ,aG0]
instance :FaC Tryz.prog 78 0 0:=⟨aH7,aHQ⟩
theorem aHK (b off:Nat):aL Tryz.prog 78 (.ptr b off) 1=some (.ptr b (off+80)):=by simp[aL,uZ,aG7]
theorem aIo (es:List V)(i off:Nat):aL Tryz.prog 78 (.eptr es i off) 1=some (.eptr es i (off+80)):=by simp[aL,uZ,aG7]
instance :FaC Tryz.prog 78 1 80:=⟨aHK,aIo⟩
theorem aIF (b off:Nat):aL Tryz.prog 78 (.ptr b off) 2=some (.ptr b (off+201)):=by simp[aL,uZ,aG1]
theorem aHJ (es:List V)(i off:Nat):aL Tryz.prog 78 (.eptr es i off) 2=some (.eptr es i (off+201)):=by simp[aL,uZ,aG1]
instance :FaC Tryz.prog 78 2 201:=⟨aIF,aHJ⟩
theorem aHL (b off:Nat):aL Tryz.prog 78 (.ptr b off) 3=some (.ptr b (off+202)):=by simp[aL,uZ,aGJ]
theorem aIC (es:List V)(i off:Nat):aL Tryz.prog 78 (.eptr es i off) 3=some (.eptr es i (off+202)):=by simp[aL,uZ,aGJ]
instance :FaC Tryz.prog 78 3 202:=⟨aHL,aIC⟩
theorem aHU (b off:Nat):aL Tryz.prog 88 (.ptr b off) 0=some (.ptr b (off+0)):=by simp[aL,aCN,aGz]
theorem aIs (es:List V)(i off:Nat):aL Tryz.prog 88 (.eptr es i off) 0=some (.eptr es i (off+0)):=by simp[aL,aCN,aGz]
instance :FaC Tryz.prog 88 0 0:=⟨aHU,aIs⟩
theorem aIq (b off:Nat):aL Tryz.prog 88 (.ptr b off) 1=some (.ptr b (off+1)):=by simp[aL,aCN,tZ]
theorem aIy (es:List V)(i off:Nat):aL Tryz.prog 88 (.eptr es i off) 1=some (.eptr es i (off+1)):=by simp[aL,aCN,tZ]
instance :FaC Tryz.prog 88 1 1:=⟨aIq,aIy⟩
theorem aF5 (b off:Nat):aL Tryz.prog 119 (.ptr b off) 0=some (.ptr b (off+0)):=by simp[aL,uP,eT]
theorem aGq (es:List V)(i off:Nat):aL Tryz.prog 119 (.eptr es i off) 0=some (.eptr es i (off+0)):=by simp[aL,uP,eT]
instance :FaC Tryz.prog 119 0 0:=⟨aF5,aGq⟩
theorem aGn (b off:Nat):aL Tryz.prog 119 (.ptr b off) 1=some (.ptr b (off+1)):=by simp[aL,uP,tZ]
theorem aGN (es:List V)(i off:Nat):aL Tryz.prog 119 (.eptr es i off) 1=some (.eptr es i (off+1)):=by simp[aL,uP,tZ]
instance :FaC Tryz.prog 119 1 1:=⟨aGn,aGN⟩
theorem aGQ (b off:Nat):aL Tryz.prog 119 (.ptr b off) 2=some (.ptr b (off+2)):=by simp[aL,uP,eT]
theorem aGS (es:List V)(i off:Nat):aL Tryz.prog 119 (.eptr es i off) 2=some (.eptr es i (off+2)):=by simp[aL,uP,eT]
instance :FaC Tryz.prog 119 2 2:=⟨aGQ,aGS⟩
theorem aM2 :pG Tryz.prog 39=some #[(0,1),(1,1),(2,1),(3,1)]:=by kernel_rfl
instance :PlC Tryz.prog 39 #[(0,1),(1,1),(2,1),(3,1)]:=⟨aM2⟩
theorem aMF :pG Tryz.prog 88=some #[(0,1),(1,1)]:=by kernel_rfl
instance :PlC Tryz.prog 88 #[(0,1),(1,1)]:=⟨aMF⟩
theorem aNw :qS Tryz.prog 9 39=some ([.int .i64]++[.int .i64]++[.int .i64]++[.int .i64]):=by kernel_rfl
theorem aNT :Tryz.prog.eqGuardType Tryz.prog.depth 39=false:=by kernel_rfl
theorem zH {p:Prop} (h:p:=by(simp only[iH,dB,jP,kQ,Blk.rn,V.rns,V.rn,sg,List.map_cons,List.map_nil,Option.map_some,Option.map_none,List.drop_succ_cons,List.drop_zero,List.drop_nil,List.set_cons_zero,List.set_cons_succ,List.cons_append,List.nil_append,List.append_nil,jJ,jI,tY,uC,jF,jD,pE,pB,n0,oA,n9,rO,pM,List.getElem?_cons_zero,List.getElem?_cons_succ,List.getElem?_nil,List.length_cons,List.length_nil,Nat.reduceAdd,Nat.reduceSub,Nat.add_zero,Nat.zero_add,Nat.sub_self,Nat.sub_zero]<;>rfl)):p:=h
theorem zB {f:FuncId}{hs hs' hb hb':Hp}{args xs:List V}{r v:V}(hc:Vm.Fn Tryz.prog f hs args r hs')(ρ:List Nat) (hnd:ρ.Nodup:=by decide) (hlt:ρ.all (fun b=>Nat.blt b hb.length)=true:=by rfl)
  (hl:Lend (sg ρ hb.length) hb ρ hs:=by repeat (first|exact Lend.nil|refine Lend.cons rfl rfl ?_|refine Lend.cons rfl (kZ (fun _=>rfl) _) ?_|refine Lend.cons rfl (lZ (fun _=>rfl) _) ?_)) (hx:V.rns (sg ρ hb.length) args=xs:=by first|rfl|(simp only[V.rn,V.rns,jJ,jI]<;>rfl)) (hr:r.rn (sg ρ hb.length)=v:=by first|rfl|(simp only[V.rn,V.rns,jJ,jI]<;>rfl)) (hh:iH hb ρ hs'=hb':=by(simp only[iH,dB,jP,kQ,Blk.rn,V.rns,V.rn,sg,List.map_cons,List.map_nil,Option.map_some,Option.map_none,List.drop_succ_cons,List.drop_zero,List.drop_nil,List.set_cons_zero,List.set_cons_succ,List.cons_append,List.nil_append,List.append_nil,jJ,jI,tY,uC,jF,jD,pE,pB,n0,oA,n9,rO,pM,List.getElem?_cons_zero,List.getElem?_cons_succ,List.getElem?_nil,List.length_cons,List.length_nil,Nat.reduceAdd,Nat.reduceSub,Nat.add_zero,Nat.zero_add,Nat.sub_self,Nat.sub_zero]<;>rfl)):Vm.Fn Tryz.prog f hb xs v hb':=Vm.Fn.lendB hc ρ hnd hlt hl hx hr hh
theorem zc {f:FuncId}{hb:Hp}{args xs:List V}{r:V}{N n t:Nat}{ops:Array Oper}{l:List Oper}{fr:List (Nat×V)}{K:List V→Hp→Prop}{ty:TypeId}{pos:String}{aft:Array Edge}{ws:List Operand}{ts:Array TypeId}{hs hs' hb':Hp}{v:V}(hc:Vm.Fn Tryz.prog f hs args r hs')(ρ:List Nat)(k:OpsX Tryz.prog N none ops l (aE n ((t,v)::fr)) hb' K) (hw:lU n fr ws=some xs:=by rfl) (hnd:ρ.Nodup:=by decide) (hlt:ρ.all (fun b=>Nat.blt b hb.length)=true:=by rfl) (hl:Lend (sg ρ hb.length) hb ρ hs:=by repeat (first|exact Lend.nil|refine Lend.cons rfl rfl ?_|refine Lend.cons rfl (kZ (fun _=>rfl) _) ?_|refine Lend.cons rfl (lZ (fun _=>rfl) _) ?_)) (hx:V.les j7 xs (V.rns (sg ρ hb.length) args):=by repeat (first|exact V.les_refl _ _|exact V.les_nil|apply V.les_cons|exact V.le_refl _ _|exact V.le_nil|exact V.le_row|exact V.le_arr (fun _=>rfl)|apply V.le_agg)) (hr:r.rn (sg ρ hb.length)=v:=by(simp only[iH,dB,jP,kQ,Blk.rn,V.rns,V.rn,sg,List.map_cons,List.map_nil,Option.map_some,Option.map_none,List.drop_succ_cons,List.drop_zero,List.drop_nil,List.set_cons_zero,List.set_cons_succ,List.cons_append,List.nil_append,List.append_nil,jJ,jI,tY,uC,jF,jD,pE,pB,n0,oA,n9,rO,pM,List.getElem?_cons_zero,List.getElem?_cons_succ,List.getElem?_nil,List.length_cons,List.length_nil,Nat.reduceAdd,Nat.reduceSub,Nat.add_zero,Nat.zero_add,Nat.sub_self,Nat.sub_zero]<;>rfl)) (hh:iH hb ρ hs'=hb':=by(simp only[iH,dB,jP,kQ,Blk.rn,V.rns,V.rn,sg,List.map_cons,List.map_nil,Option.map_some,Option.map_none,List.drop_succ_cons,List.drop_zero,List.drop_nil,List.set_cons_zero,List.set_cons_succ,List.cons_append,List.nil_append,List.append_nil,jJ,jI,tY,uC,jF,jD,pE,pB,n0,oA,n9,rO,pM,List.getElem?_cons_zero,List.getElem?_cons_succ,List.getElem?_nil,List.length_cons,List.length_nil,Nat.reduceAdd,Nat.reduceSub,Nat.add_zero,Nat.zero_add,Nat.sub_self,Nat.sub_zero]<;>rfl)):OpsX Tryz.prog N none ops (⟨some t,.call ⟨.value (.func f),ws.toArray,ts⟩,ty,pos,aft,none⟩::l) (aE n fr) hb K:=xC hw (Vm.Fn.argsLe (Vm.Fn.lendB hc ρ hnd hlt hl rfl hr hh) hx) k
theorem zcL {f:FuncId}{hb:Hp}{args xs:List V}{r:V}{N n t:Nat}{ops:Array Oper}{l:List Oper}{fr:List (Nat×V)}{K:List V→Hp→Prop}{ty:TypeId}{pos:String}{aft:Array Edge}{ws:List Operand}{ts:Array TypeId}{hs hs' hb':Hp}{v:V}(hc:Vm.Fn Tryz.prog f hs args r hs')(ρ β:List Nat)(k:OpsX Tryz.prog N none ops l (aE n ((t,v)::fr)) hb' K) (hw:lU n fr ws=some xs:=by rfl) (hnd:ρ.Nodup:=by decide) (hlt:ρ.all (fun b=>Nat.blt b hb.length)=true:=by rfl) (hdis: ∀b∈β,b∉ρ:=by decide) (hl:Lend (sg ρ hb.length) hb ρ hs:=by repeat (first|exact Lend.nil|refine Lend.cons rfl rfl ?_|refine Lend.cons rfl (kZ (fun _=>rfl) _) ?_|refine Lend.cons rfl (lZ (fun _=>rfl) _) ?_)) (hx:Brw (sg ρ hb.length) (only β hb) xs args:=by repeat (first|exact Brw.nil|refine Brw.same rfl ?_|refine Brw.row (aHE (by first|exact rfl|(simp only[bS,bT];done)|exact aO (by assumption)|exact bU (by assumption)) rfl (fun _=>rfl)) ?_|refine Brw.row (n8 (fun _=>rfl) zl (by first|exact rfl|(simp only[bS,bT];done)|exact aO (by assumption)|exact bU (by assumption)) rfl (fun _=>rfl)) ?_|refine Brw.same (by simp only[V.rn,V.rns,jJ,jI]) ?_|refine Brw.le V.le_nil ?_|refine Brw.le V.le_row ?_)) (hrf:r.rf=true:=by first|rfl|simp[V.rf,V.rfs,aIQ,aJ1]) (hrb:rfB hs':=by repeat (first|exact rfB.nil|refine rfB.dead ?_|refine rfB.live rfl ?_|refine rfB.live (yW (fun _=>rfl) _) ?_|refine rfB.live (aDB (fun _=>rfl) _) ?_)) (hr:r.rn (sg ρ hb.length)=v:=by(simp only[iH,dB,jP,kQ,Blk.rn,V.rns,V.rn,sg,List.map_cons,List.map_nil,Option.map_some,Option.map_none,List.drop_succ_cons,List.drop_zero,List.drop_nil,List.set_cons_zero,List.set_cons_succ,List.cons_append,List.nil_append,List.append_nil,jJ,jI,tY,uC,jF,jD,pE,pB,n0,oA,n9,rO,pM,List.getElem?_cons_zero,List.getElem?_cons_succ,List.getElem?_nil,List.length_cons,List.length_nil,Nat.reduceAdd,Nat.reduceSub,Nat.add_zero,Nat.zero_add,Nat.sub_self,Nat.sub_zero]<;>rfl)) (hh:iH hb ρ hs'=hb':=by(simp only[iH,dB,jP,kQ,Blk.rn,V.rns,V.rn,sg,List.map_cons,List.map_nil,Option.map_some,Option.map_none,List.drop_succ_cons,List.drop_zero,List.drop_nil,List.set_cons_zero,List.set_cons_succ,List.cons_append,List.nil_append,List.append_nil,jJ,jI,tY,uC,jF,jD,pE,pB,n0,oA,n9,rO,pM,List.getElem?_cons_zero,List.getElem?_cons_succ,List.getElem?_nil,List.length_cons,List.length_nil,Nat.reduceAdd,Nat.reduceSub,Nat.add_zero,Nat.zero_add,Nat.sub_self,Nat.sub_zero]<;>rfl)):OpsX Tryz.prog N none ops (⟨some t,.call ⟨.value (.func f),ws.toArray,ts⟩,ty,pos,aft,none⟩::l) (aE n fr) hb K:=xC hw (Vm.Fn.lendR hc ρ β hnd hlt hdis hl hx hrf hrb hr hh) k
theorem xp {f:FuncId}{hb:Hp}{args xs:List V}{r:V}{N n t:Nat}{ops:Array Oper}{l:List Oper}{fr:List (Nat×V)}{K:List V→Hp→Prop}{ty:TypeId}{pos:String}{aft:Array Edge}{ws:List Operand}{ts:Array TypeId}(hc:Vm.Fn Tryz.prog f [] args r [])(k:OpsX Tryz.prog N none ops l (aE n ((t,r)::fr)) hb K) (hw:lU n fr ws=some xs:=by rfl) (hx:V.les j7 xs args:=by repeat (first|exact V.les_refl _ _|exact V.les_nil|apply V.les_cons|exact V.le_refl _ _|exact V.le_nil|exact V.le_row|exact V.le_arr (fun _=>rfl)|apply V.le_agg)) (ha:V.rns (sg [] hb.length) args=args:=by first|rfl|(simp only[V.rn,V.rns,jJ,jI]<;>rfl)) (hr:r.rn (sg [] hb.length)=r:=by first|rfl|(simp only[V.rn,V.rns,jJ,jI]<;>rfl)):OpsX Tryz.prog N none ops (⟨some t,.call ⟨.value (.func f),ws.toArray,ts⟩,ty,pos,aft,none⟩::l) (aE n fr) hb K:=xC hw (Vm.Fn.argsLe (Vm.Fn.pure hc ha hr) hx) k
theorem xu {f:FuncId}{hb:Hp}{args xs:List V}{r:V}{N n t:Nat}{ops:Array Oper}{l:List Oper}{fr:List (Nat×V)}{K:List V→Hp→Prop}{ty:TypeId}{pos:String}{aft:Array Edge}{ws:List Operand}{ts:Array TypeId}{F G:List Nat}{gd:Option (Nat×Bool)}(hc:Vm.Fn Tryz.prog f [] args r [])(k:OpsX Tryz.prog N (some (F,G)) ops l (aE n ((t,r)::fr)) hb K) (hw:lU n fr ws=some xs:=by rfl) (hx:V.les j7 xs args:=by repeat (first|exact V.les_refl _ _|exact V.les_nil|apply V.les_cons|exact V.le_refl _ _|exact V.le_nil|exact V.le_row|exact V.le_arr (fun _=>rfl)|apply V.le_agg)) (ha: ∀L,V.rns (sg [] L) args=args:=by(intro L;first|rfl|(simp only[V.rn,V.rns,jJ,jI]<;>rfl))) (hr: ∀L,r.rn (sg [] L)=r:=by(intro L;first|rfl|(simp only[V.rn,V.rns,jJ,jI]<;>rfl))) (hG:eN G f=false:=by rfl) (hg:Gd ops n fr gd:=by exact gD):OpsX Tryz.prog N (some (F,G)) ops (⟨some t,.call ⟨.value (.func f),ws.toArray,ts⟩,ty,pos,aft,gd⟩::l) (aE n fr) hb K:=xU hw (fun _=>Vm.Fn.argsLe (Vm.Fn.pure hc (ha _) (hr _)) hx) k hG hg
end Go.Proofs.YtjcfonniipabpaaGreatDoor
set_option linter.unusedSimpArgs false
set_option linter.unusedVariables false
namespace Go.Proofs
open Go.Shelf Go.RowKit Go.Lib
def Tryz.lays169_ren :Go.Shelf.Ren:=⟨fun|169=>40|n=>n,fun|70=>107|9=>9|0=>0|72=>109|37=>33|127=>174|3=>3|5=>5|n=>n,fun|n=>n⟩
theorem Tryz.lays169 :Go.Proofs.Lays.n169 Tryz.prog Tryz.lays169_ren:={
 mixed:=by kernel_rfl
 f169:=Tryz.func40.trans (congrArg some (by kernel_rfl))
 t0:=Tryz.underlying0
 a0:=Tryz.isAgg0
 z0:=Tryz.sizeOf0
 v0:=Tryz.zeroValue0
 t3:=Tryz.underlying3
 a3:=Tryz.isAgg3
 z3:=Tryz.sizeOf3
 v3:=Tryz.zeroValue3
 t9:=Tryz.underlying9
 a9:=Tryz.isAgg9
 z9:=Tryz.sizeOf9
 v9:=Tryz.zeroValue9
 t37:=Tryz.underlying33
 a37:=Tryz.isAgg33
 z37:=Tryz.sizeOf33
 v37:=Tryz.zeroValue33
 t70:=Tryz.underlying107
 a70:=Tryz.isAgg107
 z70:=Tryz.sizeOf107
 v70:=Tryz.zeroValue107
 t72:=Tryz.underlying109
 a72:=Tryz.isAgg109
 z72:=Tryz.sizeOf109
 v72:=Tryz.zeroValue109
 t127:=Tryz.underlying174
 a127:=Tryz.isAgg174
 z127:=Tryz.sizeOf174
 v127:=Tryz.zeroValue174}
theorem Tryz.Builder_Extra_169 :Builder.Extra Tryz.prog Tryz.lays169_ren:={
 sizeBuilder:=by kernel_rfl
 liesBuilder:=by kernel_rfl
 t5:=Tryz.underlying5
 a5:=Tryz.isAgg5
 z5:=Tryz.sizeOf5
 v5:=Tryz.zeroValue5
 infoByte:=by kernel_rfl
 cellsByte:=by kernel_rfl
 sizeByte:=by kernel_rfl
 neB5:=by decide}
open Go.RowKit in
theorem Tryz.Builder_String_any (B b:Nat)(l:List UInt8)(w:World)(h:Lib.IsBuilder 109 5 B b (Lib.byteCells l) w)(hBw:B≤w.heap.size):
  Calls Tryz.prog 40 #[.pointer (some ⟨b,0,none⟩)] w fun e w'=>e= .returned (.string ⟨l.toArray⟩)∧Below B w w':=Any.Builder_String_any Tryz.lays169 Tryz.Builder_Extra_169 B b l w h hBw
def Tryz.lays156_ren :Go.Shelf.Ren:=⟨fun|156=>74|165=>122|166=>37|169=>40|240=>66|241=>228|276=>110|277=>324|n=>n,fun|31=>25|9=>9|3=>3|4=>4|0=>0|20=>20|72=>109|76=>113|70=>107|37=>33|75=>112|127=>174|164=>228|5=>5|80=>117|n=>n,fun|n=>n⟩
theorem Tryz.lays156 :Go.Proofs.Lays.n156 Tryz.prog Tryz.lays156_ren:={
 mixed:=by kernel_rfl
 f156:=Tryz.func74.trans (congrArg some (by kernel_rfl))
 f165:=Tryz.func122.trans (congrArg some (by kernel_rfl))
 f166:=Tryz.func37.trans (congrArg some (by kernel_rfl))
 f169:=Tryz.func40.trans (congrArg some (by kernel_rfl))
 f240:=Tryz.func66.trans (congrArg some (by kernel_rfl))
 f241:=Tryz.func228.trans (congrArg some (by kernel_rfl))
 f276:=Tryz.func110.trans (congrArg some (by kernel_rfl))
 f277:=Tryz.func324.trans (congrArg some (by kernel_rfl))
 t0:=Tryz.underlying0
 a0:=Tryz.isAgg0
 z0:=Tryz.sizeOf0
 v0:=Tryz.zeroValue0
 t3:=Tryz.underlying3
 a3:=Tryz.isAgg3
 z3:=Tryz.sizeOf3
 v3:=Tryz.zeroValue3
 t4:=Tryz.underlying4
 a4:=Tryz.isAgg4
 z4:=Tryz.sizeOf4
 v4:=Tryz.zeroValue4
 t9:=Tryz.underlying9
 a9:=Tryz.isAgg9
 z9:=Tryz.sizeOf9
 v9:=Tryz.zeroValue9
 t20:=Tryz.underlying20
 a20:=Tryz.isAgg20
 z20:=Tryz.sizeOf20
 v20:=Tryz.zeroValue20
 t31:=Tryz.underlying25
 a31:=Tryz.isAgg25
 z31:=Tryz.sizeOf25
 v31:=Tryz.zeroValue25
 t37:=Tryz.underlying33
 a37:=Tryz.isAgg33
 z37:=Tryz.sizeOf33
 v37:=Tryz.zeroValue33
 t70:=Tryz.underlying107
 a70:=Tryz.isAgg107
 z70:=Tryz.sizeOf107
 v70:=Tryz.zeroValue107
 t72:=Tryz.underlying109
 a72:=Tryz.isAgg109
 z72:=Tryz.sizeOf109
 v72:=Tryz.zeroValue109
 t75:=Tryz.underlying112
 a75:=Tryz.isAgg112
 z75:=Tryz.sizeOf112
 v75:=Tryz.zeroValue112
 t76:=Tryz.underlying113
 a76:=Tryz.isAgg113
 z76:=Tryz.sizeOf113
 v76:=Tryz.zeroValue113
 t127:=Tryz.underlying174
 a127:=Tryz.isAgg174
 z127:=Tryz.sizeOf174
 v127:=Tryz.zeroValue174
 t164:=Tryz.underlying228
 a164:=Tryz.isAgg228
 z164:=Tryz.sizeOf228
 v164:=Tryz.zeroValue228}
theorem Tryz.Builder_Extra_156 :Builder.Extra Tryz.prog Tryz.lays156_ren:={
 sizeBuilder:=by kernel_rfl
 liesBuilder:=by kernel_rfl
 t5:=Tryz.underlying5
 a5:=Tryz.isAgg5
 z5:=Tryz.sizeOf5
 v5:=Tryz.zeroValue5
 infoByte:=by kernel_rfl
 cellsByte:=by kernel_rfl
 sizeByte:=by kernel_rfl
 neB5:=by decide}
open Go.RowKit in
theorem Tryz.strings_Join_none (a:Option Addr)(c:Nat)(sep:ByteArray)(w:World):
  Calls Tryz.prog 74 #[.slice a 0 c,.string sep] w fun e w'=>e= .returned (.string ⟨#[]⟩)∧w'=w:=Any.strings_Join_none Tryz.lays156 Tryz.Builder_Extra_156 a c sep w
open Go.RowKit in
theorem Tryz.strings_Join (bk o c:Nat)(xs:List ByteArray)(sep:ByteArray)(w:World)(hcells: ∀(j:Nat) x,xs[j]? =some x→w.cell? ⟨bk,o+j,none⟩=some (.string x))(hbk:bk<w.heap.size)(hN:xs.length≤140737488355328)(hcap:xs.length≤c)(hlen:(Lib.join (xs.map (·.data.toList)) sep.data.toList).length≤140737488355328):
  Calls Tryz.prog 74 #[.slice (some ⟨bk,o,none⟩) xs.length c,.string sep] w fun e w'=>e= .returned (.string ⟨(Lib.join (xs.map (·.data.toList)) sep.data.toList).toArray⟩)∧Below w.heap.size w w':=Any.strings_Join Tryz.lays156 Tryz.Builder_Extra_156 bk o c xs sep w hcells hbk hN hcap hlen
def Tryz.laysM171_ren :Go.Shelf.Ren:=⟨fun|171=>38|243=>67|246=>111|283=>214|284=>215|285=>216|286=>217|129=>312|317=>311|318=>313|319=>314|320=>315|337=>404|338=>405|n=>n,fun|3=>3|9=>9|2=>2|4=>4|171=>348|0=>0|53=>49|37=>33|5=>5|173=>351|212=>448|51=>44|20=>20|213=>449|46=>236|232=>45|233=>395|n=>n,fun|17=>1|18=>3|19=>4|n=>n⟩
theorem Tryz.laysM171 :Go.Proofs.LaysM.n171 Tryz.prog Tryz.laysM171_ren:={
 mixed:=by kernel_rfl
 f129:=Tryz.func312.trans (congrArg some (by kernel_rfl))
 f171:=Tryz.func38.trans (congrArg some (by kernel_rfl))
 f243:=Tryz.func67.trans (congrArg some (by kernel_rfl))
 f246:=Tryz.func111.trans (congrArg some (by kernel_rfl))
 f283:=Tryz.func214.trans (congrArg some (by kernel_rfl))
 f284:=Tryz.func215.trans (congrArg some (by kernel_rfl))
 f285:=Tryz.func216.trans (congrArg some (by kernel_rfl))
 f286:=Tryz.func217.trans (congrArg some (by kernel_rfl))
 f317:=Tryz.func311.trans (congrArg some (by kernel_rfl))
 f318:=Tryz.func313.trans (congrArg some (by kernel_rfl))
 f319:=Tryz.func314.trans (congrArg some (by kernel_rfl))
 f320:=Tryz.func315.trans (congrArg some (by kernel_rfl))
 f337:=Tryz.func404.trans (congrArg some (by kernel_rfl))
 f338:=Tryz.func405.trans (congrArg some (by kernel_rfl))
 t0:=Tryz.underlying0
 a0:=Tryz.isAgg0
 z0:=Tryz.sizeOf0
 v0:=Tryz.zeroValue0
 t2:=Tryz.underlying2
 a2:=Tryz.isAgg2
 z2:=Tryz.sizeOf2
 v2:=Tryz.zeroValue2
 t3:=Tryz.underlying3
 a3:=Tryz.isAgg3
 z3:=Tryz.sizeOf3
 v3:=Tryz.zeroValue3
 t4:=Tryz.underlying4
 a4:=Tryz.isAgg4
 z4:=Tryz.sizeOf4
 v4:=Tryz.zeroValue4
 t5:=Tryz.underlying5
 a5:=Tryz.isAgg5
 z5:=Tryz.sizeOf5
 v5:=Tryz.zeroValue5
 t9:=Tryz.underlying9
 a9:=Tryz.isAgg9
 z9:=Tryz.sizeOf9
 v9:=Tryz.zeroValue9
 t20:=Tryz.underlying20
 a20:=Tryz.isAgg20
 z20:=Tryz.sizeOf20
 v20:=Tryz.zeroValue20
 t37:=Tryz.underlying33
 a37:=Tryz.isAgg33
 z37:=Tryz.sizeOf33
 v37:=Tryz.zeroValue33
 t46:=Tryz.underlying236
 a46:=Tryz.isAgg236
 z46:=Tryz.sizeOf236
 v46:=Tryz.zeroValue236
 t51:=Tryz.underlying44
 a51:=Tryz.isAgg44
 z51:=Tryz.sizeOf44
 v51:=Tryz.zeroValue44
 t53:=Tryz.underlying49
 a53:=Tryz.isAgg49
 z53:=Tryz.sizeOf49
 v53:=Tryz.zeroValue49
 t171:=Tryz.underlying348
 a171:=Tryz.isAgg348
 z171:=Tryz.sizeOf348
 v171:=Tryz.zeroValue348
 t173:=Tryz.underlying351
 a173:=Tryz.isAgg351
 z173:=Tryz.sizeOf351
 v173:=Tryz.zeroValue351
 t212:=Tryz.underlying448
 a212:=Tryz.isAgg448
 z212:=Tryz.sizeOf448
 v212:=Tryz.zeroValue448
 t213:=Tryz.underlying449
 a213:=Tryz.isAgg449
 z213:=Tryz.sizeOf449
 t232:=Tryz.underlying45
 a232:=Tryz.isAgg45
 z232:=Tryz.sizeOf45
 v232:=Tryz.zeroValue45
 t233:=Tryz.underlying395
 a233:=Tryz.isAgg395
 z233:=Tryz.sizeOf395
 v233:=Tryz.zeroValue395
 g17:=by kernel_rfl
 g18:=by kernel_rfl
 g19:=by kernel_rfl
 i0:=by kernel_rfl
 i2:=by kernel_rfl
 i3:=by kernel_rfl
 i4:=by kernel_rfl
 i5:=by kernel_rfl
 i9:=by kernel_rfl
 i20:=by kernel_rfl
 i37:=by kernel_rfl
 i46:=by kernel_rfl
 i51:=by kernel_rfl
 i53:=by kernel_rfl
 i171:=by kernel_rfl
 i173:=by kernel_rfl
 i212:=by kernel_rfl
 i232:=by kernel_rfl
 i233:=by kernel_rfl
 m17:=by kernel_rfl
 m18:=by kernel_rfl
 m19:=by kernel_rfl}
open Go.RowKit Go.Sort Go.Lib in
theorem Tryz.strconv_Itoa (n:Int) (h0: -9223372036854775808≤n) (h1:n≤9223372036854775807) (w:World) (htab:Lib.TabIs Tryz.prog w "internal/strconv.uint64pow10" .u64 Lib.pow10Tab):
  Calls Tryz.prog 38 #[.int .i64 n] w fun e w'=>e= .returned (.string ⟨(Lib.itoa n).toArray⟩)∧ ∃k os,w'=grow (w.drewN k) os:=Any.strconv_Itoa Tryz.laysM171 n h0 h1 w htab
def Tryz.lays219_ren :Go.Shelf.Ren:=⟨fun|219=>75|217=>123|225=>124|224=>125|267=>126|266=>229|314=>230|n=>n,fun|9=>9|3=>3|4=>4|5=>5|46=>236|146=>364|51=>44|n=>n,fun|1=>0|n=>n⟩
theorem Tryz.lays219 :Go.Proofs.Lays.n219 Tryz.prog Tryz.lays219_ren:={
 mixed:=by kernel_rfl
 f217:=Tryz.func123.trans (congrArg some (by kernel_rfl))
 f219:=Tryz.func75.trans (congrArg some (by kernel_rfl))
 f224:=Tryz.func125.trans (congrArg some (by kernel_rfl))
 f225:=Tryz.func124.trans (congrArg some (by kernel_rfl))
 f266:=Tryz.func229.trans (congrArg some (by kernel_rfl))
 f267:=Tryz.func126.trans (congrArg some (by kernel_rfl))
 f314:=Tryz.func230.trans (congrArg some (by kernel_rfl))
 t3:=Tryz.underlying3
 a3:=Tryz.isAgg3
 z3:=Tryz.sizeOf3
 v3:=Tryz.zeroValue3
 t4:=Tryz.underlying4
 a4:=Tryz.isAgg4
 z4:=Tryz.sizeOf4
 v4:=Tryz.zeroValue4
 t5:=Tryz.underlying5
 a5:=Tryz.isAgg5
 z5:=Tryz.sizeOf5
 v5:=Tryz.zeroValue5
 t9:=Tryz.underlying9
 a9:=Tryz.isAgg9
 z9:=Tryz.sizeOf9
 v9:=Tryz.zeroValue9
 t46:=Tryz.underlying236
 a46:=Tryz.isAgg236
 z46:=Tryz.sizeOf236
 v46:=Tryz.zeroValue236
 t51:=Tryz.underlying44
 a51:=Tryz.isAgg44
 z51:=Tryz.sizeOf44
 v51:=Tryz.zeroValue44
 t146:=Tryz.underlying364
 a146:=Tryz.isAgg364
 z146:=Tryz.sizeOf364
 v146:=Tryz.zeroValue364
 g1:=by kernel_rfl}
open Go.RowKit Go.Lib in
theorem Tryz.stringslite_Index_one (s:ByteArray)(c:UInt8)(w:World):
  Calls Tryz.prog 75 #[.string s,.string ⟨#[c]⟩] w fun e w'=>e= .returned (.int .i64 (Lib.indexByte s.data.toList c))∧w'=w:=Any.stringslite_Index_one Tryz.lays219 s c w
def Tryz.l76_ren :Go.Shelf.Ren:=⟨fun|6=>76|n=>n,fun|22=>176|23=>119|25=>122|3=>3|0=>0|4=>4|n=>n,fun|n=>n⟩
theorem Tryz.l76 :Go.Proofs.SlLaysH0.n6 Tryz.prog Tryz.l76_ren:={
 mixed:=by kernel_rfl
 f6:=⟨Tryz.f76.name,by decide,Tryz.func76.trans (congrArg some (by kernel_rfl))⟩
 t0:=Tryz.underlying0
 a0:=Tryz.isAgg0
 z0:=Tryz.sizeOf0
 v0:=Tryz.zeroValue0
 t3:=Tryz.underlying3
 a3:=Tryz.isAgg3
 z3:=Tryz.sizeOf3
 v3:=Tryz.zeroValue3
 t4:=Tryz.underlying4
 a4:=Tryz.isAgg4
 z4:=Tryz.sizeOf4
 v4:=Tryz.zeroValue4
 t22:=Tryz.underlying176
 a22:=Tryz.isAgg176
 z22:=Tryz.sizeOf176
 v22:=Tryz.zeroValue176
 t25:=Tryz.underlying122
 a25:=Tryz.isAgg122
 z25:=Tryz.sizeOf122
 v25:=Tryz.zeroValue122}
theorem Tryz.lays166 :Go.Proofs.Lays.n166 Tryz.prog Tryz.lays156_ren:={
 mixed:=by kernel_rfl
 f166:=Tryz.func37.trans (congrArg some (by kernel_rfl))
 f240:=Tryz.func66.trans (congrArg some (by kernel_rfl))
 f276:=Tryz.func110.trans (congrArg some (by kernel_rfl))
 t0:=Tryz.underlying0
 a0:=Tryz.isAgg0
 z0:=Tryz.sizeOf0
 v0:=Tryz.zeroValue0
 t3:=Tryz.underlying3
 a3:=Tryz.isAgg3
 z3:=Tryz.sizeOf3
 v3:=Tryz.zeroValue3
 t4:=Tryz.underlying4
 a4:=Tryz.isAgg4
 z4:=Tryz.sizeOf4
 v4:=Tryz.zeroValue4
 t9:=Tryz.underlying9
 a9:=Tryz.isAgg9
 z9:=Tryz.sizeOf9
 v9:=Tryz.zeroValue9
 t20:=Tryz.underlying20
 a20:=Tryz.isAgg20
 z20:=Tryz.sizeOf20
 v20:=Tryz.zeroValue20
 t37:=Tryz.underlying33
 a37:=Tryz.isAgg33
 z37:=Tryz.sizeOf33
 v37:=Tryz.zeroValue33
 t70:=Tryz.underlying107
 a70:=Tryz.isAgg107
 z70:=Tryz.sizeOf107
 v70:=Tryz.zeroValue107
 t72:=Tryz.underlying109
 a72:=Tryz.isAgg109
 z72:=Tryz.sizeOf109
 v72:=Tryz.zeroValue109
 t75:=Tryz.underlying112
 a75:=Tryz.isAgg112
 z75:=Tryz.sizeOf112
 v75:=Tryz.zeroValue112
 t164:=Tryz.underlying228
 a164:=Tryz.isAgg228
 z164:=Tryz.sizeOf228
 v164:=Tryz.zeroValue228}
theorem Tryz.Builder_WriteString (B b:Nat)(bs:List Value)(s:ByteArray)(w:World)(h:Lib.IsBuilder 109 5 B b bs w)(hlen:bs.length+s.size≤140737488355328)(hBw:B≤w.heap.size):
  Calls Tryz.prog 37 #[.pointer (some ⟨b,0,none⟩),.string s] w fun e w'=>e= .returned (.tuple #[.int .i64 s.size,.nilIface])∧(Lib.BuilderAt 109 5 B b (.pointer (some ⟨b,0,none⟩)) (bs++Lib.strCells s) w'∧Below B w w'):=Any.Builder_WriteString Tryz.lays166 Tryz.Builder_Extra_156 B b bs s w h hlen hBw
theorem Tryz.hidU {p:Prop}(h:p):Hid p:=h
def Tryz.encForm (x:ByteArray×Int×ByteArray):List Value:=[.string x.1,.int .i64 x.2.1,.string x.2.2]
theorem Tryz.pred43 (bk o c n:Nat)(w0:ByteArray)(B:Nat)(w:World)(hB:B<w.heap.size)(hcell:w.cell? ⟨B,0,none⟩=some (.slice (some ⟨bk,o,none⟩) (n+1) c))(hbk:bk<w.heap.size)(h0:w.cell? ⟨bk,o,none⟩=some (.string w0)):
  PredBelow Tryz.prog 43 #[.pointer (some ⟨B,0,none⟩)] (fun x=> .agg (Tryz.encForm x).toArray) (fun x=>x.1.toList == w0.toList) w:=fun W x hb=>by
 have hc:W.cell? ⟨B,0,none⟩=_:=(hb.cell (p:=⟨B,0,none⟩) hB).trans hcell
 have hc2:W.cell? ⟨bk,o,none⟩=_:=(hb.cell (p:=⟨bk,o,none⟩) hbk).trans h0
 have hBW:B<W.heap.size:=aOh hB hb.size
 have hne:B≠W.heap.size:=by omega
 have hbW:bk<W.heap.size:=aOh hbk hb.size
 have hne2:bk≠W.heap.size:=by omega
 show Calls Tryz.prog 43 #[.agg #[.string x.1,.int .i64 x.2.1,.string x.2.2],.pointer (some ⟨B,0,none⟩)] W _
 go_enter Tryz.func43,Tryz.ntmps43
 go_wp2
 go_region
 all_goals (go_wp2;go_ret;exact⟨rfl,by first|exact hb.alloc hb.size _|exact(hb.alloc hb.size _).drew⟩)
def Tryz.formV (x:ByteArray×Int×ByteArray):Value:= .agg #[.string x.1,.int .i64 x.2.1,.string x.2.2]
def Tryz.findV (p:ByteArray×Int×ByteArray→Bool):Value:=match Tryz.forms.find? p with
 |some x=> .tuple #[Tryz.formV x,.bool true]
 |none=> .tuple #[Tryz.formV (⟨#[]⟩,0,⟨#[]⟩),.bool false]
theorem Tryz.idx_forms (p:ByteArray×Int×ByteArray→Bool):(Lib.idxBy (fun _ y=>p y) (Tryz.forms.take 7) default= -1∧Tryz.forms.find? p=none)∨ ∃k:Nat,k<7∧Lib.idxBy (fun _ y=>p y) (Tryz.forms.take 7) default=(k:Int)∧Tryz.forms.find? p=some Tryz.forms[k]! :=by
 have e:Tryz.forms.take 7=Tryz.forms:=rfl
 rw[e]
 have gen: ∀(l:List (ByteArray×Int×ByteArray))(i:Nat),(Lib.idxByFrom (fun _ y=>p y) (default:ByteArray×Int×ByteArray) l i= -1∧l.find? p=none)∨ ∃k:Nat,k<l.length∧Lib.idxByFrom (fun _ y=>p y) (default:ByteArray×Int×ByteArray) l i=((i+k:Nat):Int)∧l.find? p=some l[k]! :=by
  intro l
  induction l with
  |nil=>intro i;exact .inl ⟨rfl,rfl⟩
  |cons x l ih=>
   intro i
   simp only[Lib.idxByFrom,aOA]
   by_cases hx:p x=true
   ·exact .inr ⟨0,by simp,by simp[hx],by simp[hx]⟩
   have hx:p x=false:=by simpa using hx
   rcases ih (i+1)with⟨h1,h2⟩|⟨k,h1,h2,h3⟩
   ·exact .inl ⟨by simp[hx,h1],by simp[hx,h2]⟩
   exact .inr ⟨k+1,by simp;omega,by simp[hx,h2];omega,by simp[hx,h3]⟩
 rcases gen Tryz.forms 0 with h|⟨k,h1,h2,h3⟩
 ·exact .inl h
 exact .inr ⟨k,h1,by rw[Nat.zero_add]at h2;exact h2,h3⟩
def Tryz.formsArr :Array Value:= #[Value.string ⟨#[115,116,101,112,115]⟩,.int .i64 1,.string ⟨#[78]⟩,.string ⟨#[98,114,97,110,99,104]⟩,.int .i64 2,.string ⟨#[65,66,78]⟩,.string ⟨#[119,97,116,99,104]⟩,.int .i64 3,.string ⟨#[65,78]⟩,.string ⟨#[102,97,117,108,116]⟩,.int .i64 4,.string ⟨#[65,66,78]⟩,.string ⟨#[100,101,108,97,121]⟩,.int .i64 5,.string ⟨#[65,78]⟩,.string ⟨#[115,101,110,100]⟩,.int .i64 6,.string ⟨#[65,66]⟩,.string ⟨#[98,121,116,101,115]⟩,.int .i64 7,.string ⟨#[65,78]⟩]
theorem Tryz.formsArr_at : ∀j,j<7→ ∀i,i<3→Tryz.formsArr[j*3+i]? =(Tryz.encForm Tryz.forms[j]!)[i]? :=by
 intro j hj i hi
 match j,hj with
 |0,_=>match i,hi with|0,_=>rfl|1,_=>rfl|2,_=>rfl
 |1,_=>match i,hi with|0,_=>rfl|1,_=>rfl|2,_=>rfl
 |2,_=>match i,hi with|0,_=>rfl|1,_=>rfl|2,_=>rfl
 |3,_=>match i,hi with|0,_=>rfl|1,_=>rfl|2,_=>rfl
 |4,_=>match i,hi with|0,_=>rfl|1,_=>rfl|2,_=>rfl
 |5,_=>match i,hi with|0,_=>rfl|1,_=>rfl|2,_=>rfl
 |6,_=>match i,hi with|0,_=>rfl|1,_=>rfl|2,_=>rfl
theorem Tryz.formsCells (w:World)(j:Nat)(hj:j<Tryz.forms.length)(i:Nat)(v:Value)(hi:(Tryz.encForm Tryz.forms[j]!)[i]? =some v):
  ((w.alloc (Obj.cells #[Value.string ⟨#[]⟩,.int .i64 0,.string ⟨#[]⟩] 119)).alloc (.cells Tryz.formsArr 119)).cell? ⟨w.heap.size+1,j*3+i,none⟩=some v:=by
 have hlt:i<3:=by
  have:=(aOq.1 hi).1
  simpa[Tryz.encForm]using this
 have hb:((w.alloc (Obj.cells #[Value.string ⟨#[]⟩,.int .i64 0,.string ⟨#[]⟩] 119)).alloc (.cells Tryz.formsArr 119)).heap[w.heap.size+1]? =some (.cells Tryz.formsArr 119 (0,0)):=by
  have:=heap_alloc_new (w.alloc (Obj.cells #[Value.string ⟨#[]⟩,.int .i64 0,.string ⟨#[]⟩] 119)) (.cells Tryz.formsArr 119)
  rwa[show(w.alloc (Obj.cells #[Value.string ⟨#[]⟩,.int .i64 0,.string ⟨#[]⟩] 119)).heap.size=w.heap.size+1 by simp]at this
 rw[Lib.cell_of_heap hb,Tryz.formsArr_at j hj i hlt,hi]
set_option maxHeartbeats 4000000 in
theorem Tryz.find_calls (p:ByteArray×Int×ByteArray→Bool)(g:Nat)(lb:Array Value)(eg: ∀args w,(callFunc g args).run Tryz.prog w= .ok (.enter g args) w)(w:World)
  (hp: ∀W,Below w.heap.size w W→PredBelow Tryz.prog g lb (fun x=> .agg (Tryz.encForm x).toArray) p W):
  Calls Tryz.prog 42 #[.func (.func g) #[] lb] w fun e w'=>e= .returned (Tryz.findV p)∧Below w.heap.size w w':=by
 have hB1:Below w.heap.size w (w.alloc (Obj.cells #[Value.string ⟨#[]⟩,.int .i64 0,.string ⟨#[]⟩] 119)):=(Below.refl _ w).alloc (aOm _) _
 have hC: ∀W,Below w.heap.size w W→w.heap.size+1<W.heap.size→(∀(j:Nat),j<Tryz.forms.length→ ∀(i:Nat) v,(Tryz.encForm Tryz.forms[j]!)[i]? =some v→W.cell? ⟨w.heap.size+1,0+j*3+i,none⟩=some v)→
   Calls Tryz.prog 76 #[.slice (some ⟨w.heap.size+1,0,none⟩) 7 7,.func (.func g) #[] lb] W fun e w'=>e= .returned (.int .i64 (Lib.idxBy (fun _ y=>p y) (Tryz.forms.take 7) default))∧Below W.heap.size W w':=fun W hb hl hc=>
  AnyQ.slices_IndexFunc Tryz.l76 3 Tryz.isAgg119 Tryz.sizeOf119 Tryz.encForm (fun _=>rfl) p g lb eg (w.heap.size+1) 0 7 7 Tryz.forms W (hp W hb) (by decide) (by omega) hl hc
 have hI:=Tryz.idx_forms p
 generalize Lib.idxBy (fun _ y=>p y) (Tryz.forms.take 7) default=r at hC hI
 have HC:=Tryz.hidU hC
 have HI:=Tryz.hidU hI
 clear hC hI hp
 go_enter Tryz.func42,Tryz.ntmps42
 go_wp2_with fail
 refine(HC.out _ ?_ ?_ ?_).mono ?_
 ·exact hB1.alloc (by simp) _
 ·simp
 ·intro j hj i v hi
  rw[Nat.zero_add]
  exact Tryz.formsCells w j hj i v hi
 rintro e w3 ⟨rfl,hb3⟩
 have hblk:w3.heap[w.heap.size]? =some (.cells #[Value.string ⟨#[]⟩,.int .i64 0,.string ⟨#[]⟩] 119 (0,0)):=(hb3.block _ (by simp;omega)).trans ((Below.heap_alloc _ _ _ (by simp)).trans (heap_alloc_new w _))
 have a0:w3.cell? ⟨w.heap.size,0,none⟩=some (.string ⟨#[]⟩):=by rw[Lib.cell_of_heap hblk];rfl
 have a1:w3.cell? ⟨w.heap.size,1,none⟩=some (.int .i64 0):=by rw[Lib.cell_of_heap hblk];rfl
 have a2:w3.cell? ⟨w.heap.size,2,none⟩=some (.string ⟨#[]⟩):=by rw[Lib.cell_of_heap hblk];rfl
 have f0:=Lib.frozen_of_heap hblk 0
 have f1:=Lib.frozen_of_heap hblk 1
 have f2:=Lib.frozen_of_heap hblk 2
 clear hblk
 have Z1: ∀s0 s1 s2,(((w3.setCell ⟨w.heap.size,0,none⟩ s0).setCell ⟨w.heap.size,1,none⟩ s1).setCell ⟨w.heap.size,2,none⟩ s2).cell? ⟨w.heap.size,1,none⟩=some s1:=fun s0 s1 s2=>by
  rw[World.cell?_setCell_other _ _ _ _ (by simp),World.cell?_setCell_same _ _ _ (u:= .int .i64 0) (by rw[World.cell?_setCell_other _ _ _ _ (by simp)];exact a1)]
 have Z2: ∀s0 s1 s2,(((w3.setCell ⟨w.heap.size,0,none⟩ s0).setCell ⟨w.heap.size,1,none⟩ s1).setCell ⟨w.heap.size,2,none⟩ s2).cell? ⟨w.heap.size,2,none⟩=some s2:=fun s0 s1 s2=>by
  rw[World.cell?_setCell_same _ _ _ (u:= .string ⟨#[]⟩) (by rw[World.cell?_setCell_other _ _ _ _ (by simp),World.cell?_setCell_other _ _ _ _ (by simp)];exact a2)]
 have HZ1:=Tryz.hidU Z1
 have HZ2:=Tryz.hidU Z2
 clear Z1 Z2
 have hb5:Below w.heap.size w w3:=(hB1.alloc (by simp) _).trans (hb3.mono (by simp;omega))
 rcases HI.out with⟨rfl,hf⟩|⟨k,hk,rfl,hf⟩
 ·go_wp2_with fail
  have z0:=World.cell?_setCell_same w3 ⟨w.heap.size,0,none⟩ (.string ⟨#[]⟩) a0
  have z1:=HZ1.out (.string ⟨#[]⟩) (.int .i64 0) (.string ⟨#[]⟩)
  have z2:=HZ2.out (.string ⟨#[]⟩) (.int .i64 0) (.string ⟨#[]⟩)
  refine bodyPost_ret (by simp[results,Tryz.results42,go_sem,z0,z1,z2];rfl) rfl ?_
  exact⟨by rw[Tryz.findV,hf];rfl,((hb5.setCell (p:=⟨w.heap.size,0,none⟩) (aOm _) _).setCell (p:=⟨w.heap.size,1,none⟩) (aOm _) _).setCell (p:=⟨w.heap.size,2,none⟩) (aOm _) _⟩
 have hcell: ∀i v,(Tryz.encForm Tryz.forms[k]!)[i]? =some v→w3.cell? ⟨w.heap.size+1,k*3+i,none⟩=some v:=fun i v hi=>(hb3.cell (p:=⟨w.heap.size+1,k*3+i,none⟩) (by simp)).trans (Tryz.formsCells w k (by show k<7;exact hk) i v hi)
 generalize Tryz.forms[k]! =y at hf hcell
 have g0:w3.cell? ⟨w.heap.size+1,k*3,none⟩=some (.string y.1):=hcell 0 _ rfl
 have g1:w3.cell? ⟨w.heap.size+1,k*3+1,none⟩=some (.int .i64 y.2.1):=hcell 1 _ rfl
 have g2:w3.cell? ⟨w.heap.size+1,k*3+2,none⟩=some (.string y.2.2):=hcell 2 _ rfl
 clear hcell
 go_wp2_with fail
 have z0:=World.cell?_setCell_same w3 ⟨w.heap.size,0,none⟩ (.string y.1) a0
 have z1:=HZ1.out (.string y.1) (.int .i64 y.2.1) (.string y.2.2)
 have z2:=HZ2.out (.string y.1) (.int .i64 y.2.1) (.string y.2.2)
 refine bodyPost_ret (by simp[results,Tryz.results42,go_sem,z0,z1,z2];rfl) rfl ?_
 exact⟨by rw[Tryz.findV,hf];rfl,((hb5.setCell (p:=⟨w.heap.size,0,none⟩) (aOm _) _).setCell (p:=⟨w.heap.size,1,none⟩) (aOm _) _).setCell (p:=⟨w.heap.size,2,none⟩) (aOm _) _⟩
def Tryz.actV (x:Tryz.A4):Value:= .agg #[.int .i64 x.kind,.int .i64 x.a,.int .i64 x.b,.int .i64 x.n]
theorem Tryz.forms_fields {x:ByteArray×Int×ByteArray}(h:x∈Tryz.forms):x.2.2.size≤3∧ ∀i (hi:i<x.2.2.size),x.2.2[i]=65∨x.2.2[i]=66∨x.2.2[i]=78:=by
 simp only[Tryz.forms,aOF,aOz,or_false]at h
 rcases h with rfl|rfl|rfl|rfl|rfl|rfl|rfl<;>exact⟨by decide,by decide⟩
theorem Tryz.field_calls (b:Nat)(c:Int)(w:World):Calls Tryz.prog 45 #[.pointer (some ⟨b,0,none⟩),.int .i32 c] w fun e w'=>e= .returned (.pointer (some ⟨b,if c=65 then 1 else if c=66 then 2 else 3,none⟩))∧w'=w:=by
 go_enter Tryz.func45,Tryz.ntmps45
 go_wp2
 all_goals (go_ret;simp_all)
theorem Tryz.set4 (V:World)(b:Nat)(u0 u1 u2 u3 s0 s1 s2 s3:Value)(h0:V.cell? ⟨b,0,none⟩=some u0)(h1:V.cell? ⟨b,1,none⟩=some u1)(h2:V.cell? ⟨b,2,none⟩=some u2)(h3:V.cell? ⟨b,3,none⟩=some u3):
  ∃W,W=(((V.setCell ⟨b,0,none⟩ s0).setCell ⟨b,1,none⟩ s1).setCell ⟨b,2,none⟩ s2).setCell ⟨b,3,none⟩ s3∧W.cell? ⟨b,0,none⟩=some s0∧W.cell? ⟨b,1,none⟩=some s1∧W.cell? ⟨b,2,none⟩=some s2∧W.cell? ⟨b,3,none⟩=some s3∧
   ∀B w,Below B w V→B≤b→Below B w W:=by
 refine⟨_,rfl, ?_, ?_, ?_, ?_, ?_⟩
 ·rw[World.cell?_setCell_other _ _ _ _ (by simp),World.cell?_setCell_other _ _ _ _ (by simp),World.cell?_setCell_other _ _ _ _ (by simp),World.cell?_setCell_same _ _ _ h0]
 ·rw[World.cell?_setCell_other _ _ _ _ (by simp),World.cell?_setCell_other _ _ _ _ (by simp),World.cell?_setCell_same _ _ _ (u:=u1) (by rw[World.cell?_setCell_other _ _ _ _ (by simp)];exact h1)]
 ·rw[World.cell?_setCell_other _ _ _ _ (by simp),World.cell?_setCell_same _ _ _ (u:=u2) (by rw[World.cell?_setCell_other _ _ _ _ (by simp),World.cell?_setCell_other _ _ _ _ (by simp)];exact h2)]
 ·rw[World.cell?_setCell_same _ _ _ (u:=u3) (by rw[World.cell?_setCell_other _ _ _ _ (by simp),World.cell?_setCell_other _ _ _ _ (by simp),World.cell?_setCell_other _ _ _ _ (by simp)];exact h3)]
 intro B w hb hB
 exact(((hb.setCell (p:=⟨b,0,none⟩) hB _).setCell (p:=⟨b,1,none⟩) hB _).setCell (p:=⟨b,2,none⟩) hB _).setCell (p:=⟨b,3,none⟩) hB _
set_option maxHeartbeats 8000000 in
set_option maxRecDepth 100000 in
theorem Tryz.act_calls (cO:ByteArray→Int×Bool)(bk o c:Nat)(w0:ByteArray)(ws:List ByteArray)(w:World)(hl:ws.length≤100000)(hbk:bk<w.heap.size)(hcells: ∀(j:Nat) x,(w0::ws)[j]? =some x→w.cell? ⟨bk,o+j,none⟩=some (.string x))
  (hnum: ∀s∈ws,∀W,Below w.heap.size w W→Calls Tryz.prog 44 #[.string s] W fun e w'=>e= .returned (.tuple #[.int .i64 (cO s).1,.bool (cO s).2])∧Below W.heap.size W w'):
  Calls Tryz.prog 23 #[.slice (some ⟨bk,o,none⟩) (ws.length+1) c] w fun e w'=>e= .returned (.tuple #[Tryz.actV (Tryz.actR cO w0 ws).1,.bool (Tryz.actR cO w0 ws).2])∧Below w.heap.size w w':=by
 have eg: ∀args w,(callFunc 43 args).run Tryz.prog w= .ok (.enter 43 args) w:=enters_of Tryz.func43 (by kernel_rfl) rfl
 have h0:w.cell? ⟨bk,o,none⟩=some (.string w0):=by simpa using hcells 0 w0 rfl
 have hfind:=fun(W:World)(h1:w.heap.size<W.heap.size)(h2:W.cell? ⟨w.heap.size,0,none⟩=some (.slice (some ⟨bk,o,none⟩) (ws.length+1) c))(h3:W.cell? ⟨bk,o,none⟩=some (.string w0))=>
  Tryz.find_calls (fun x=>x.1.toList == w0.toList) 43 #[.pointer (some ⟨w.heap.size,0,none⟩)] eg W (fun V hV=>Tryz.pred43 bk o c ws.length w0 w.heap.size V (aOh h1 hV.size) ((hV.cell (p:=⟨w.heap.size,0,none⟩) h1).trans h2)
   (aOh (Nat.lt_trans hbk h1) hV.size) ((hV.cell (p:=⟨bk,o,none⟩) (Nat.lt_trans hbk h1)).trans h3))
 have HF:=Tryz.hidU hfind
 have HC:=Tryz.hidU hcells
 have HN:=Tryz.hidU hnum
 clear hfind hcells hnum
 go_enter Tryz.func23,Tryz.ntmps23
 go_wp2_with fail
 refine(HF.out _ (by simp;omega) ?_ ?_).mono ?_
 ·rw[World.cell?_alloc_lt _ _ _ (by simp)];simp
 ·rw[World.cell?_alloc_lt _ _ _ (by simp;omega),World.cell?_alloc_lt _ _ _ hbk];exact h0
 rintro e w3 ⟨rfl,hb3⟩
 have bB:Below w.heap.size w w3:=(((Below.refl _ w).alloc (aOm _) _).alloc (by simp) _).trans (hb3.mono (by simp;omega))
 have hs3:w.heap.size+2≤w3.heap.size:=by have:=hb3.size;simp at this;omega
 have k0:w3.cell? ⟨w.heap.size,0,none⟩=some (.slice (some ⟨bk,o,none⟩) (ws.length+1) c):=(hb3.cell (p:=⟨w.heap.size,0,none⟩) (by simp;omega)).trans (by rw[World.cell?_alloc_lt _ _ _ (by simp)];simp)
 have hblk:w3.heap[w.heap.size+1]? =some (.cells #[Value.int .i64 0,.int .i64 0,.int .i64 0,.int .i64 0] 39 (0,0)):=(hb3.block _ (by simp)).trans (by
  have:=heap_alloc_new (w.alloc (Obj.cells #[Value.slice (some ⟨bk,o,none⟩) (ws.length+1) c] 25)) (Obj.cells #[Value.int .i64 0,.int .i64 0,.int .i64 0,.int .i64 0] 39)
  rwa[show(w.alloc (Obj.cells #[Value.slice (some ⟨bk,o,none⟩) (ws.length+1) c] 25)).heap.size=w.heap.size+1 by simp]at this)
 have hne0:w.heap.size≠w3.heap.size:=by omega
 have hne1:w.heap.size+1≠w3.heap.size:=by omega
 have hneb:bk≠w3.heap.size:=by omega
 have k0': ∀ob,(w3.alloc ob).cell? ⟨w.heap.size,0,none⟩=some (.slice (some ⟨bk,o,none⟩) (ws.length+1) c):=fun ob=>by rw[World.cell?_alloc_lt _ _ _ (by show w.heap.size<_;omega)];exact k0
 have hb1: ∀ob,(w3.alloc ob).heap[w.heap.size+1]? =some (.cells #[Value.int .i64 0,.int .i64 0,.int .i64 0,.int .i64 0] 39 (0,0)):=fun ob=>(Below.heap_alloc _ _ _ (by omega)).trans hblk
 have a0: ∀ob,(w3.alloc ob).cell? ⟨w.heap.size+1,0,none⟩=some (.int .i64 0):=fun ob=>by rw[Lib.cell_of_heap (hb1 ob)];rfl
 have a1: ∀ob,(w3.alloc ob).cell? ⟨w.heap.size+1,1,none⟩=some (.int .i64 0):=fun ob=>by rw[Lib.cell_of_heap (hb1 ob)];rfl
 have a2: ∀ob,(w3.alloc ob).cell? ⟨w.heap.size+1,2,none⟩=some (.int .i64 0):=fun ob=>by rw[Lib.cell_of_heap (hb1 ob)];rfl
 have a3: ∀ob,(w3.alloc ob).cell? ⟨w.heap.size+1,3,none⟩=some (.int .i64 0):=fun ob=>by rw[Lib.cell_of_heap (hb1 ob)];rfl
 have f0:=fun ob=>Lib.frozen_of_heap (hb1 ob) 0
 have f1:=fun ob=>Lib.frozen_of_heap (hb1 ob) 1
 have f2:=fun ob=>Lib.frozen_of_heap (hb1 ob) 2
 have f3:=fun ob=>Lib.frozen_of_heap (hb1 ob) 3
 clear hb1
 have HB:=Tryz.hidU hblk
 clear hblk hb3
 cases hf:Tryz.forms.find? (fun x=>x.1.toList == w0.toList) with
 |none=>
  have e1:Tryz.findV (fun x=>x.1.toList == w0.toList)= .tuple #[.agg #[.string ⟨#[]⟩,.int .i64 0,.string ⟨#[]⟩],.bool false]:=by unfold Tryz.findV;rw[hf];rfl
  rw[e1]
  go_wp2_with fail
  obtain⟨V,hV,z0,z1,z2,z3,hbV⟩:=Tryz.set4 _ (w.heap.size+1) _ _ _ _ (.int .i64 0) (.int .i64 0) (.int .i64 0) (.int .i64 0) (a0 _) (a1 _) (a2 _) (a3 _)
  rw[←hV]
  refine bodyPost_ret (by simp[results,Tryz.results23,go_sem,z0,z1,z2,z3];rfl) rfl ?_
  refine⟨by rw[show Tryz.actR cO w0 ws=(⟨0,0,0,0⟩,false) by unfold Tryz.actR;rw[hf]];rfl, ?_⟩
  exact hbV _ _ (bB.alloc (by omega) _) (by omega)
 |some x=>
  have hx3:=Tryz.forms_fields (aOy hf)
  have hlen:((ws.length:Int)+1 != 1+(x.2.2.size:Int))=true↔ws.length≠x.2.2.size:=by
   rw[bne_iff_ne]
   omega
  have e1:Tryz.findV (fun x=>x.1.toList == w0.toList)= .tuple #[.agg #[.string x.1,.int .i64 x.2.1,.string x.2.2],.bool true]:=by unfold Tryz.findV;rw[hf];rfl
  rw[e1]
  go_wp2_with fail
  ·obtain⟨V,hV,z0,z1,z2,z3,hbV⟩:=Tryz.set4 _ (w.heap.size+1) _ _ _ _ (.int .i64 0) (.int .i64 0) (.int .i64 0) (.int .i64 0) (a0 _) (a1 _) (a2 _) (a3 _)
   rw[←hV]
   refine bodyPost_ret (by simp[results,Tryz.results23,go_sem,z0,z1,z2,z3];rfl) rfl ?_
   refine⟨by rw[show Tryz.actR cO w0 ws=(⟨0,0,0,0⟩,false) by unfold Tryz.actR;rw[hf];simp only;rw[if_pos (hlen.1 ‹_›)]];rfl, ?_⟩
   exact hbV _ _ (bB.alloc (by omega) _) (by omega)
  have hlws:ws.length=x.2.2.size:=by
   have h1: ¬(ws.length≠x.2.2.size):=fun hc=>by have:=hlen.2 hc;simp_all
   omega
  have hne:((ws.length:Int)+1 != 1+(x.2.2.size:Int))=false:=by rw[bne_eq_false_iff_eq];omega
  rw[hne]
  have HX:=Tryz.hidU hx3
  have HLW:=Tryz.hidU hlws
  have hsz3:x.2.2.size≤3:=hx3.1
  clear hx3 hlen e1 hlws hne
  have b1:((w3.alloc (Obj.cells #[Value.string x.1,.int .i64 x.2.1,.string x.2.2] 119)).alloc (Obj.cells #[Value.int .i64 x.2.1,.int .i64 0,.int .i64 0,.int .i64 0] 39)).heap[w3.heap.size+1]? =some (.cells #[Value.int .i64 x.2.1,.int .i64 0,.int .i64 0,.int .i64 0] 39 (0,0)):=by
   have:=heap_alloc_new (w3.alloc (Obj.cells #[Value.string x.1,.int .i64 x.2.1,.string x.2.2] 119)) (Obj.cells #[Value.int .i64 x.2.1,.int .i64 0,.int .i64 0,.int .i64 0] 39)
   rwa[show(w3.alloc (Obj.cells #[Value.string x.1,.int .i64 x.2.1,.string x.2.2] 119)).heap.size=w3.heap.size+1 by simp]at this
  go_loopw [7] (fun _ wr=> ∃(k:Nat)(a:Tryz.A4),k≤x.2.2.size∧wr.heap[w3.heap.size+2]? =some (.stringIter x.2.2 k)∧wr.heap[w3.heap.size+1]? =some (.cells #[Value.int .i64 a.kind,.int .i64 a.a,.int .i64 a.b,.int .i64 a.n] 39 (0,0))∧
   wr.heap[w.heap.size+1]? =some (.cells #[Value.int .i64 0,.int .i64 0,.int .i64 0,.int .i64 0] 39 (0,0))∧wr.cell? ⟨w.heap.size,0,none⟩=some (.slice (some ⟨bk,o,none⟩) (ws.length+1) c)∧Hid (Below w.heap.size w wr)∧
   Hid (Tryz.runF cO (x.2.2.data.toList.drop k) (ws.drop k) a=Tryz.runF cO x.2.2.data.toList ws ⟨x.2.1,0,0,0⟩)) (fun _ wr=>x.2.2.size-wr.iterPos (w3.heap.size+2))
  case atStart=>
   refine⟨0,⟨x.2.1,0,0,0⟩,aOJ _, ?_, ?_, ?_, ?_,Tryz.hidU ?_,Tryz.hidU rfl⟩
   ·have:=World.iter_heap ((w3.alloc (Obj.cells #[Value.string x.1,.int .i64 x.2.1,.string x.2.2] 119)).alloc (Obj.cells #[Value.int .i64 x.2.1,.int .i64 0,.int .i64 0,.int .i64 0] 39)) x.2.2 0
    simpa using this
   ·exact(Below.heap_alloc _ _ _ (by simp)).trans b1
   ·exact(Below.heap_alloc _ _ _ (by simp;omega)).trans ((Below.heap_alloc _ _ _ (by simp;omega)).trans ((Below.heap_alloc _ _ _ (by omega)).trans HB.out))
   ·exact(World.cell?_alloc_lt _ _ _ (by simp;omega)).trans ((World.cell?_alloc_lt _ _ _ (by simp;omega)).trans ((World.cell?_alloc_lt _ _ _ (by show w.heap.size<_;omega)).trans k0))
   exact((bB.alloc (by omega) _).alloc (by simp;omega) _).alloc (by simp;omega) _
  case round=>
   clear a0 a1 a2 a3 f0 f1 f2 f3 b1 k0' k0 HB HF
   obtain⟨k,a,hk,hit,hab,hres,hpar,HW,HR⟩:=hrel
   have hmu:wr.iterPos (w3.heap.size+2)=k:=by simp[World.iterPos,hit]
   have q0:wr.cell? ⟨w.heap.size+1,0,none⟩=some (.int .i64 0):=by rw[Lib.cell_of_heap hres];rfl
   have q1:wr.cell? ⟨w.heap.size+1,1,none⟩=some (.int .i64 0):=by rw[Lib.cell_of_heap hres];rfl
   have q2:wr.cell? ⟨w.heap.size+1,2,none⟩=some (.int .i64 0):=by rw[Lib.cell_of_heap hres];rfl
   have q3:wr.cell? ⟨w.heap.size+1,3,none⟩=some (.int .i64 0):=by rw[Lib.cell_of_heap hres];rfl
   by_cases hp:k<x.2.2.size
   ·have hL:=HX.out.2 k hp
    have hkw:k<ws.length:=by have:=HLW.out;omega
    have h128:(x.2.2[k]'hp).toNat<128:=by rcases hL with h|h|h<;>rw[h]<;>decide
    have hnx: ∀ty,(Instr.next (.pointer (some ⟨w3.heap.size+2,0,none⟩)) true ty).run Tryz.prog wr=_:=fun ty=>Lib.run_next_ascii_at wr (w3.heap.size+2) x.2.2 k ty hit hp h128
    have it1:=Lib.iterAt_heap wr (w3.heap.size+2) x.2.2 k (k+1) hit
    have ab1:=(Lib.iterAt_other wr (w3.heap.size+2) (w3.heap.size+1) x.2.2 (k+1) (by omega)).trans hab
    have rs1:=(Lib.iterAt_other wr (w3.heap.size+2) (w.heap.size+1) x.2.2 (k+1) (by omega)).trans hres
    have sz1:=Lib.iterAt_size wr (w3.heap.size+2) x.2.2 (k+1)
    have bw1:=Lib.below_iterAt (B:=wr.heap.size) (k:=w3.heap.size+2) (Below.refl wr.heap.size wr)
    have pr1:(wr.iterAt (w3.heap.size+2) x.2.2 (k+1)).cell? ⟨w.heap.size,0,none⟩=some (.slice (some ⟨bk,o,none⟩) (ws.length+1) c):=by
     rw[←hpar];unfold World.cell?; rw[Lib.iterAt_other _ _ _ _ _ (by show w.heap.size≠_;omega)]
    have HW1:=Tryz.hidU (Lib.below_iterAt HW.out (k:=w3.heap.size+2) (by omega) x.2.2 (k+1))
    have hitlt:w3.heap.size+2<wr.heap.size:=(aOg.1 hit).1
    clear bw1 q0 q1 q2 q3 hit hab hres hpar HW
    generalize wr.iterAt (w3.heap.size+2) x.2.2 (k+1)=W1 at hnx it1 ab1 rs1 sz1 pr1 HW1
    obtain⟨wd,hwd⟩: ∃wd,ws[k]? =some wd:=⟨ws[k]'(by have:=HLW.out;omega),aOi (by have:=HLW.out;omega)⟩
    have hcw:W1.cell? ⟨bk,o+(1+k),none⟩=some (.string wd):=(HW1.out.cell (p:=⟨bk,o+(1+k),none⟩) hbk).trans (HC.out (1+k) wd (by rw[Nat.add_comm,aOt];exact hwd))
    have hdr:x.2.2.data.toList.drop k=x.2.2[k]::x.2.2.data.toList.drop (k+1):=by
     rw[aOk (by have:=Lib.size_eq x.2.2;omega)];rfl
    have hdw:ws.drop k=wd::ws.drop (k+1):=by
     have hlws:=HLW.out
     rw[aOk (by omega)]
     rw[aOi (by omega)]at hwd
     rw[aOl hwd]
    rw[hdr,hdw]at HR
    go_wp2_with fail
    refine(HN.out wd (aOE hwd) W1 HW1.out).mono ?_
    rintro e w2 ⟨rfl,hb2⟩
    have sz2:=hb2.size
    have it2:=(hb2.block (w3.heap.size+2) (by omega)).trans it1
    have ab2:=(hb2.block (w3.heap.size+1) (by omega)).trans ab1
    have rs2:=(hb2.block (w.heap.size+1) (by omega)).trans rs1
    have pr2:w2.cell? ⟨w.heap.size,0,none⟩=some (.slice (some ⟨bk,o,none⟩) (ws.length+1) c):=(hb2.cell (p:=⟨w.heap.size,0,none⟩) (by show w.heap.size<_;omega)).trans pr1
    have HW2:=Tryz.hidU (HW1.out.trans (hb2.mono (by omega)))
    clear hb2 it1 ab1 rs1 pr1 HW1
    have q0:w2.cell? ⟨w.heap.size+1,0,none⟩=some (.int .i64 0):=by rw[Lib.cell_of_heap rs2];rfl
    have q1:w2.cell? ⟨w.heap.size+1,1,none⟩=some (.int .i64 0):=by rw[Lib.cell_of_heap rs2];rfl
    have q2:w2.cell? ⟨w.heap.size+1,2,none⟩=some (.int .i64 0):=by rw[Lib.cell_of_heap rs2];rfl
    have q3:w2.cell? ⟨w.heap.size+1,3,none⟩=some (.int .i64 0):=by rw[Lib.cell_of_heap rs2];rfl
    cases hn:cO wd with|mk v ok=>
    cases ok with
    |false=>
     have f0:=Lib.frozen_of_heap rs2 0
     have f1:=Lib.frozen_of_heap rs2 1
     have f2:=Lib.frozen_of_heap rs2 2
     have f3:=Lib.frozen_of_heap rs2 3
     have hR:Tryz.runF cO x.2.2.data.toList ws ⟨x.2.1,0,0,0⟩=none:=by
      rw[←HR.out];simp only[Tryz.runF,hn];rfl
     clear rs2 ab2 it2
     go_wp2_with fail
     obtain⟨V,hV,z0,z1,z2,z3,hbV⟩:=Tryz.set4 _ (w.heap.size+1) _ _ _ _ (.int .i64 0) (.int .i64 0) (.int .i64 0) (.int .i64 0) q0 q1 q2 q3
     rw[←hV]
     refine bodyPost_ret (by simp[results,Tryz.results23,go_sem,z0,z1,z2,z3];rfl) rfl ?_
     refine⟨by rw[show Tryz.actR cO w0 ws=(⟨0,0,0,0⟩,false) by unfold Tryz.actR;rw[hf];simp only;rw[if_neg (by have:=HLW.out;omega),hR]];rfl, ?_⟩
     exact hbV _ _ HW2.out (by omega)
    |true=>
     have hR:Tryz.runF cO (x.2.2.data.toList.drop (k+1)) (ws.drop (k+1)) (Tryz.setF a x.2.2[k] v)=Tryz.runF cO x.2.2.data.toList ws ⟨x.2.1,0,0,0⟩:=by
      rw[←HR.out];simp only[Tryz.runF,hn,if_true]
     clear HR
     have f1:=Lib.frozen_of_heap ab2 1
     have f2:=Lib.frozen_of_heap ab2 2
     have f3:=Lib.frozen_of_heap ab2 3
     go_wp2_with fail
     refine(Tryz.field_calls (w3.heap.size+1) _ w2).mono ?_
     rintro e w4 ⟨rfl,he⟩
     subst he
     have p1:w4.cell? ⟨w3.heap.size+1,1,none⟩=some (.int .i64 a.a):=by rw[Lib.cell_of_heap ab2];rfl
     have p2:w4.cell? ⟨w3.heap.size+1,2,none⟩=some (.int .i64 a.b):=by rw[Lib.cell_of_heap ab2];rfl
     have p3:w4.cell? ⟨w3.heap.size+1,3,none⟩=some (.int .i64 a.n):=by rw[Lib.cell_of_heap ab2];rfl
     have it4: ∀i u,(w4.setCell ⟨w3.heap.size+1,i,none⟩ u).heap[w3.heap.size+2]? =some (.stringIter x.2.2 (k+1)):=fun i u=>(heap_setCell_other _ _ _ _ (by show w3.heap.size+2≠w3.heap.size+1;omega)).trans it2
     have rs4: ∀i u,(w4.setCell ⟨w3.heap.size+1,i,none⟩ u).heap[w.heap.size+1]? =_:=fun i u=>(heap_setCell_other _ _ _ _ (by show w.heap.size+1≠w3.heap.size+1;omega)).trans rs2
     have ab4: ∀i u,(w4.setCell ⟨w3.heap.size+1,i,none⟩ u).heap[w3.heap.size+1]? =_:=fun i u=>heap_setCell_same _ _ i _ _ u ab2
     have pr4: ∀i u,(w4.setCell ⟨w3.heap.size+1,i,none⟩ u).cell? ⟨w.heap.size,0,none⟩=_:=fun i u=>(World.cell?_setCell_other _ _ _ _ (by intro hc;injection hc with h1;omega)).trans pr2
     have HW4: ∀i u,Hid (Below w.heap.size w (w4.setCell ⟨w3.heap.size+1,i,none⟩ u)):=fun i u=>Tryz.hidU (HW2.out.setCell (p:=⟨w3.heap.size+1,i,none⟩) (by show w.heap.size≤w3.heap.size+1;omega) u)
     clear ab2 it2 rs2 pr2 q0 q1 q2 q3
     have HR2:=Tryz.hidU hR
     clear hR
     rcases hL with h|h|h<;>rw[h]at HR2⊢
     ·go_wp2_with fail
      go_roundw
      case rel=>exact⟨k+1,_,by omega,it4 _ _,ab4 _ _,rs4 _ _,pr4 _ _,HW4 _ _,HR2⟩
      case measure=>
       have:(w4.setCell ⟨w3.heap.size+1,1,none⟩ (.int .i64 v)).iterPos (w3.heap.size+2)=k+1:=by simp[World.iterPos,it4]
       rw[this,hmu];omega
     ·go_wp2_with fail
      go_roundw
      case rel=>exact⟨k+1,_,by omega,it4 _ _,ab4 _ _,rs4 _ _,pr4 _ _,HW4 _ _,HR2⟩
      case measure=>
       have:(w4.setCell ⟨w3.heap.size+1,2,none⟩ (.int .i64 v)).iterPos (w3.heap.size+2)=k+1:=by simp[World.iterPos,it4]
       rw[this,hmu];omega
     go_wp2_with fail
     go_roundw
     case rel=>exact⟨k+1,_,by omega,it4 _ _,ab4 _ _,rs4 _ _,pr4 _ _,HW4 _ _,HR2⟩
     case measure=>
      have:(w4.setCell ⟨w3.heap.size+1,3,none⟩ (.int .i64 v)).iterPos (w3.heap.size+2)=k+1:=by simp[World.iterPos,it4]
      rw[this,hmu];omega
   have hke:k=x.2.2.size:=by omega
   subst hke
   have hnx: ∀ty,(Instr.next (.pointer (some ⟨w3.heap.size+2,0,none⟩)) true ty).run Tryz.prog wr=_:=fun ty=>Lib.run_next_end_at wr (w3.heap.size+2) x.2.2 _ ty hit hp
   have p0:wr.cell? ⟨w3.heap.size+1,0,none⟩=some (.int .i64 a.kind):=by rw[Lib.cell_of_heap hab];rfl
   have p1:wr.cell? ⟨w3.heap.size+1,1,none⟩=some (.int .i64 a.a):=by rw[Lib.cell_of_heap hab];rfl
   have p2:wr.cell? ⟨w3.heap.size+1,2,none⟩=some (.int .i64 a.b):=by rw[Lib.cell_of_heap hab];rfl
   have p3:wr.cell? ⟨w3.heap.size+1,3,none⟩=some (.int .i64 a.n):=by rw[Lib.cell_of_heap hab];rfl
   have f0:=Lib.frozen_of_heap hres 0
   have f1:=Lib.frozen_of_heap hres 1
   have f2:=Lib.frozen_of_heap hres 2
   have f3:=Lib.frozen_of_heap hres 3
   have hR:Tryz.runF cO x.2.2.data.toList ws ⟨x.2.1,0,0,0⟩=some a:=by
    rw[←HR.out,show x.2.2.data.toList.drop x.2.2.size=[]from aOu (aOI (Lib.size_eq x.2.2).symm)];rfl
   clear hres hab hit
   go_wp2_with fail
   obtain⟨V,hV,z0,z1,z2,z3,hbV⟩:=Tryz.set4 _ (w.heap.size+1) _ _ _ _ (.int .i64 a.kind) (.int .i64 a.a) (.int .i64 a.b) (.int .i64 a.n) q0 q1 q2 q3
   rw[←hV]
   refine bodyPost_ret (by simp[results,Tryz.results23,go_sem,z0,z1,z2,z3];rfl) rfl ?_
   refine⟨by rw[show Tryz.actR cO w0 ws=(a,true) by unfold Tryz.actR;rw[hf];simp only;rw[if_neg (by have:=HLW.out;omega),hR]];rfl, ?_⟩
   exact hbV _ _ HW.out (by omega)
theorem Tryz.pred49 (B:Nat)(kd:Int)(w:World)(hB:B<w.heap.size)(hcell:w.cell? ⟨B,0,none⟩=some (.int .i64 kd)):
  PredBelow Tryz.prog 49 #[.pointer (some ⟨B,0,none⟩)] (fun x=> .agg (Tryz.encForm x).toArray) (fun x=>x.2.1 == kd) w:=fun W x hb=>by
 have hc:W.cell? ⟨B,0,none⟩=_:=(hb.cell (p:=⟨B,0,none⟩) hB).trans hcell
 have hBW:B<W.heap.size:=aOh hB hb.size
 have hne:B≠W.heap.size:=by omega
 show Calls Tryz.prog 49 #[.agg #[.string x.1,.int .i64 x.2.1,.string x.2.2],.pointer (some ⟨B,0,none⟩)] W _
 go_enter Tryz.func49,Tryz.ntmps49
 go_wp2
 all_goals (go_ret;exact⟨rfl,by first|exact hb.alloc hb.size _|exact(hb.alloc hb.size _).drew⟩)
theorem Tryz.forms_name {x:ByteArray×Int×ByteArray}(h:x∈Tryz.forms):x.1.size≤6:=by
 simp only[Tryz.forms,aOF,aOz,or_false]at h
 rcases h with rfl|rfl|rfl|rfl|rfl|rfl|rfl<;>decide
set_option maxHeartbeats 8000000 in
set_option maxRecDepth 100000 in
theorem Tryz.format_calls (itoa:Int→ByteArray)(a:Tryz.A4)(w:World)
  (hlen: ∀n:Int,-999999999≤n→n≤999999999→(itoa n).size≤20)
  (hitoa: ∀n:Int,-999999999≤n→n≤999999999→ ∀W,Below w.heap.size w W→Calls Tryz.prog 38 #[.int .i64 n] W fun e w'=>e= .returned (.string (itoa n))∧Below W.heap.size W w'):
  Calls Tryz.prog 28 #[.agg #[.int .i64 a.kind,.int .i64 a.a,.int .i64 a.b,.int .i64 a.n]] w fun e w'=>e= .returned (.tuple #[.string (Tryz.formatR itoa a).1,.bool (Tryz.formatR itoa a).2])∧Below w.heap.size w w':=by
 have eg: ∀args w,(callFunc 49 args).run Tryz.prog w= .ok (.enter 49 args) w:=enters_of Tryz.func49 (by kernel_rfl) rfl
 have hfind:=fun(W:World)(h1:w.heap.size<W.heap.size)(h2:W.cell? ⟨w.heap.size,0,none⟩=some (.int .i64 a.kind))=>
  Tryz.find_calls (fun x=>x.2.1 == a.kind) 49 #[.pointer (some ⟨w.heap.size,0,none⟩)] eg W (fun V hV=>Tryz.pred49 w.heap.size a.kind V (Nat.lt_of_lt_of_le h1 hV.size) ((hV.cell (p:=⟨w.heap.size,0,none⟩) h1).trans h2))
 have HF:=Tryz.hidU hfind
 have HI:=Tryz.hidU hitoa
 have HLN:=Tryz.hidU hlen
 clear hfind hitoa hlen
 go_enter Tryz.func28,Tryz.ntmps28
 go_wp2_with fail
 refine(HF.out _ (by simp) ?_).mono ?_
 ·simp
 rintro e w3 ⟨rfl,hb3⟩
 have bB:Below w.heap.size w w3:=((Below.refl _ w).alloc (Nat.le_refl _) _).trans (hb3.mono (by simp))
 have hs3:w.heap.size+1≤w3.heap.size:=by have:=hb3.size;simp at this;omega
 have hblk:w3.heap[w.heap.size]? =some (.cells #[Value.int .i64 a.kind,.int .i64 a.a,.int .i64 a.b,.int .i64 a.n] 39 (0,0)):=(hb3.block _ (by simp)).trans (heap_alloc_new w _)
 have hne0:w.heap.size≠w3.heap.size:=by omega
 clear hb3
 have HB:=Tryz.hidU hblk
 clear hblk
 cases hf:Tryz.forms.find? (fun x=>x.2.1 == a.kind) with
 |none=>
  have e1:Tryz.findV (fun x=>x.2.1 == a.kind)= .tuple #[.agg #[.string ⟨#[]⟩,.int .i64 0,.string ⟨#[]⟩],.bool false]:=by unfold Tryz.findV;rw[hf];rfl
  rw[e1]
  go_wp2_with fail
  go_ret2
  exact⟨by rw[show Tryz.formatR itoa a=(⟨#[]⟩,false) by unfold Tryz.formatR;rw[hf]];rfl,bB.alloc (by omega) _⟩
 |some x=>
  have hx3:=Tryz.forms_fields (List.mem_of_find?_eq_some hf)
  have e1:Tryz.findV (fun x=>x.2.1 == a.kind)= .tuple #[.agg #[.string x.1,.int .i64 x.2.1,.string x.2.2],.bool true]:=by unfold Tryz.findV;rw[hf];rfl
  rw[e1]
  have HX:=Tryz.hidU hx3
  have hsz3:x.2.2.size≤3:=hx3.1
  clear hx3 e1
  go_wp2_with fail
  go_loopw [6] (fun i wr=> ∃(k:Nat)(b:Tryz.A4)(aV:ByteArray),i= .string aV∧k≤x.2.2.size∧aV.size≤10+21*k∧wr.heap[w3.heap.size+1]? =some (.stringIter x.2.2 k)∧wr.heap[w.heap.size]? =some (.cells #[Value.int .i64 b.kind,.int .i64 b.a,.int .i64 b.b,.int .i64 b.n] 39 (0,0))∧
   Hid (Below w.heap.size w wr)∧Hid (Tryz.runG itoa (x.2.2.data.toList.drop k) b aV=Tryz.runG itoa x.2.2.data.toList a x.1)) (fun _ wr=>x.2.2.size-wr.iterPos (w3.heap.size+1))
  case atStart=>
   refine⟨0,a,x.1,rfl,Nat.zero_le _,by have:=Tryz.forms_name (List.mem_of_find?_eq_some hf);omega, ?_, ?_,Tryz.hidU ?_,Tryz.hidU rfl⟩
   ·have:=World.iter_heap (w3.alloc (Obj.cells #[Value.string x.1,.int .i64 x.2.1,.string x.2.2] 119)) x.2.2 0
    simpa using this
   ·exact(Below.heap_alloc _ _ _ (by simp;omega)).trans ((Below.heap_alloc _ _ _ (by omega)).trans HB.out)
   exact(bB.alloc (by omega) _).alloc (by simp;omega) _
  case round=>
   clear HB HF
   obtain⟨k,b,aV,rfl,hk,hls,hit,hab,HW,HR⟩:=hrel
   have hmu:wr.iterPos (w3.heap.size+1)=k:=by simp[World.iterPos,hit]
   by_cases hp:k<x.2.2.size
   ·have hL:=HX.out.2 k hp
    have h128:(x.2.2[k]'hp).toNat<128:=by rcases hL with h|h|h<;>rw[h]<;>decide
    have hnx: ∀ty,(Instr.next (.pointer (some ⟨w3.heap.size+1,0,none⟩)) true ty).run Tryz.prog wr=_:=fun ty=>Lib.run_next_ascii_at wr (w3.heap.size+1) x.2.2 k ty hit hp h128
    have it1:=Lib.iterAt_heap wr (w3.heap.size+1) x.2.2 k (k+1) hit
    have ab1:=(Lib.iterAt_other wr (w3.heap.size+1) w.heap.size x.2.2 (k+1) (by omega)).trans hab
    have sz1:=Lib.iterAt_size wr (w3.heap.size+1) x.2.2 (k+1)
    have HW1:=Tryz.hidU (Lib.below_iterAt HW.out (k:=w3.heap.size+1) (by omega) x.2.2 (k+1))
    have hitlt:w3.heap.size+1<wr.heap.size:=(Array.getElem?_eq_some_iff.1 hit).1
    clear hit hab HW
    generalize wr.iterAt (w3.heap.size+1) x.2.2 (k+1)=W1 at hnx it1 ab1 sz1 HW1
    have hdr:x.2.2.data.toList.drop k=x.2.2[k]::x.2.2.data.toList.drop (k+1):=by
     rw[List.drop_eq_getElem_cons (by have:=Lib.size_eq x.2.2;omega)];rfl
    rw[hdr]at HR
    have p1:W1.cell? ⟨w.heap.size,1,none⟩=some (.int .i64 b.a):=by rw[Lib.cell_of_heap ab1];rfl
    have p2:W1.cell? ⟨w.heap.size,2,none⟩=some (.int .i64 b.b):=by rw[Lib.cell_of_heap ab1];rfl
    have p3:W1.cell? ⟨w.heap.size,3,none⟩=some (.int .i64 b.n):=by rw[Lib.cell_of_heap ab1];rfl
    go_wp2_with fail
    refine(Tryz.field_calls w.heap.size _ W1).mono ?_
    rintro e w4 ⟨rfl,he⟩
    subst he
    rcases hL with h|h|h<;>rw[h]at HR⊢
    ·by_cases hr:b.a < -999999999∨999999999<b.a
     ·have hF0:=Tryz.hidU (show Tryz.formatR itoa a=(⟨#[]⟩,false) by unfold Tryz.formatR;rw[hf];simp only;rw[←HR.out];unfold Tryz.runG;rw[if_pos (show Tryz.getF b 65 < -999999999∨999999999<Tryz.getF b 65 from hr)])
      clear HR
      go_wp2_with fail
      all_goals (go_ret2;refine⟨?_,HW1.out⟩;rw[hF0.out];rfl)
     have hlo: -999999999≤b.a:=by omega
     have hhi:b.a≤999999999:=by omega
     have hz:=HLN.out b.a hlo hhi
     have hR:Tryz.runG itoa (x.2.2.data.toList.drop (k+1)) (Tryz.setF b 65 0) (aV++(⟨#[32]⟩++itoa b.a))=Tryz.runG itoa x.2.2.data.toList a x.1:=by
      rw[←HR.out]
      conv=>rhs;unfold Tryz.runG
      rw[if_neg (show¬(Tryz.getF b 65 < -999999999∨999999999<Tryz.getF b 65)from hr)]
      rfl
     have HR2:=Tryz.hidU hR
     clear hr hR HR
     go_wp2_with fail
     refine(HI.out b.a hlo hhi w4 HW1.out).mono ?_
     rintro e w5 ⟨rfl,hb5⟩
     have sz5:=hb5.size
     have it5:=(hb5.block (w3.heap.size+1) (by omega)).trans it1
     have ab5:=(hb5.block w.heap.size (by omega)).trans ab1
     have HW5:=Tryz.hidU (HW1.out.trans (hb5.mono (by omega)))
     clear hb5 it1 ab1 HW1 p1 p2 p3
     have f1:=Lib.frozen_of_heap ab5 1
     have p1:w5.cell? ⟨w.heap.size,1,none⟩=some (.int .i64 b.a):=by rw[Lib.cell_of_heap ab5];rfl
     have it6:=(heap_setCell_other w5 ⟨w.heap.size,1,none⟩ (w3.heap.size+1) (.int .i64 0) (by show w3.heap.size+1≠w.heap.size;omega)).trans it5
     have ab6:=heap_setCell_same w5 w.heap.size 1 _ _ (.int .i64 0) ab5
     have HW6:=Tryz.hidU (HW5.out.setCell (p:=⟨w.heap.size,1,none⟩) (Nat.le_refl _) (.int .i64 0))
     have hls2:(aV++(⟨#[32]⟩++itoa b.a)).size≤10+21*(k+1):=by
      rw[ByteArray.size_append,ByteArray.size_append]
      have:(⟨#[32]⟩:ByteArray).size=1:=rfl
      omega
     clear it5 ab5 HW5
     go_wp2_with fail
     all_goals first
      |(exfalso;omega)
      |(go_roundw
        case rel=>exact⟨k+1,Tryz.setF b 65 0,_,rfl,by omega,hls2,it6,ab6,HW6,HR2⟩
        case measure=>
         have:(w5.setCell ⟨w.heap.size,1,none⟩ (.int .i64 0)).iterPos (w3.heap.size+1)=k+1:=by simp[World.iterPos,it6]
         rw[this,hmu];omega)
    ·by_cases hr:b.b < -999999999∨999999999<b.b
     ·have hF0:=Tryz.hidU (show Tryz.formatR itoa a=(⟨#[]⟩,false) by unfold Tryz.formatR;rw[hf];simp only;rw[←HR.out];unfold Tryz.runG;rw[if_pos (show Tryz.getF b 66 < -999999999∨999999999<Tryz.getF b 66 from hr)])
      clear HR
      go_wp2_with fail
      all_goals (go_ret2;refine⟨?_,HW1.out⟩;rw[hF0.out];rfl)
     have hlo: -999999999≤b.b:=by omega
     have hhi:b.b≤999999999:=by omega
     have hz:=HLN.out b.b hlo hhi
     have hR:Tryz.runG itoa (x.2.2.data.toList.drop (k+1)) (Tryz.setF b 66 0) (aV++(⟨#[32]⟩++itoa b.b))=Tryz.runG itoa x.2.2.data.toList a x.1:=by
      rw[←HR.out]
      conv=>rhs;unfold Tryz.runG
      rw[if_neg (show¬(Tryz.getF b 66 < -999999999∨999999999<Tryz.getF b 66)from hr)]
      rfl
     have HR2:=Tryz.hidU hR
     clear hr hR HR
     go_wp2_with fail
     refine(HI.out b.b hlo hhi w4 HW1.out).mono ?_
     rintro e w5 ⟨rfl,hb5⟩
     have sz5:=hb5.size
     have it5:=(hb5.block (w3.heap.size+1) (by omega)).trans it1
     have ab5:=(hb5.block w.heap.size (by omega)).trans ab1
     have HW5:=Tryz.hidU (HW1.out.trans (hb5.mono (by omega)))
     clear hb5 it1 ab1 HW1 p1 p2 p3
     have f1:=Lib.frozen_of_heap ab5 2
     have p1:w5.cell? ⟨w.heap.size,2,none⟩=some (.int .i64 b.b):=by rw[Lib.cell_of_heap ab5];rfl
     have it6:=(heap_setCell_other w5 ⟨w.heap.size,2,none⟩ (w3.heap.size+1) (.int .i64 0) (by show w3.heap.size+1≠w.heap.size;omega)).trans it5
     have ab6:=heap_setCell_same w5 w.heap.size 2 _ _ (.int .i64 0) ab5
     have HW6:=Tryz.hidU (HW5.out.setCell (p:=⟨w.heap.size,2,none⟩) (Nat.le_refl _) (.int .i64 0))
     have hls2:(aV++(⟨#[32]⟩++itoa b.b)).size≤10+21*(k+1):=by
      rw[ByteArray.size_append,ByteArray.size_append]
      have:(⟨#[32]⟩:ByteArray).size=1:=rfl
      omega
     clear it5 ab5 HW5
     go_wp2_with fail
     all_goals first
      |(exfalso;omega)
      |(go_roundw
        case rel=>exact⟨k+1,Tryz.setF b 66 0,_,rfl,by omega,hls2,it6,ab6,HW6,HR2⟩
        case measure=>
         have:(w5.setCell ⟨w.heap.size,2,none⟩ (.int .i64 0)).iterPos (w3.heap.size+1)=k+1:=by simp[World.iterPos,it6]
         rw[this,hmu];omega)
    by_cases hr:b.n < -999999999∨999999999<b.n
    ·have hF0:=Tryz.hidU (show Tryz.formatR itoa a=(⟨#[]⟩,false) by unfold Tryz.formatR;rw[hf];simp only;rw[←HR.out];unfold Tryz.runG;rw[if_pos (show Tryz.getF b 78 < -999999999∨999999999<Tryz.getF b 78 from hr)])
     clear HR
     go_wp2_with fail
     all_goals (go_ret2;refine⟨?_,HW1.out⟩;rw[hF0.out];rfl)
    have hlo: -999999999≤b.n:=by omega
    have hhi:b.n≤999999999:=by omega
    have hz:=HLN.out b.n hlo hhi
    have hR:Tryz.runG itoa (x.2.2.data.toList.drop (k+1)) (Tryz.setF b 78 0) (aV++(⟨#[32]⟩++itoa b.n))=Tryz.runG itoa x.2.2.data.toList a x.1:=by
     rw[←HR.out]
     conv=>rhs;unfold Tryz.runG
     rw[if_neg (show¬(Tryz.getF b 78 < -999999999∨999999999<Tryz.getF b 78)from hr)]
     rfl
    have HR2:=Tryz.hidU hR
    clear hr hR HR
    go_wp2_with fail
    refine(HI.out b.n hlo hhi w4 HW1.out).mono ?_
    rintro e w5 ⟨rfl,hb5⟩
    have sz5:=hb5.size
    have it5:=(hb5.block (w3.heap.size+1) (by omega)).trans it1
    have ab5:=(hb5.block w.heap.size (by omega)).trans ab1
    have HW5:=Tryz.hidU (HW1.out.trans (hb5.mono (by omega)))
    clear hb5 it1 ab1 HW1 p1 p2 p3
    have f1:=Lib.frozen_of_heap ab5 3
    have p1:w5.cell? ⟨w.heap.size,3,none⟩=some (.int .i64 b.n):=by rw[Lib.cell_of_heap ab5];rfl
    have it6:=(heap_setCell_other w5 ⟨w.heap.size,3,none⟩ (w3.heap.size+1) (.int .i64 0) (by show w3.heap.size+1≠w.heap.size;omega)).trans it5
    have ab6:=heap_setCell_same w5 w.heap.size 3 _ _ (.int .i64 0) ab5
    have HW6:=Tryz.hidU (HW5.out.setCell (p:=⟨w.heap.size,3,none⟩) (Nat.le_refl _) (.int .i64 0))
    have hls2:(aV++(⟨#[32]⟩++itoa b.n)).size≤10+21*(k+1):=by
     rw[ByteArray.size_append,ByteArray.size_append]
     have:(⟨#[32]⟩:ByteArray).size=1:=rfl
     omega
    clear it5 ab5 HW5
    go_wp2_with fail
    all_goals first
     |(exfalso;omega)
     |(go_roundw
       case rel=>exact⟨k+1,Tryz.setF b 78 0,_,rfl,by omega,hls2,it6,ab6,HW6,HR2⟩
       case measure=>
        have:(w5.setCell ⟨w.heap.size,3,none⟩ (.int .i64 0)).iterPos (w3.heap.size+1)=k+1:=by simp[World.iterPos,it6]
        rw[this,hmu];omega)
   have hke:k=x.2.2.size:=by omega
   subst hke
   have hnx: ∀ty,(Instr.next (.pointer (some ⟨w3.heap.size+1,0,none⟩)) true ty).run Tryz.prog wr=_:=fun ty=>Lib.run_next_end_at wr (w3.heap.size+1) x.2.2 _ ty hit hp
   have p1:wr.cell? ⟨w.heap.size,1,none⟩=some (.int .i64 b.a):=by rw[Lib.cell_of_heap hab];rfl
   have p2:wr.cell? ⟨w.heap.size,2,none⟩=some (.int .i64 b.b):=by rw[Lib.cell_of_heap hab];rfl
   have p3:wr.cell? ⟨w.heap.size,3,none⟩=some (.int .i64 b.n):=by rw[Lib.cell_of_heap hab];rfl
   have hR:Tryz.runG itoa x.2.2.data.toList a x.1=some (aV,b):=by
    rw[←HR.out,show x.2.2.data.toList.drop x.2.2.size=[]from List.drop_eq_nil_of_le (Nat.le_of_eq (Lib.size_eq x.2.2).symm)];rfl
   clear hab hit
   have hF:Tryz.formatR itoa a=if b.a≠0∨b.b≠0∨b.n≠0 then(⟨#[]⟩,false)else(aV++⟨#[10]⟩,true):=by unfold Tryz.formatR;rw[hf];simp only;rw[hR]
   have HFo:=Tryz.hidU hF
   clear hF hR HR hf
   go_wp2_with fail
   all_goals first
    |omega
    |(go_ret2
      refine⟨?_,HW.out⟩
      rw[HFo.out]
      first
       |(rw[if_pos (by simp_all)];rfl)
       |(rw[if_neg (by simp_all)];rfl))
end Go.Proofs
namespace Go.Vm
open Go
theorem aGi {P:Program} {f:FuncId} {fn:Func} {args:List V} {s:ByteArray} (hf:P.funcs[f]? =some fn) (hb:fn.body.isNone=false) (hn:(fn.name == "runtime.NumGoroutine")=false)
  (hc: ∀(X:Nat→Prop)(w:World)(vs:List Value),VCells X [] w args vs→Calls P f vs.toArray w fun e w'=>e= .returned (.string s)∧RowKit.Below w.heap.size w w'):Fn P f [] args (eS s) []:=by
 intro A M w vs H hargs
 obtain rfl:M=[]:=aOo H.len
 refine .inl ⟨kC hf hb hn _ _,(hc _ _ _ hargs).mono ?_⟩
 rintro e w' ⟨he,hB⟩
 have sh: ∀g,g<w.heap.size→w'.shape? g=w.shape? g:=fun g hg=>by unfold World.shape?; rw[hB.block g hg]
 have lt: ∀g sh,w.shape? g=some sh→g<w.heap.size:=fun g s h=>by
  rcases Nat.lt_or_ge g w.heap.size with hl|hl
  ·exact hl
  unfold World.shape? at h;rw[aOv hl]at h;cases h
 have nl: ∀g,¬bN [] [] g:=fun g h=>by obtain⟨b,B,hb,_⟩:=h;simp at hb
 have hE:Ext (bN [] []) w w':=⟨hB.os,hB.tape,hB.output,hB.size,fun g hg _=>hB.block g hg,fun g s h=>(sh g (lt g s h)).trans h,fun g hg h=>(sh g hg).trans h⟩
 refine⟨_,he,[],⟨aOr _,⟨rfl,fun g hg=>aOh (H.alt g hg) hB.size,by simp,by simp,H.glob.grow hE fun g _ h=>h⟩,hE,fun g _ h=>h⟩,by unfold VR;rfl⟩
theorem aDn {X:Nat→Prop}{w:World}{α:Type}(E:α→Value)(h1: ∀x,(E x).cells= #[E x]): ∀(l:List α)(bk o:Nat),VRow X [] w 1 (l.map fun x=> .sc (E x)) ⟨bk,o,none⟩→ ∀(j:Nat) x,l[j]? =some x→w.cell? ⟨bk,o+j,none⟩=some (E x)
 | [],_,_,_,j,x,hj=>by simp at hj
 |y::l,bk,o,h,j,x,hj=>by
  simp only[List.map_cons]at h
  unfold VRow at h
  obtain⟨⟨v,hv,hs,hl⟩,hr⟩:=h
  unfold VR at hv
  subst hv
  rw[h1]at hl
  cases j with
  |zero=>
   simp only[List.getElem?_cons_zero,aOH]at hj
   subst hj
   exact hl 0 (E y) rfl
  |succ j=>
   simp only[aOt]at hj
   have e:(⟨bk,o,none⟩:Addr).add 1=⟨bk,o+1,none⟩:=rfl
   rw[e]at hr
   rw[show o+(j+1)=o+1+j by omega]
   exact aDn E h1 l bk (o+1) hr j x hj
theorem aED {X:Nat→Prop}{w:World}{α:Type}(E:α→Value)(h1: ∀x,(E x).cells= #[E x]){l:List α}{b:Option Bool}{v:Value}(h:VR X [] w (.row b 1 (l.map fun x=> .sc (E x))) v):
  (l=[]∧ ∃a c,v= .slice a 0 c)∨ ∃bk o c,v= .slice (some ⟨bk,o,none⟩) l.length c∧l.length≤c∧bk<w.heap.size∧ ∀(j:Nat) x,l[j]? =some x→w.cell? ⟨bk,o+j,none⟩=some (E x):=by
 unfold VR at h
 obtain⟨a,cap,hv,hc,_,_,_,hr⟩:=h
 rw[aOB]at hv hc
 cases l with
 |nil=>exact .inl ⟨rfl,a,cap,hv⟩
 |cons x l=>
  obtain⟨ad,ha,_,_,hsp,hrow⟩:=hr (by simp)
  obtain⟨bk,o,sp⟩:=ad
  simp only at hsp
  subst hsp ha
  exact .inr ⟨bk,o,cap,hv,hc,aAW hrow (by omega) (by simp),aDn E h1 _ bk o hrow⟩
theorem gI {w w':World}(hB:RowKit.Below w.heap.size w w'):Ext (fun _=>False) w w':=by
 have sh: ∀g,g<w.heap.size→w'.shape? g=w.shape? g:=fun g hg=>by unfold World.shape?; rw[hB.block g hg]
 have lt: ∀g sh,w.shape? g=some sh→g<w.heap.size:=fun g s h=>by
  rcases Nat.lt_or_ge g w.heap.size with hl|hl
  ·exact hl
  unfold World.shape? at h;rw[aOv hl]at h;cases h
 exact⟨hB.os,hB.tape,hB.output,hB.size,fun g hg _=>hB.block g hg,fun g s h=>(sh g (lt g s h)).trans h,fun g hg h=>(sh g hg).trans h⟩
theorem mF {P:Program} {f:FuncId} {fn:Func} {args:List V} {r:V} {v0:Value} (hf:P.funcs[f]? =some fn) (hb:fn.body.isNone=false) (hn:(fn.name == "runtime.NumGoroutine")=false) (hv: ∀(X:Nat→Prop) (w:World),VR X [] w r v0)
  (hc: ∀(X:Nat→Prop)(w:World)(vs:List Value),(∀g,X g→g<w.heap.size)→Globs X w→VCells X [] w args vs→Calls P f vs.toArray w fun e w'=>e= .returned v0∧RowKit.Below w.heap.size w w'):Fn P f [] args r []:=by
 intro A M w vs H hargs
 obtain rfl:M=[]:=aOo H.len
 refine .inl ⟨kC hf hb hn _ _,(hc _ _ _ (fun g hg=>H.lt hg) H.glob hargs).mono ?_⟩
 rintro e w' ⟨he,hB⟩
 have hE:Ext (bN [] []) w w':=(gI hB).mono fun _ _ h=>h.elim
 exact⟨_,he,[],⟨aOr _,⟨rfl,fun g hg=>aOh (H.alt g hg) hB.size,by simp,by simp,H.glob.grow hE fun g _ h=>h⟩,hE,fun g _ h=>h⟩,hv _ _⟩
theorem aFo {P:Program} {f:FuncId} {fn:Func} {args:List V} {r:V} (hf:P.funcs[f]? =some fn) (hb:fn.body.isNone=false) (hn:(fn.name == "runtime.NumGoroutine")=false)
  (hc: ∀(X:Nat→Prop)(w:World)(vs:List Value),(∀g,X g→g<w.heap.size)→Globs X w→VCells X [] w args vs→Calls P f vs.toArray w fun e w'=> ∃v,e= .returned v∧RowKit.Below w.heap.size w w'∧VR X [] w' r v):Fn P f [] args r []:=by
 intro A M w vs H hargs
 obtain rfl:M=[]:=aOo H.len
 refine .inl ⟨kC hf hb hn _ _,(hc _ _ _ (fun g hg=>H.lt hg) H.glob hargs).mono ?_⟩
 rintro e w' ⟨v,he,hB,hv⟩
 have hE:Ext (bN [] []) w w':=(gI hB).mono fun _ _ h=>h.elim
 exact⟨_,he,[],⟨aOr _,⟨rfl,fun g hg=>aOh (H.alt g hg) hB.size,by simp,by simp,H.glob.grow hE fun g _ h=>h⟩,hE,fun g _ h=>h⟩,hv⟩
theorem jQ {P:Program} {f:FuncId} {fn:Func} {args:List V} {r:V} {v0:Value} {X:Nat→Prop} {w W:World} {vs:List Value} (hf:P.funcs[f]? =some fn) (hb:fn.body.isNone=false) (hn:(fn.name == "runtime.NumGoroutine")=false)
  (hc:Fn P f [] args r []) (hA: ∀g,X g→g<w.heap.size) (hG:Globs X w) (hB:RowKit.Below w.heap.size w W) (hargs: ∀Y,VCells Y [] W args vs) (hr: ∀Y U v,VR Y [] U r v→v=v0):Calls P f vs.toArray W fun e w'=>e= .returned v0∧RowKit.Below W.heap.size W w':=by
 have hE:=gI hB
 have H:HR X [] [] W:=HR.nil (fun g hg=>aOh (hA g hg) hB.size) (hG.ext hE (fun _ _ hh=>hh.elim) (fun g _ hx=>hx))
 rcases hc X [] W vs H (hargs _)with⟨_,h2⟩|⟨v,w',h1,_⟩
 ·refine h2.mono ?_
  rintro e w' ⟨v,he,M',G,hv⟩
  obtain rfl:M'=[]:=aOo G.hr.len
  refine⟨by rw[he,hr _ _ _ hv],⟨G.ext.os,G.ext.tape,G.ext.output,G.ext.size,fun g hg=>G.ext.block g hg fun hl=> ?_⟩⟩
  obtain⟨b,B,hb,_⟩:=hl
  simp at hb
 rw[kC hf hb hn]at h1
 cases h1
end Go.Vm
namespace Go.Proofs.YtjcfonniipabpaaGreatDoor
open Go Go.Proofs Go.RowKit Go.Vm
theorem vE {N:Nat}{vs sub:ByteArray}{r:Int}(hr:g9 N vs sub=some r):Vm.Fn Tryz.prog 75 [] [(eS vs),(eS sub)] (eI .i64 r) []:=by
 unfold g9 at hr
 split at hr
 ·rename_i c hc
  obtain rfl:=aOl hr
  obtain⟨⟨l⟩⟩:=sub
  obtain rfl:l=[c]:=hc
  refine mF Tryz.func75 (by kernel_rfl) (by kernel_rfl) (fun X w=>by unfold VR;rfl) fun X w vs' _ _ hv=> ?_
  unfold VCells at hv
  obtain⟨v,rest,rfl,hv,hn⟩:=hv
  unfold VCells at hn
  obtain⟨u,rest,rfl,hu,hn⟩:=hn
  unfold VCells at hn
  subst hn
  unfold VR at hv hu
  subst hv hu
  refine(Tryz.stringslite_Index_one vs c w).mono ?_
  rintro e w' ⟨he,rfl⟩
  exact⟨he,Below.refl _ _⟩
 cases hr
theorem aFW (g i:Nat):(⟨g,0,none⟩:Addr).add i=⟨g,i,none⟩:=by unfold Addr.add;split<;>simp_all
theorem aBs {X:Nat→Prop} {w:World} (h:Globs X w):Lib.TabIs Tryz.prog w "internal/strconv.uint64pow10" .u64 Lib.pow10Tab:=by
 obtain⟨hv,t,hs⟩:=h 1 (.agg (nQ.map fun x=> .sc (.int .u64 x))) rfl
 have h20:(V.agg (nQ.map fun x=> .sc (.int .u64 x))).cells.length=20:=rfl
 rw[h20]at hs
 obtain⟨cs,f,hb,hsz⟩: ∃cs f,w.heap[1]? =some (.cells cs t f)∧cs.size=20:=by
  unfold World.shape? at hs
  split at hs
  ·rename_i cs t' f hb
   simp only[aOH,aOK]at hs
   obtain⟨rfl,h2⟩:=hs
   exact⟨cs,f,hb,h2⟩
  cases hs
 have hcell: ∀i x,nQ[i]? =some x→w.cell? ⟨1,i,none⟩=some (.int .u64 x):=fun i x hi=>by
  unfold VR at hv
  obtain⟨ad,k,he,_,_,hsp,_,hrow⟩:=hv
  obtain⟨bk,o,sp⟩:=ad
  simp only at hsp
  subst hsp
  have he2:bk=1∧o=0:=by
   simp[Addr.add]at he
   exact⟨he.1.symm,he.2.symm⟩
  obtain⟨rfl,rfl⟩:=he2
  unfold VRow at hrow
  obtain⟨⟨u,hu,_,hl⟩,_⟩:=hrow
  unfold VR at hu
  obtain⟨us,rfl,hcs⟩:=hu
  have hlt:i<(nQ.map fun x=>V.sc (.int .u64 x)).length:=by rw[aOB];exact(aOq.1 hi).1
  obtain⟨v,hv,hr⟩:=hcs.get (aOi hlt)
  have e1:(nQ.map fun x=>V.sc (.int .u64 x))[i]= .sc (.int .u64 x):=by
   rw[List.getElem_map]
   rw[(aOq.1 hi).2]
  rw[e1]at hr
  unfold VR at hr
  subst hr
  have:=hl i (.int .u64 x) (by simpa[Value.cells]using hv)
  rw[aFW]at this
  exact this
 unfold Lib.TabIs World.var?
 rw[show Tryz.prog.globalNamed "internal/strconv.uint64pow10" =some 1 by kernel_rfl,Option.bind_some,hb]
 simp only
 congr 1
 have hp:Lib.pow10Tab=nQ:=by decide +kernel
 rw[hp]
 refine aOG fun i=> ?_
 by_cases hi:i<20
 ·have hi2:i<nQ.length:=hi
  have:=hcell i _ (aOi hi2)
  rw[Lib.cell_of_heap hb]at this
  rw[this,aOC,List.getElem?_map,aOi hi2]
  rfl
 rw[aOv (by omega),aOC,List.getElem?_eq_none (by rw[aOB];show 20≤i;omega)]
theorem aEu : ∀(k u:Nat),1≤k→u<10^k→Lib.nDigits u≤k
 |0,_,h,_=>by omega
 |k+1,u,_,h=>by
  by_cases hu:u<10
  ·rw[Lib.nDigits_small hu];omega
  rw[Lib.nDigits_big hu]
  have hk:1≤k:=by
   cases k with
   |zero=>simp at h;omega
   |succ k=>omega
  have:=aEu k (u/10) hk (by rw[Nat.pow_succ]at h;omega)
  omega
theorem aEz (n:Int)(h0: -999999999≤n)(h1:n≤999999999):(bR n).size≤20:=by
 have hs:(bR n).size=(Lib.itoa n).length:=by simp[bR,ByteArray.size]
 rw[hs]
 unfold Lib.itoa
 split
 ·have:=aEu 9 n.natAbs (by decide) (by omega)
  rw[List.length_cons,Lib.decDigits_length];omega
 have:=aEu 9 n.toNat (by decide) (by omega)
 rw[Lib.decDigits_length];omega
theorem y9 {N:Nat}{kd va vb vn:Int}{r:ByteArray×Bool}(hr:kB N kd va vb vn=some r):
  Vm.Fn Tryz.prog 28 [] [(.agg [(eI .i64 kd),(eI .i64 va),(eI .i64 vb),(eI .i64 vn)])] (.tup [(eS r.1),(eB r.2)]) []:=by
 obtain rfl:=aOl hr
 refine mF (v0:= .tuple #[.string (Tryz.formatR bR ⟨kd,va,vb,vn⟩).1,.bool (Tryz.formatR bR ⟨kd,va,vb,vn⟩).2]) Tryz.func28 (by kernel_rfl) (by kernel_rfl) (fun X w=>by simp[VR,VCells,eS,eB]) fun X w vs hX hG hv=> ?_
 have hvs:vs=[.agg #[.int .i64 kd,.int .i64 va,.int .i64 vb,.int .i64 vn]]:=by simpa[VR,VCells,eI]using hv
 subst hvs
 refine Tryz.format_calls bR ⟨kd,va,vb,vn⟩ w aEz fun n h0 h1 W hB=> ?_
 have hGW:Globs X W:=hG.ext (gI hB) (fun _ _ h=>h.elim) fun _ _ h=>h
 refine(Tryz.strconv_Itoa n (by omega) (by omega) W (aBs hGW)).mono ?_
 rintro e w' ⟨he,k,os,rfl⟩
 exact⟨he,Lib.below_grow _ _ (aOm _) _ _⟩
theorem aGg {N:Nat}{l:List ByteArray}{r:Int×Int×Int×Int×Bool}(hnum: ∀{s:ByteArray} {q:Int×Bool},b7 N s=some q→Vm.Fn Tryz.prog 44 [] [eS s] (.tup [eI .i64 q.1,eB q.2]) [])(hr:iK N l=some r):
  Vm.Fn Tryz.prog 23 [] [(.row none 1 (l.map eS))] (.tup [(.agg [(eI .i64 r.1),(eI .i64 r.2.1),(eI .i64 r.2.2.1),(eI .i64 r.2.2.2.1)]),(eB r.2.2.2.2)]) []:=by
 unfold iK at hr
 cases l with
 |nil=>cases hr
 |cons w0 ws=>
  simp only at hr
  split at hr
  ·rename_i hc
   obtain⟨hl,hall⟩:=hc
   obtain rfl:=aOl hr
   clear hr
   generalize hA:Tryz.actR (fun s=>(b7 N s).getD (0,false)) w0 ws=A
   obtain⟨⟨a1,a2,a3,a4⟩,ok⟩:=A
   refine mF (v0:= .tuple #[.agg #[.int .i64 a1,.int .i64 a2,.int .i64 a3,.int .i64 a4],.bool ok]) Tryz.func23 (by kernel_rfl) (by kernel_rfl) (fun X w=> ?_) fun X w vs hX hG hv=> ?_
   ·simp[VR,VCells]
   unfold VCells at hv
   obtain⟨v,rest,rfl,hv,hn⟩:=hv
   unfold VCells at hn
   subst hn
   rcases aED (fun x=> .string x) (fun _=>rfl) hv with⟨h0,_⟩|⟨bk,o,c,rfl,_,hbk,hcells⟩
   ·cases h0
   have:=Tryz.act_calls (fun s=>(b7 N s).getD (0,false)) bk o c w0 ws w hl hbk hcells fun s hs W hB=> ?_
   ·rw[hA]at this;exact this
   obtain⟨q,hq⟩:=aOs.1 (aOw.1 hall s hs)
   simp only[hq,aOx]
   refine jQ (vs:=[.string s]) (v0:= .tuple #[.int .i64 q.1,.bool q.2]) Tryz.func44 (by kernel_rfl) (by kernel_rfl) (hnum hq) hX hG hB (fun Y=> ?_) fun Y U v hv=> ?_
   ·simp[VR,VCells]
   simp[VR,VCells]at hv;exact hv
  cases hr
end Go.Proofs.YtjcfonniipabpaaGreatDoor
namespace Go.Proofs
open Go.Shelf Go.RowKit Go.Lib
theorem Tryz.rfield_calls (b:Nat)(c:Int)(w:World):Calls Tryz.prog 48 #[.pointer (some ⟨b,0,none⟩),.int .u8 c] w fun e w'=>e= .returned (.pointer (some ⟨b,if c=65 then 1 else if c=66 then 2 else 3,none⟩))∧w'=w:=by
 go_enter Tryz.func48,Tryz.ntmps48
 go_wp2
 all_goals (go_ret;simp_all)
theorem Tryz.find_drop (p:ByteArray×Int×ByteArray→Bool)(k:Nat)(h: ∀j,j<k→j<Tryz.forms.length→p Tryz.forms[j]! =false):Tryz.forms.find? p=(Tryz.forms.drop k).find? p:=by
 have gen: ∀(l:List (ByteArray×Int×ByteArray))(k:Nat),(∀j,j<k→j<l.length→p l[j]! =false)→l.find? p=(l.drop k).find? p:=by
  intro l
  induction l with
  |nil=>intro k _;simp
  |cons x l ih=>
   intro k hk
   cases k with
   |zero=>rfl
   |succ k=>
    have h0:p x=false:=by simpa using hk 0 (by omega) (by simp)
    rw[aOA,h0,List.drop_succ_cons]
    exact ih k fun j hj hl=>by simpa using hk (j+1) (by omega) (by simpa using hl)
 exact gen _ k h
set_option maxHeartbeats 8000000 in
set_option maxRecDepth 100000 in
theorem Tryz.ract_calls (cO:ByteArray→Int×Bool)(bk o c:Nat)(w0:ByteArray)(ws:List ByteArray)(w:World)(hl:ws.length≤100000)(hbk:bk<w.heap.size)(hcells: ∀(j:Nat) x,(w0::ws)[j]? =some x→w.cell? ⟨bk,o+j,none⟩=some (.string x))
  (hnum: ∀s∈ws,∀W,Below w.heap.size w W→Calls Tryz.prog 47 #[.string s] W fun e w'=>e= .returned (.tuple #[.int .i64 (cO s).1,.bool (cO s).2])∧Below W.heap.size W w')
  (hname: ∀k:Nat,k<7→ ∀W,Below w.heap.size w W→Calls Tryz.prog 46 #[.int .i64 ((k:Int)+1)] W fun e w'=>e= .returned (.tuple #[.string Tryz.forms[k]!.1,.string Tryz.forms[k]!.2.2])∧Below W.heap.size W w'):
  Calls Tryz.prog 26 #[.slice (some ⟨bk,o,none⟩) (ws.length+1) c] w fun e w'=>e= .returned (.tuple #[Tryz.actV (Tryz.actR cO w0 ws).1,.bool (Tryz.actR cO w0 ws).2])∧Below w.heap.size w w':=by
 have h0:w.cell? ⟨bk,o,none⟩=some (.string w0):=by simpa using hcells 0 w0 rfl
 have HC:=Tryz.hidU hcells
 have HN:=Tryz.hidU hnum
 have HM:=Tryz.hidU hname
 clear hcells hnum hname
 go_enter Tryz.func26,Tryz.ntmps26
 go_wp2_with fail
 go_loopw [4] (fun i wr=> ∃k:Nat,i= .int .i64 ((k:Int)+1)∧k≤7∧wr.heap[w.heap.size]? =some (.cells #[Value.int .i64 0,.int .i64 0,.int .i64 0,.int .i64 0] 39 (0,0))∧Hid (Below w.heap.size w wr)∧
  Hid (∀j,j<k→j<Tryz.forms.length→(Tryz.forms[j]!.1.toList == w0.toList)=false)) (fun i _=>8-(intOf i).toNat)
 case atStart=>exact⟨0,rfl,by omega,heap_alloc_new w _,Tryz.hidU ((Below.refl _ w).alloc (aOm _) _),Tryz.hidU fun j h=>by omega⟩
 case round=>
  obtain⟨k,rfl,hk,hres,HW,HP⟩:=hrel
  have hw0:wr.cell? ⟨bk,o,none⟩=some (.string w0):=(HW.out.cell (p:=⟨bk,o,none⟩) hbk).trans h0
  by_cases hk7:k<7
  ·go_wp2_with fail
   refine(HM.out k hk7 wr HW.out).mono ?_
   rintro e w3 ⟨rfl,hb3⟩
   have hs3:w.heap.size+1≤w3.heap.size:=by have h1:=hb3.size;have:=(aOg.1 hres).1;omega
   have hres3:=(hb3.block w.heap.size (by have:=(aOg.1 hres).1;omega)).trans hres
   have HW3:=Tryz.hidU (HW.out.trans (hb3.mono HW.out.size))
   have hc3:w3.cell? ⟨bk,o,none⟩=some (.string w0):=(HW3.out.cell (p:=⟨bk,o,none⟩) hbk).trans h0
   clear hb3 hres HW hw0
   have hfd:=Tryz.find_drop (fun x=>x.1.toList == w0.toList) k HP.out
   have hdk:Tryz.forms.drop k=Tryz.forms[k]! ::Tryz.forms.drop (k+1):=by
    have hlt:k<Tryz.forms.length:=hk7
    rw[aOk hlt]
    simp[hlt]
   have hkind:Tryz.forms[k]!.2.1=(k:Int)+1:=by
    have: ∀k:Nat,k<7→Tryz.forms[k]!.2.1=(k:Int)+1:=by decide
    exact this k hk7
   have hmem:Tryz.forms[k]! ∈Tryz.forms:=List.mem_of_mem_drop (by rw[hdk];exact List.mem_cons_self)
   have HP2:(Tryz.forms[k]!.1.toList == w0.toList)=false→Hid (∀j,j<k+1→j<Tryz.forms.length→(Tryz.forms[j]!.1.toList == w0.toList)=false):=fun hm'=>Tryz.hidU fun j hj hl=>by
    by_cases e:j=k
    ·rw[e];exact hm'
    exact HP.out j (by omega) hl
   rw[hdk,aOA]at hfd
   clear HP hdk
   generalize Tryz.forms[k]! =y at hfd hmem HP2 hkind
   by_cases hm:(y.1.toList == w0.toList)=true
   ·rw[hm]at hfd
    simp only at hfd
    have hx3:=Tryz.forms_fields hmem
    have HX:=Tryz.hidU hx3
    have hsz3:y.2.2.size≤3:=hx3.1
    have hF:=Tryz.hidU hfd
    clear HP2 hmem hx3 hfd
    have hb: ∀ob,(w3.alloc ob).heap[w.heap.size]? =some (.cells #[Value.int .i64 0,.int .i64 0,.int .i64 0,.int .i64 0] 39 (0,0)):=fun ob=>(Below.heap_alloc _ _ _ (by omega)).trans hres3
    have a0: ∀ob,(w3.alloc ob).cell? ⟨w.heap.size,0,none⟩=some (.int .i64 0):=fun ob=>by rw[Lib.cell_of_heap (hb ob)];rfl
    have a1: ∀ob,(w3.alloc ob).cell? ⟨w.heap.size,1,none⟩=some (.int .i64 0):=fun ob=>by rw[Lib.cell_of_heap (hb ob)];rfl
    have a2: ∀ob,(w3.alloc ob).cell? ⟨w.heap.size,2,none⟩=some (.int .i64 0):=fun ob=>by rw[Lib.cell_of_heap (hb ob)];rfl
    have a3: ∀ob,(w3.alloc ob).cell? ⟨w.heap.size,3,none⟩=some (.int .i64 0):=fun ob=>by rw[Lib.cell_of_heap (hb ob)];rfl
    have f0:=fun ob=>Lib.frozen_of_heap (hb ob) 0
    have f1:=fun ob=>Lib.frozen_of_heap (hb ob) 1
    have f2:=fun ob=>Lib.frozen_of_heap (hb ob) 2
    have f3:=fun ob=>Lib.frozen_of_heap (hb ob) 3
    by_cases hlen:ws.length=y.2.2.size
    ·have hne:((ws.length:Int)+1 != (y.2.2.size:Int)+1)=false:=by rw[bne_eq_false_iff_eq];omega
     have HLW:=Tryz.hidU hlen
     have HK:=Tryz.hidU hkind
     have hab0:(w3.alloc (Obj.cells #[Value.int .i64 ((k:Int)+1),.int .i64 0,.int .i64 0,.int .i64 0] 39)).heap[w3.heap.size]? =some (.cells #[Value.int .i64 ((k:Int)+1),.int .i64 0,.int .i64 0,.int .i64 0] 39 (0,0)):=heap_alloc_new w3 _
     have hres4:=hb (Obj.cells #[Value.int .i64 ((k:Int)+1),.int .i64 0,.int .i64 0,.int .i64 0] 39)
     clear hlen hkind
     go_wp2_with fail
     clear hne
     go_loopw [8] (fun i wr=> ∃(j:Nat)(a:Tryz.A4),i= .int .i64 (j:Int)∧j≤y.2.2.size∧wr.heap[w3.heap.size]? =some (.cells #[Value.int .i64 a.kind,.int .i64 a.a,.int .i64 a.b,.int .i64 a.n] 39 (0,0))∧
      wr.heap[w.heap.size]? =some (.cells #[Value.int .i64 0,.int .i64 0,.int .i64 0,.int .i64 0] 39 (0,0))∧Hid (Below w.heap.size w wr)∧
      Hid (Tryz.runF cO (y.2.2.data.toList.drop j) (ws.drop j) a=Tryz.runF cO y.2.2.data.toList ws ⟨(k:Int)+1,0,0,0⟩)) (fun i _=>y.2.2.size-(intOf i).toNat)
     case atStart=>exact⟨0,⟨(k:Int)+1,0,0,0⟩,rfl,aOJ _,hab0,hres4,Tryz.hidU (HW3.out.alloc (by omega) _),Tryz.hidU rfl⟩
     case round=>
      clear a0 a1 a2 a3 f0 f1 f2 f3 hb hab0 hres4 hres3 hc3
      obtain⟨j,a,rfl,hj,hab,hres,HW,HR⟩:=hrel
      have q0:wr.cell? ⟨w.heap.size,0,none⟩=some (.int .i64 0):=by rw[Lib.cell_of_heap hres];rfl
      have q1:wr.cell? ⟨w.heap.size,1,none⟩=some (.int .i64 0):=by rw[Lib.cell_of_heap hres];rfl
      have q2:wr.cell? ⟨w.heap.size,2,none⟩=some (.int .i64 0):=by rw[Lib.cell_of_heap hres];rfl
      have q3:wr.cell? ⟨w.heap.size,3,none⟩=some (.int .i64 0):=by rw[Lib.cell_of_heap hres];rfl
      by_cases hp:j<y.2.2.size
      ·have hL:=HX.out.2 j hp
       have hjw:j<ws.length:=by have:=HLW.out;omega
       obtain⟨wd,hwd⟩: ∃wd,ws[j]? =some wd:=⟨ws[j]'hjw,aOi hjw⟩
       have hcw:wr.cell? ⟨bk,o+(j+1),none⟩=some (.string wd):=(HW.out.cell (p:=⟨bk,o+(j+1),none⟩) hbk).trans (HC.out (j+1) wd (by rw[aOt];exact hwd))
       have hdr:y.2.2.data.toList.drop j=y.2.2[j]::y.2.2.data.toList.drop (j+1):=by
        rw[aOk (by have:=Lib.size_eq y.2.2;omega)];rfl
       have hdw:ws.drop j=wd::ws.drop (j+1):=by
        rw[aOk hjw]
        rw[aOi hjw]at hwd
        rw[aOl hwd]
       rw[hdr,hdw]at HR
       have l1:=(aOg.1 hab).1
       go_wp2_with fail
       refine(HN.out wd (aOE hwd) wr HW.out).mono ?_
       rintro e w5 ⟨rfl,hb5⟩
       have sz5:=hb5.size
       have ab5:=(hb5.block w3.heap.size l1).trans hab
       have rs5:=(hb5.block w.heap.size (by omega)).trans hres
       have HW5:=Tryz.hidU (HW.out.trans (hb5.mono (by omega)))
       clear hb5 hab hres HW q0 q1 q2 q3
       have q0:w5.cell? ⟨w.heap.size,0,none⟩=some (.int .i64 0):=by rw[Lib.cell_of_heap rs5];rfl
       have q1:w5.cell? ⟨w.heap.size,1,none⟩=some (.int .i64 0):=by rw[Lib.cell_of_heap rs5];rfl
       have q2:w5.cell? ⟨w.heap.size,2,none⟩=some (.int .i64 0):=by rw[Lib.cell_of_heap rs5];rfl
       have q3:w5.cell? ⟨w.heap.size,3,none⟩=some (.int .i64 0):=by rw[Lib.cell_of_heap rs5];rfl
       cases hn:cO wd with|mk v ok=>
       cases ok with
       |false=>
        have f0:=Lib.frozen_of_heap rs5 0
        have f1:=Lib.frozen_of_heap rs5 1
        have f2:=Lib.frozen_of_heap rs5 2
        have f3:=Lib.frozen_of_heap rs5 3
        have hR:Tryz.runF cO y.2.2.data.toList ws ⟨(k:Int)+1,0,0,0⟩=none:=by
         rw[←HR.out];simp only[Tryz.runF,hn];rfl
        have hA:=Tryz.hidU (show Tryz.actR cO w0 ws=(⟨0,0,0,0⟩,false) by unfold Tryz.actR;rw[hF.out];simp only;rw[if_neg (by have:=HLW.out;omega),HK.out,hR])
        clear rs5 ab5 hR HR
        go_wp2_with fail
        obtain⟨V,hV,z0,z1,z2,z3,hbV⟩:=Tryz.set4 _ w.heap.size _ _ _ _ (.int .i64 0) (.int .i64 0) (.int .i64 0) (.int .i64 0) q0 q1 q2 q3
        rw[←hV]
        refine bodyPost_ret (by simp[results,Tryz.results26,go_sem,z0,z1,z2,z3];rfl) rfl ?_
        exact⟨by rw[hA.out];rfl,hbV _ _ HW5.out (aOm _)⟩
       |true=>
        have hR:Tryz.runF cO (y.2.2.data.toList.drop (j+1)) (ws.drop (j+1)) (Tryz.setF a y.2.2[j] v)=Tryz.runF cO y.2.2.data.toList ws ⟨(k:Int)+1,0,0,0⟩:=by
         rw[←HR.out];simp only[Tryz.runF,hn,if_true]
        clear HR
        have f1:=Lib.frozen_of_heap ab5 1
        have f2:=Lib.frozen_of_heap ab5 2
        have f3:=Lib.frozen_of_heap ab5 3
        have HR2:=Tryz.hidU hR
        clear hR
        go_wp2_with fail
        refine(Tryz.rfield_calls w3.heap.size _ w5).mono ?_
        rintro e w6 ⟨rfl,he⟩
        subst he
        have p1:w6.cell? ⟨w3.heap.size,1,none⟩=some (.int .i64 a.a):=by rw[Lib.cell_of_heap ab5];rfl
        have p2:w6.cell? ⟨w3.heap.size,2,none⟩=some (.int .i64 a.b):=by rw[Lib.cell_of_heap ab5];rfl
        have p3:w6.cell? ⟨w3.heap.size,3,none⟩=some (.int .i64 a.n):=by rw[Lib.cell_of_heap ab5];rfl
        have rs7: ∀i u,(w6.setCell ⟨w3.heap.size,i,none⟩ u).heap[w.heap.size]? =_:=fun i u=>(heap_setCell_other _ _ _ _ (by show w.heap.size≠w3.heap.size;omega)).trans rs5
        have ab7: ∀i u,(w6.setCell ⟨w3.heap.size,i,none⟩ u).heap[w3.heap.size]? =_:=fun i u=>heap_setCell_same _ _ i _ _ u ab5
        have HW7: ∀i u,Hid (Below w.heap.size w (w6.setCell ⟨w3.heap.size,i,none⟩ u)):=fun i u=>Tryz.hidU (HW5.out.setCell (p:=⟨w3.heap.size,i,none⟩) (by show w.heap.size≤w3.heap.size;omega) u)
        clear ab5 rs5 q0 q1 q2 q3
        rcases hL with h|h|h<;>rw[h]at HR2⊢
        ·go_wp2_with fail
         go_roundw
         case rel=>exact⟨j+1,Tryz.setF a 65 v,rfl,by omega,ab7 _ _,rs7 _ _,HW7 _ _,HR2⟩
         case measure=>simp[intOf];omega
        ·go_wp2_with fail
         go_roundw
         case rel=>exact⟨j+1,Tryz.setF a 66 v,rfl,by omega,ab7 _ _,rs7 _ _,HW7 _ _,HR2⟩
         case measure=>simp[intOf];omega
        go_wp2_with fail
        go_roundw
        case rel=>exact⟨j+1,Tryz.setF a 78 v,rfl,by omega,ab7 _ _,rs7 _ _,HW7 _ _,HR2⟩
        case measure=>simp[intOf];omega
      have hje:j=y.2.2.size:=by omega
      subst hje
      have p0:wr.cell? ⟨w3.heap.size,0,none⟩=some (.int .i64 a.kind):=by rw[Lib.cell_of_heap hab];rfl
      have p1:wr.cell? ⟨w3.heap.size,1,none⟩=some (.int .i64 a.a):=by rw[Lib.cell_of_heap hab];rfl
      have p2:wr.cell? ⟨w3.heap.size,2,none⟩=some (.int .i64 a.b):=by rw[Lib.cell_of_heap hab];rfl
      have p3:wr.cell? ⟨w3.heap.size,3,none⟩=some (.int .i64 a.n):=by rw[Lib.cell_of_heap hab];rfl
      have f0:=Lib.frozen_of_heap hres 0
      have f1:=Lib.frozen_of_heap hres 1
      have f2:=Lib.frozen_of_heap hres 2
      have f3:=Lib.frozen_of_heap hres 3
      have hR:Tryz.runF cO y.2.2.data.toList ws ⟨(k:Int)+1,0,0,0⟩=some a:=by
       rw[←HR.out,show y.2.2.data.toList.drop y.2.2.size=[]from aOu (aOI (Lib.size_eq y.2.2).symm)];rfl
      have hA:=Tryz.hidU (show Tryz.actR cO w0 ws=(a,true) by unfold Tryz.actR;rw[hF.out];simp only;rw[if_neg (by have:=HLW.out;omega),HK.out,hR])
      clear hres hab hR HR
      go_wp2_with fail
      obtain⟨V,hV,z0,z1,z2,z3,hbV⟩:=Tryz.set4 _ w.heap.size _ _ _ _ (.int .i64 a.kind) (.int .i64 a.a) (.int .i64 a.b) (.int .i64 a.n) q0 q1 q2 q3
      rw[←hV]
      refine bodyPost_ret (by simp[results,Tryz.results26,go_sem,z0,z1,z2,z3];rfl) rfl ?_
      exact⟨by rw[hA.out];rfl,hbV _ _ HW.out (aOm _)⟩
    have hne:((ws.length:Int)+1 != (y.2.2.size:Int)+1)=true:=by rw[bne_iff_ne];omega
    go_wp2_with fail
    obtain⟨V,hV,z0,z1,z2,z3,hbV⟩:=Tryz.set4 _ w.heap.size _ _ _ _ (.int .i64 0) (.int .i64 0) (.int .i64 0) (.int .i64 0) (a0 _) (a1 _) (a2 _) (a3 _)
    rw[←hV]
    refine bodyPost_ret (by simp[results,Tryz.results26,go_sem,z0,z1,z2,z3];rfl) rfl ?_
    refine⟨by rw[show Tryz.actR cO w0 ws=(⟨0,0,0,0⟩,false) by unfold Tryz.actR;rw[hF.out];simp only;rw[if_pos hlen]];rfl, ?_⟩
    exact hbV _ _ (HW3.out.alloc (by omega) _) (aOm _)
   have hm':(y.1.toList == w0.toList)=false:=by simpa using hm
   have HP3:=HP2 hm'
   clear hm HP2 hfd hmem
   go_wp2_with fail
   go_roundw
   case rel=>exact⟨k+1,by rw[Int.natCast_add];rfl,by omega,hres3,HW3,HP3⟩
   case measure=>simp[intOf];omega
  have hke:k=7:=by omega
  subst hke
  have hnone:Tryz.forms.find? (fun x=>x.1.toList == w0.toList)=none:=by
   rw[Tryz.find_drop _ 7 HP.out];rfl
  have hR:Tryz.actR cO w0 ws=(⟨0,0,0,0⟩,false):=by unfold Tryz.actR;rw[hnone]
  have q0:wr.cell? ⟨w.heap.size,0,none⟩=some (.int .i64 0):=by rw[Lib.cell_of_heap hres];rfl
  have q1:wr.cell? ⟨w.heap.size,1,none⟩=some (.int .i64 0):=by rw[Lib.cell_of_heap hres];rfl
  have q2:wr.cell? ⟨w.heap.size,2,none⟩=some (.int .i64 0):=by rw[Lib.cell_of_heap hres];rfl
  have q3:wr.cell? ⟨w.heap.size,3,none⟩=some (.int .i64 0):=by rw[Lib.cell_of_heap hres];rfl
  have f0:=Lib.frozen_of_heap hres 0
  have f1:=Lib.frozen_of_heap hres 1
  have f2:=Lib.frozen_of_heap hres 2
  have f3:=Lib.frozen_of_heap hres 3
  go_wp2_with fail
  obtain⟨V,hV,z0,z1,z2,z3,hbV⟩:=Tryz.set4 _ w.heap.size _ _ _ _ (.int .i64 0) (.int .i64 0) (.int .i64 0) (.int .i64 0) q0 q1 q2 q3
  rw[←hV]
  refine bodyPost_ret (by simp[results,Tryz.results26,go_sem,z0,z1,z2,z3];rfl) rfl ?_
  exact⟨by rw[hR];rfl,hbV _ _ HW.out (aOm _)⟩
theorem Tryz.build39z (w:World):(Instr.build 39 #[]).run Tryz.prog w= .ok (.agg #[.int .i64 0,.int .i64 0,.int .i64 0,.int .i64 0]) w:=run_build w 39 _ _ (by kernel_rfl)
theorem Tryz.eq39 (a b c d a' b' c' d':Int)(w:World):(Op.equalIn 10000 39 (.agg #[.int .i64 a,.int .i64 b,.int .i64 c,.int .i64 d]) (.agg #[.int .i64 a',.int .i64 b',.int .i64 c',.int .i64 d'])).run Tryz.prog w= .ok ((a == a')&&((b == b')&&((c == c')&&(d == d')))) w:=by
 have u3:=Tryz.underlying3
 have a3:=Tryz.isAgg3
 have z3:=Tryz.sizeOf3
 have hS:Tryz.prog.underlying 39=some (.struct (Tryz.prog.fieldsOf 39)):=by kernel_rfl
 have hp:Tryz.prog.stoodInHeld 39=false:=by kernel_rfl
 rw[show(10000:Nat)=9999+1 from rfl,run_equalIn_agg w 9999 39 _ _ hS hp]
 simp only[Program.fieldsOf,Tryz.underlying39]
 go_simp
 by_cases h1:a=a'<;>by_cases h2:b=b'<;>by_cases h3:c=c'<;>by_cases h4:d=d'<;>simp[h1,h2,h3,h4]
theorem Tryz.forms_ne {x:ByteArray×Int×ByteArray}(h:x∈Tryz.forms):(x.1.toList == ([]:List UInt8))=false:=by
 simp only[Tryz.forms,aOF,aOz,or_false]at h
 rcases h with rfl|rfl|rfl|rfl|rfl|rfl|rfl<;>decide +kernel
set_option maxHeartbeats 8000000 in
set_option maxRecDepth 100000 in
theorem Tryz.rline_calls (itoa:Int→ByteArray)(a:Tryz.A4)(w:World)
  (hlen: ∀n:Int,n=a.a∨n=a.b∨n=a.n→ -999999999≤n→n≤999999999→(itoa n).size≤20)
  (hnumb: ∀n:Int,n=a.a∨n=a.b∨n=a.n→ -999999999≤n→n≤999999999→ ∀W,Below w.heap.size w W→Calls Tryz.prog 50 #[.int .i64 n] W fun e w'=>e= .returned (.string (itoa n))∧Below W.heap.size W w')
  (hname: ∀W,Below w.heap.size w W→Calls Tryz.prog 46 #[.int .i64 a.kind] W fun e w'=>e= .returned (.tuple #[.string (Tryz.nmOf a.kind).1,.string (Tryz.nmOf a.kind).2])∧Below W.heap.size W w'):
  Calls Tryz.prog 29 #[.agg #[.int .i64 a.kind,.int .i64 a.a,.int .i64 a.b,.int .i64 a.n]] w fun e w'=>e= .returned (.tuple #[.string (Tryz.lineRf itoa a).1,.bool (Tryz.lineRf itoa a).2])∧Below w.heap.size w w':=by
 have HI:=Tryz.hidU hnumb
 have HLN:=Tryz.hidU hlen
 have HM:=Tryz.hidU hname
 clear hnumb hlen hname
 have b0:=heap_alloc_new w (Obj.cells #[Value.int .i64 a.kind,.int .i64 a.a,.int .i64 a.b,.int .i64 a.n] 39)
 have hbw:Below w.heap.size w (w.alloc (Obj.cells #[Value.int .i64 a.kind,.int .i64 a.a,.int .i64 a.b,.int .i64 a.n] 39)):=(Below.refl _ w).alloc (aOm _) _
 go_enter Tryz.func29,Tryz.ntmps29
 go_wp2_with fail
 refine(HM.out _ hbw).mono ?_
 rintro e w3 ⟨rfl,hb3⟩
 have hs3:w.heap.size+1≤w3.heap.size:=by have:=hb3.size;simp at this;omega
 have hab3:=(hb3.block w.heap.size (by simp)).trans b0
 have bB:=Tryz.hidU (hbw.trans (hb3.mono (by simp)))
 clear hb3 b0 hbw
 unfold Tryz.nmOf
 cases hf:Tryz.forms.find? (fun x=>x.2.1 == a.kind) with
 |none=>
  have hR:=Tryz.hidU (show Tryz.lineRf itoa a=(⟨#[]⟩,false) by unfold Tryz.lineRf;rw[hf])
  simp only
  go_wp2_with fail
  go_ret2
  exact⟨by rw[hR.out];rfl,bB.out⟩
 |some x=>
  have hmem:=aOy hf
  have hx3:=Tryz.forms_fields hmem
  have hnm:=Tryz.forms_name hmem
  have hne:=Tryz.forms_ne hmem
  have HX:=Tryz.hidU hx3
  have hsz3:x.2.2.size≤3:=hx3.1
  have hF:=Tryz.hidU hf
  clear hx3 hmem hf
  simp only
  have k0:w3.cell? ⟨w.heap.size,0,none⟩=some (.int .i64 a.kind):=by rw[Lib.cell_of_heap hab3];rfl
  have k1:w3.cell? ⟨w.heap.size,1,none⟩=some (.int .i64 a.a):=by rw[Lib.cell_of_heap hab3];rfl
  have k2:w3.cell? ⟨w.heap.size,2,none⟩=some (.int .i64 a.b):=by rw[Lib.cell_of_heap hab3];rfl
  have k3:w3.cell? ⟨w.heap.size,3,none⟩=some (.int .i64 a.n):=by rw[Lib.cell_of_heap hab3];rfl
  go_wp2_with fail
  have hrr0:((w3.alloc (Obj.cells #[Value.int .i64 0,.int .i64 a.a,.int .i64 a.b,.int .i64 a.n] 39)).heap[w3.heap.size]?)=some (.cells #[Value.int .i64 0,.int .i64 a.a,.int .i64 a.b,.int .i64 a.n] 39 (0,0)):=heap_alloc_new w3 _
  have haa0:((w3.alloc (Obj.cells #[Value.int .i64 0,.int .i64 a.a,.int .i64 a.b,.int .i64 a.n] 39)).heap[w.heap.size]?)=some (.cells #[Value.int .i64 a.kind,.int .i64 a.a,.int .i64 a.b,.int .i64 a.n] 39 (0,0)):=(Below.heap_alloc _ _ _ (by omega)).trans hab3
  go_loopw [4,7] (fun s i wr=> ∃(j:Nat)(r:Tryz.A4)(aV:ByteArray),s= .string aV∧i= .int .i64 (j:Int)∧j≤x.2.2.size∧aV.size≤10+21*j∧wr.heap[w3.heap.size]? =some (.cells #[Value.int .i64 r.kind,.int .i64 r.a,.int .i64 r.b,.int .i64 r.n] 39 (0,0))∧
   wr.heap[w.heap.size]? =some (.cells #[Value.int .i64 a.kind,.int .i64 a.a,.int .i64 a.b,.int .i64 a.n] 39 (0,0))∧Hid (Below w.heap.size w wr)∧
   Hid (Tryz.runH itoa a (x.2.2.data.toList.drop j) r aV=Tryz.runH itoa a x.2.2.data.toList {a with kind:=0} x.1)) (fun _ i _=>x.2.2.size-(intOf i).toNat)
  case atStart=>exact⟨0,{a with kind:=0},x.1,rfl,rfl,aOJ _,by omega,hrr0,haa0,Tryz.hidU (bB.out.alloc (by omega) _),Tryz.hidU rfl⟩
  case round=>
   clear k0 k1 k2 k3 hrr0 haa0 hab3 bB HM
   obtain⟨j,r,aV,rfl,rfl,hj,hls,hrr,haa,HW,HR⟩:=hrel
   have l1:=(aOg.1 hrr).1
   have p1:wr.cell? ⟨w.heap.size,1,none⟩=some (.int .i64 a.a):=by rw[Lib.cell_of_heap haa];rfl
   have p2:wr.cell? ⟨w.heap.size,2,none⟩=some (.int .i64 a.b):=by rw[Lib.cell_of_heap haa];rfl
   have p3:wr.cell? ⟨w.heap.size,3,none⟩=some (.int .i64 a.n):=by rw[Lib.cell_of_heap haa];rfl
   by_cases hp:j<x.2.2.size
   ·have hL:=HX.out.2 j hp
    have hdr:x.2.2.data.toList.drop j=x.2.2[j]::x.2.2.data.toList.drop (j+1):=by
     rw[aOk (by have:=Lib.size_eq x.2.2;omega)];rfl
    rw[hdr]at HR
    go_wp2_with fail
    refine(Tryz.rfield_calls w.heap.size _ wr).mono ?_
    rintro e w4 ⟨rfl,he⟩
    subst he
    rcases hL with h|h|h<;>rw[h]at HR⊢
    ·by_cases hr:a.a < -999999999∨999999999<a.a
     ·have hR0:=Tryz.hidU (show Tryz.lineRf itoa a=(⟨#[]⟩,false) by unfold Tryz.lineRf;rw[hF.out];simp only;rw[←HR.out];unfold Tryz.runH;rw[if_pos (show Tryz.getF a 65 < -999999999∨999999999<Tryz.getF a 65 from hr)])
      clear HR
      go_wp2_with fail
      all_goals (go_ret2;refine⟨?_,HW.out⟩;rw[hR0.out];rfl)
     have hlo: -999999999≤a.a:=by omega
     have hhi:a.a≤999999999:=by omega
     have hz:=HLN.out a.a (.inl rfl) hlo hhi
     have hR:Tryz.runH itoa a (x.2.2.data.toList.drop (j+1)) (Tryz.setF r 65 0) ((aV++⟨#[32]⟩)++itoa a.a)=Tryz.runH itoa a x.2.2.data.toList {a with kind:=0} x.1:=by
      rw[←HR.out]
      conv=>rhs;unfold Tryz.runH
      rw[if_neg (show¬(Tryz.getF a 65 < -999999999∨999999999<Tryz.getF a 65)from hr)]
      rfl
     have HR2:=Tryz.hidU hR
     have hls2:((aV++⟨#[32]⟩)++itoa a.a).size≤10+21*(j+1):=by
      rw[aOn,aOn]
      have:(⟨#[32]⟩:ByteArray).size=1:=rfl
      omega
     clear hr hR HR
     go_wp2_with fail
     all_goals try (exfalso;omega)
     refine(HI.out a.a (.inl rfl) hlo hhi w4 HW.out).mono ?_
     rintro e w5 ⟨rfl,hb5⟩
     have sz5:=hb5.size
     have rr5:=(hb5.block w3.heap.size l1).trans hrr
     have aa5:=(hb5.block w.heap.size (by omega)).trans haa
     have HW5:=Tryz.hidU (HW.out.trans (hb5.mono (by omega)))
     clear hb5 hrr haa HW p1 p2 p3
     have f1:=Lib.frozen_of_heap rr5 1
     have p1:w5.cell? ⟨w3.heap.size,1,none⟩=some (.int .i64 r.a):=by rw[Lib.cell_of_heap rr5];rfl
     have aa6:=(heap_setCell_other w5 ⟨w3.heap.size,1,none⟩ w.heap.size (.int .i64 0) (by show w.heap.size≠w3.heap.size;omega)).trans aa5
     have rr6:=heap_setCell_same w5 w3.heap.size 1 _ _ (.int .i64 0) rr5
     have HW6:=Tryz.hidU (HW5.out.setCell (p:=⟨w3.heap.size,1,none⟩) (by show w.heap.size≤w3.heap.size;omega) (.int .i64 0))
     clear rr5 aa5 HW5
     go_wp2_with fail
     all_goals try (exfalso;omega)
     refine(Tryz.rfield_calls w3.heap.size _ w5).mono ?_
     rintro e w6 ⟨rfl,he⟩
     subst he
     go_wp2_with fail
     go_roundw
     case rel=>exact⟨j+1,Tryz.setF r 65 0,_,rfl,rfl,by omega,hls2,rr6,aa6,HW6,HR2⟩
     case measure=>simp[intOf];omega
    ·by_cases hr:a.b < -999999999∨999999999<a.b
     ·have hR0:=Tryz.hidU (show Tryz.lineRf itoa a=(⟨#[]⟩,false) by unfold Tryz.lineRf;rw[hF.out];simp only;rw[←HR.out];unfold Tryz.runH;rw[if_pos (show Tryz.getF a 66 < -999999999∨999999999<Tryz.getF a 66 from hr)])
      clear HR
      go_wp2_with fail
      all_goals (go_ret2;refine⟨?_,HW.out⟩;rw[hR0.out];rfl)
     have hlo: -999999999≤a.b:=by omega
     have hhi:a.b≤999999999:=by omega
     have hz:=HLN.out a.b (.inr (.inl rfl)) hlo hhi
     have hR:Tryz.runH itoa a (x.2.2.data.toList.drop (j+1)) (Tryz.setF r 66 0) ((aV++⟨#[32]⟩)++itoa a.b)=Tryz.runH itoa a x.2.2.data.toList {a with kind:=0} x.1:=by
      rw[←HR.out]
      conv=>rhs;unfold Tryz.runH
      rw[if_neg (show¬(Tryz.getF a 66 < -999999999∨999999999<Tryz.getF a 66)from hr)]
      rfl
     have HR2:=Tryz.hidU hR
     have hls2:((aV++⟨#[32]⟩)++itoa a.b).size≤10+21*(j+1):=by
      rw[aOn,aOn]
      have:(⟨#[32]⟩:ByteArray).size=1:=rfl
      omega
     clear hr hR HR
     go_wp2_with fail
     all_goals try (exfalso;omega)
     refine(HI.out a.b (.inr (.inl rfl)) hlo hhi w4 HW.out).mono ?_
     rintro e w5 ⟨rfl,hb5⟩
     have sz5:=hb5.size
     have rr5:=(hb5.block w3.heap.size l1).trans hrr
     have aa5:=(hb5.block w.heap.size (by omega)).trans haa
     have HW5:=Tryz.hidU (HW.out.trans (hb5.mono (by omega)))
     clear hb5 hrr haa HW p1 p2 p3
     have f1:=Lib.frozen_of_heap rr5 2
     have p1:w5.cell? ⟨w3.heap.size,2,none⟩=some (.int .i64 r.b):=by rw[Lib.cell_of_heap rr5];rfl
     have aa6:=(heap_setCell_other w5 ⟨w3.heap.size,2,none⟩ w.heap.size (.int .i64 0) (by show w.heap.size≠w3.heap.size;omega)).trans aa5
     have rr6:=heap_setCell_same w5 w3.heap.size 2 _ _ (.int .i64 0) rr5
     have HW6:=Tryz.hidU (HW5.out.setCell (p:=⟨w3.heap.size,2,none⟩) (by show w.heap.size≤w3.heap.size;omega) (.int .i64 0))
     clear rr5 aa5 HW5
     go_wp2_with fail
     all_goals try (exfalso;omega)
     refine(Tryz.rfield_calls w3.heap.size _ w5).mono ?_
     rintro e w6 ⟨rfl,he⟩
     subst he
     go_wp2_with fail
     go_roundw
     case rel=>exact⟨j+1,Tryz.setF r 66 0,_,rfl,rfl,by omega,hls2,rr6,aa6,HW6,HR2⟩
     case measure=>simp[intOf];omega
    by_cases hr:a.n < -999999999∨999999999<a.n
    ·have hR0:=Tryz.hidU (show Tryz.lineRf itoa a=(⟨#[]⟩,false) by unfold Tryz.lineRf;rw[hF.out];simp only;rw[←HR.out];unfold Tryz.runH;rw[if_pos (show Tryz.getF a 78 < -999999999∨999999999<Tryz.getF a 78 from hr)])
     clear HR
     go_wp2_with fail
     all_goals (go_ret2;refine⟨?_,HW.out⟩;rw[hR0.out];rfl)
    have hlo: -999999999≤a.n:=by omega
    have hhi:a.n≤999999999:=by omega
    have hz:=HLN.out a.n (.inr (.inr rfl)) hlo hhi
    have hR:Tryz.runH itoa a (x.2.2.data.toList.drop (j+1)) (Tryz.setF r 78 0) ((aV++⟨#[32]⟩)++itoa a.n)=Tryz.runH itoa a x.2.2.data.toList {a with kind:=0} x.1:=by
     rw[←HR.out]
     conv=>rhs;unfold Tryz.runH
     rw[if_neg (show¬(Tryz.getF a 78 < -999999999∨999999999<Tryz.getF a 78)from hr)]
     rfl
    have HR2:=Tryz.hidU hR
    have hls2:((aV++⟨#[32]⟩)++itoa a.n).size≤10+21*(j+1):=by
     rw[aOn,aOn]
     have:(⟨#[32]⟩:ByteArray).size=1:=rfl
     omega
    clear hr hR HR
    go_wp2_with fail
    all_goals try (exfalso;omega)
    refine(HI.out a.n (.inr (.inr rfl)) hlo hhi w4 HW.out).mono ?_
    rintro e w5 ⟨rfl,hb5⟩
    have sz5:=hb5.size
    have rr5:=(hb5.block w3.heap.size l1).trans hrr
    have aa5:=(hb5.block w.heap.size (by omega)).trans haa
    have HW5:=Tryz.hidU (HW.out.trans (hb5.mono (by omega)))
    clear hb5 hrr haa HW p1 p2 p3
    have f1:=Lib.frozen_of_heap rr5 3
    have p1:w5.cell? ⟨w3.heap.size,3,none⟩=some (.int .i64 r.n):=by rw[Lib.cell_of_heap rr5];rfl
    have aa6:=(heap_setCell_other w5 ⟨w3.heap.size,3,none⟩ w.heap.size (.int .i64 0) (by show w.heap.size≠w3.heap.size;omega)).trans aa5
    have rr6:=heap_setCell_same w5 w3.heap.size 3 _ _ (.int .i64 0) rr5
    have HW6:=Tryz.hidU (HW5.out.setCell (p:=⟨w3.heap.size,3,none⟩) (by show w.heap.size≤w3.heap.size;omega) (.int .i64 0))
    clear rr5 aa5 HW5
    go_wp2_with fail
    all_goals try (exfalso;omega)
    refine(Tryz.rfield_calls w3.heap.size _ w5).mono ?_
    rintro e w6 ⟨rfl,he⟩
    subst he
    go_wp2_with fail
    go_roundw
    case rel=>exact⟨j+1,Tryz.setF r 78 0,_,rfl,rfl,by omega,hls2,rr6,aa6,HW6,HR2⟩
    case measure=>simp[intOf];omega
   have hje:j=x.2.2.size:=by omega
   subst hje
   have r0:wr.cell? ⟨w3.heap.size,0,none⟩=some (.int .i64 r.kind):=by rw[Lib.cell_of_heap hrr];rfl
   have r1:wr.cell? ⟨w3.heap.size,1,none⟩=some (.int .i64 r.a):=by rw[Lib.cell_of_heap hrr];rfl
   have r2:wr.cell? ⟨w3.heap.size,2,none⟩=some (.int .i64 r.b):=by rw[Lib.cell_of_heap hrr];rfl
   have r3:wr.cell? ⟨w3.heap.size,3,none⟩=some (.int .i64 r.n):=by rw[Lib.cell_of_heap hrr];rfl
   have hR:Tryz.runH itoa a x.2.2.data.toList {a with kind:=0} x.1=some (aV,r):=by
    rw[←HR.out,show x.2.2.data.toList.drop x.2.2.size=[]from aOu (aOI (Lib.size_eq x.2.2).symm)];rfl
   have hA:=Tryz.hidU (show Tryz.lineRf itoa a=(aV++⟨#[10]⟩,(r.kind == 0)&&((r.a == 0)&&((r.b == 0)&&(r.n == 0)))) by unfold Tryz.lineRf;rw[hF.out];simp only;rw[hR])
   clear hrr haa hR HR
   have hbz:=Tryz.build39z
   have heq:=fun(w:World)=>Tryz.eq39 r.kind r.a r.b r.n 0 0 0 0 w
   go_wp2_with fail
   all_goals trace_state
   go_quiet (fail)
   all_goals trace_state
   go_wp2_with fail
   all_goals trace_state
   all_goals (go_ret2;refine⟨by rw[hA.out];rfl,⟨HW.out.os,HW.out.tape,HW.out.output,HW.out.size,HW.out.block⟩⟩)
end Go.Proofs
namespace Go.Vm
open Go
theorem aEy {α:Type}(a:Array α)(i:Nat)(f:α→α)(x y:α)(h:a[i]? =some x)(hy:f x=y):a.modify i f=a.setIfInBounds i y:=by
 apply aOG
 intro j
 by_cases hj:i=j
 ·subst hj
  have hi:=(aOg.1 h).1
  rw[aOp hi,aOD,if_pos rfl,h,←hy];rfl
 rw[aOj hj,aOD,if_neg hj]
theorem Grow.mark {A:Nat→Prop}{M:List (Option Nat)}{h:Hp}{w:World}(H:HR A M h w){b:Nat}{B:Blk}(hb:h[b]? =some (some B)){g:Nat}(hg:M[b]? =some (some g)){e:TypeId}{sz:Nat}(hs:w.shape? g=some (e,sz)):
  Grow A M h w M h (w.freeze ⟨g,sz,none⟩ 1):=by
 obtain⟨hB1,⟨hn,_⟩|⟨g',cs,hg',hA,hh,hle,hcs⟩⟩:=H.blk b B hb
 ·rw[hg]at hn;cases hn
 rw[hg]at hg';injection hg' with hg';injection hg' with hg';subst hg'
 obtain⟨f,hf,hh⟩:=hh.inCells hs
 have hsh:(e,sz)=(B.e,cs.size):=by
  have:w.shape? g=some (B.e,cs.size):=by unfold World.shape?; rw[hh]
  rw[this]at hs;exact(aOl hs).symm
 rw[aOK]at hsh
 obtain⟨rfl,rfl⟩:=hsh
 have hgs:g<w.heap.size:=(aOg.1 hh).1
 have hw:w.freeze ⟨g,cs.size,none⟩ 1={w with heap:=w.heap.setIfInBounds g (.cells cs B.e (cs.size,cs.size+1))}:=by
  unfold World.freeze
  rw[if_neg (by decide),aEy w.heap g _ _ (.cells cs B.e (cs.size,cs.size+1)) hh (by rcases hf with rfl|rfl<;>simp)]
 rw[hw]
 have hE:Ext (bN M h) w {w with heap:=w.heap.setIfInBounds g (.cells cs B.e (cs.size,cs.size+1))}:=by
  refine⟨rfl,rfl,rfl,by simp,fun k hk hn=> ?_,fun k sh hsh=> ?_,fun k hk hsh=> ?_⟩
  ·show(w.heap.setIfInBounds g _)[k]? =_
   rw[aOj (by rintro rfl;exact hn ⟨b,B,hb,hg⟩)]
  ·unfold World.shape? at *
   show(match(w.heap.setIfInBounds g (.cells cs B.e (cs.size,cs.size+1)))[k]? with|some (.cells c elem _)=>some (elem,c.size)|_=>none)=some sh
   by_cases hk:g=k
   ·subst hk
    rw[aOp hgs]
    rw[hh]at hsh
    simpa using hsh
   rw[aOj hk];exact hsh
  unfold World.shape? at *
  show(match(w.heap.setIfInBounds g (.cells cs B.e (cs.size,cs.size+1)))[k]? with|some (.cells c elem _)=>some (elem,c.size)|_=>none)=none
  by_cases hk:g=k
  ·subst hk
   rw[hh]at hsh
   cases hsh
  rw[aOj hk];exact hsh
 have keep: ∀cs us,VCells (Xs A M h) M w cs us→VCells (Xs A M h) M _ cs us:=
  fun cs us hk=>VCells.ext hE (aOr _) (fun _ _ hl=> .inr hl) (fun k hk hx=>hx) cs us hk
 refine⟨aOr _,⟨H.len,fun k hk=>by simpa using H.alt k hk, ?_,H.inj,H.glob.grow hE fun _ _ h=>h⟩,hE,fun _ _ h=>h⟩
 intro i C hi
 obtain⟨h0,hn|⟨k,ds,hk,hA',hh',hle',hds⟩⟩:=H.blk i C hi
 ·exact⟨h0,.inl hn⟩
 refine⟨h0,.inr ⟨k,ds,hk,hA', ?_,hle',keep _ _ hds⟩⟩
 by_cases hkg:k=g
 ·subst hkg
  have:=H.inj i b C B k hi hb hk hg
  subst this
  rw[hb]at hi
  obtain rfl:=aOl (aOl hi)
  rcases hh' with⟨f',_,h2⟩|⟨es,c,h2,_⟩
  ·rw[hh]at h2
   injection h2 with h2
   injection h2 with h2 h3 h4
   subst h2
   exact .inl ⟨_,.inr rfl,by simp[hgs]⟩
  rw[hh]at h2;cases h2
 refine hh'.to ?_
 show(w.heap.setIfInBounds g _)[k]? =_
 rw[aOj (Ne.symm hkg)]
section
variable {P:Program}{N n:Nat}{ops:Array Oper}{l:List Oper}{fr:List (Nat×V)}{h h':Hp}{K:List V→Hp→Prop}
theorem aMe {t:Nat}{a e:TypeId}{x:Operand}{b off len:Nat}{ag:Bool}{B:Blk}{s1 b1 s2 b2:Nat}{z1 z2:Value}{ty:TypeId}{pos:String}{aft:Array Edge}(hx:aU n fr x=some (.sl b off len 1 ag))(hb:h[b]? =some (some B))
  (ha:aD P a=some ⟨.slice e,s1,b1,z1⟩) (he:aD P e=some ⟨.int .u8,s2,b2,z2⟩) (hn:0<len)
  (k:OpsW P N ops l (aE n ((t,.sl b off len 1 ag)::fr)) h K):OpsW P N ops (⟨some t,.convert a a x,ty,pos,aft,none⟩::l) (aE n fr) h K:=by
 refine OpsW.does (v:= .sl b off len 1 ag) rfl ?_ (by dsimp only;rw[aAe];exact k)
 intro A M ac w H S
 have hev:=aW H.glob S (bQ hx)
 have hv0:=hev
 unfold VR at hev
 rcases hev with⟨_,_,h3,_⟩|⟨g,cap,e',sz,hg,hv,h1,h2,h3,h4,h5⟩
 ·omega
 have G:=Grow.mark H hb hg h4
 refine Does.value (sem:=convert a a (.slice (some ⟨g,off,none⟩) len cap)) (by simp[execOp,hv]) ⟨_,_,_, ?_,G,VR.ext G.ext G.pre (fun _ _ hl=> .inr hl) (fun _ _ h=>h) _ _ (hv▸hv0)⟩
 simp[convert,run_underlying (bF ha).1,run_underlying (bF he).1,markStringish,h4]
theorem xOf {s:List V}(k:OpsX P N none ops l s h K):OpsW P N ops l s h K:=k
theorem xHp {m:Option (List Nat×List Nat)}{s:List V}{h':Hp}(e:h=h')(k:OpsX P N m ops l s h' K):OpsX P N m ops l s h K:=e▸k
end
theorem aAz {P:Program}{h h':Hp}{t e:TypeId}{ti:TI}{i sz by_:Nat}{z:Value}{ag:Bool}(ht:aD P t=some ⟨.slice e,sz,by_,z⟩)(he:aD P e=some ti)(hs:ti.size=1)(hag:a7 ti.desc=ag)(hl:h.length=i)(hh:h++[some ⟨e,[]⟩]=h'):eO P t 0 [] h=some (.sl i 0 0 1 ag,h'):=by
 subst hl hh hag
 unfold eO
 rw[ht]
 simp only[he,hs]
 rfl
end Go.Vm
namespace Go.Proofs
open Go.Shelf Go.RowKit Go.Lib
set_option maxHeartbeats 8000000 in
theorem Tryz.rnumber_pos (n:Nat)(hn:n≤999999999)(t:ByteArray)(w:World)
  (hfrom: ∀W,Below w.heap.size w W→Calls Tryz.prog 79 #[.int .u64 n] W fun e w'=>e= .returned (.agg #[.int .u64 n,.int .u64 0,.int .u64 0,.int .u64 0])∧Below W.heap.size W w')
  (htext: ∀W,Below w.heap.size w W→Calls Tryz.prog 78 #[.agg #[.int .u64 n,.int .u64 0,.int .u64 0,.int .u64 0]] W fun e w'=>e= .returned (.string t)∧Below W.heap.size W w'):
  Calls Tryz.prog 50 #[.int .i64 n] w fun e w'=>e= .returned (.string t)∧Below w.heap.size w w':=by
 have h0: ¬((n:Int)<0):=by omega
 have hw:IntKind.u64.wrap (n:Int)=(n:Int):=Vm.wu64 (by omega) (by omega)
 have HF:=Tryz.hidU hfrom
 have HT:=Tryz.hidU htext
 clear hfrom htext
 go_enter Tryz.func50,Tryz.ntmps50
 go_wp2_with fail
 all_goals try (exfalso;omega)
 all_goals try rw[hw]
 refine(HF.out w (Below.refl _ _)).mono ?_
 rintro e w3 ⟨rfl,hb3⟩
 go_wp2_with fail
 refine(HT.out w3 hb3).mono ?_
 rintro e w4 ⟨rfl,hb4⟩
 go_wp2_with fail
 go_ret
 exact⟨rfl,hb3.trans (hb4.mono hb3.size)⟩
set_option maxHeartbeats 8000000 in
theorem Tryz.rnumber_neg (n:Nat)(h1:1≤n)(hn:n≤999999999)(t:ByteArray)(ht:t.size≤1000)(w:World)
  (hpos: ∀W,Below w.heap.size w W→Calls Tryz.prog 50 #[.int .i64 n] W fun e w'=>e= .returned (.string t)∧Below W.heap.size W w'):
  Calls Tryz.prog 50 #[.int .i64 (-(n:Int))] w fun e w'=>e= .returned (.string (⟨#[45]⟩++t))∧Below w.heap.size w w':=by
 have h0:(-(n:Int))<0:=by omega
 have HP:=Tryz.hidU hpos
 clear hpos
 go_enter Tryz.func50,Tryz.ntmps50
 go_wp2_with fail
 all_goals try (exfalso;omega)
 all_goals try rw[Int.neg_neg]
 refine(HP.out w (Below.refl _ _)).mono ?_
 rintro e w3 ⟨rfl,hb3⟩
 go_wp2_with fail
 all_goals try (exfalso;omega)
 go_ret
 exact⟨rfl,hb3⟩
end Go.Proofs
namespace Go.Proofs.YtjcfonniipabpaaGreatDoor
open Go Go.Proofs Go.RowKit Go.Vm
theorem aDe {N:Nat}{n:Int}{r:ByteArray}(hfrom: ∀{a:Int} {q:List Int},gA N a=some q→Vm.Fn Tryz.prog 79 [] [eI .u64 a] (.agg (q.map (eI .u64))) [])(htext: ∀{a:List Int} {q:ByteArray},mI N a=some q→Vm.Fn Tryz.prog 78 [] [.agg (a.map (eI .u64))] (eS q) [])(hr:bW N n=some r):
  Vm.Fn Tryz.prog 50 [] [eI .i64 n] (eS r) []:=by
 unfold bW at hr
 split at hr
 ·rename_i hc
  split at hr
  ·rename_i t ht
   split at hr
   ·rename_i hs
    obtain rfl:=aOl hr
    refine mF (v0:= .string (if n<0 then⟨#[45]⟩++t else t)) Tryz.func50 (by kernel_rfl) (by kernel_rfl) (fun X w=>by simp[VR]) fun X w vs hX hG hv=> ?_
    have hvs:vs=[.int .i64 n]:=by simpa[VR,VCells]using hv
    subst hvs
    have pos: ∀W,Below w.heap.size w W→Calls Tryz.prog 50 #[.int .i64 (n.natAbs:Int)] W fun e w'=>e= .returned (.string t)∧Below W.heap.size W w':=fun W hB=>by
     have hXW: ∀g,X g→g<W.heap.size:=fun g h=>aOh (hX g h) hB.size
     have hGW:Globs X W:=hG.ext (gI hB) (fun _ _ h=>h.elim) fun _ _ h=>h
     refine Tryz.rnumber_pos n.natAbs (by omega) t W (fun U hU=> ?_) fun U hU=> ?_
     ·exact jQ (vs:=[.int .u64 (n.natAbs:Int)]) Tryz.func79 (by kernel_rfl) (by kernel_rfl) (hfrom (a:=(n.natAbs:Int)) (q:=[(n.natAbs:Int),0,0,0]) rfl) hXW hGW hU (fun Y=>by simp[VR,VCells]) fun Y U v hv=>by simp[VR,VCells]at hv;exact hv
     exact jQ (vs:=[.agg #[.int .u64 (n.natAbs:Int),.int .u64 0,.int .u64 0,.int .u64 0]]) Tryz.func78 (by kernel_rfl) (by kernel_rfl) (htext ht) hXW hGW hU (fun Y=>by simp[VR,VCells]) fun Y U v hv=>by simp[VR,VCells]at hv;exact hv
    by_cases h:n<0
    ·rw[if_pos h]
     have e:n= -((n.natAbs:Nat):Int):=by omega
     have:=Tryz.rnumber_neg n.natAbs (by omega) (by omega) t hs w pos
     rw[←e]at this
     exact this
    rw[if_neg h]
    have e:((n.natAbs:Nat):Int)=n:=by omega
    have:=pos w (Below.refl _ _)
    rw[e]at this
    exact this
   cases hr
  cases hr
 cases hr
theorem aFw {N:Nat}{l:List ByteArray}{r:Int×Int×Int×Int×Bool}(hnum: ∀{s:ByteArray} {q:Int×Bool},cS N s=some q→Vm.Fn Tryz.prog 47 [] [eS s] (.tup [eI .i64 q.1,eB q.2]) [])(hname: ∀{k:Int} {q:ByteArray×ByteArray},gE N k=some q→Vm.Fn Tryz.prog 46 [] [eI .i64 k] (.tup [eS q.1,eS q.2]) [])(hr:oI N l=some r):
  Vm.Fn Tryz.prog 26 [] [(.row none 1 (l.map eS))] (.tup [(.agg [(eI .i64 r.1),(eI .i64 r.2.1),(eI .i64 r.2.2.1),(eI .i64 r.2.2.2.1)]),(eB r.2.2.2.2)]) []:=by
 unfold oI at hr
 cases l with
 |nil=>cases hr
 |cons w0 ws=>
  simp only at hr
  split at hr
  ·rename_i hc
   obtain⟨hl,hall,hnm⟩:=hc
   obtain rfl:=aOl hr
   clear hr
   generalize hA:Tryz.actR (fun s=>(cS N s).getD (0,false)) w0 ws=A
   obtain⟨⟨a1,a2,a3,a4⟩,ok⟩:=A
   refine mF (v0:= .tuple #[.agg #[.int .i64 a1,.int .i64 a2,.int .i64 a3,.int .i64 a4],.bool ok]) Tryz.func26 (by kernel_rfl) (by kernel_rfl) (fun X w=> ?_) fun X w vs hX hG hv=> ?_
   ·simp[VR,VCells]
   unfold VCells at hv
   obtain⟨v,rest,rfl,hv,hn⟩:=hv
   unfold VCells at hn
   subst hn
   rcases aED (fun x=> .string x) (fun _=>rfl) hv with⟨h0,_⟩|⟨bk,o,c,rfl,_,hbk,hcells⟩
   ·cases h0
   have:=Tryz.ract_calls (fun s=>(cS N s).getD (0,false)) bk o c w0 ws w hl hbk hcells (fun s hs W hB=> ?_) fun k hk W hB=> ?_
   ·rw[hA]at this;exact this
   ·obtain⟨q,hq⟩:=aOs.1 (aOw.1 hall s hs)
    simp only[hq,aOx]
    refine jQ (vs:=[.string s]) (v0:= .tuple #[.int .i64 q.1,.bool q.2]) Tryz.func47 (by kernel_rfl) (by kernel_rfl) (hnum hq) hX hG hB (fun Y=> ?_) fun Y U v hv=> ?_
    ·simp[VR,VCells]
    simp[VR,VCells]at hv;exact hv
   have hq:gE N ((k:Int)+1)=some (Tryz.forms[k]!.1,Tryz.forms[k]!.2.2):=by
    have:=aOw.1 hnm k (List.mem_range.2 hk)
    simpa using this
   revert hq
   generalize Tryz.forms[k]! =fk
   intro hq
   refine jQ (vs:=[.int .i64 ((k:Int)+1)]) (v0:= .tuple #[.string fk.1,.string fk.2.2]) Tryz.func46 (by kernel_rfl) (by kernel_rfl) (hname hq) hX hG hB (fun Y=> ?_) fun Y U v hv=> ?_
   ·simp[VR,VCells]
   simp[VR,VCells]at hv;exact hv
  cases hr
theorem aES {N:Nat}{kd va vb vn:Int}{r:ByteArray×Bool}(hname: ∀{k:Int} {q:ByteArray×ByteArray},gE N k=some q→Vm.Fn Tryz.prog 46 [] [eI .i64 k] (.tup [eS q.1,eS q.2]) [])(hnumb: ∀{n:Int} {q:ByteArray},bW N n=some q→Vm.Fn Tryz.prog 50 [] [eI .i64 n] (eS q) [])(hr:mH N kd va vb vn=some r):
  Vm.Fn Tryz.prog 29 [] [(.agg [(eI .i64 kd),(eI .i64 va),(eI .i64 vb),(eI .i64 vn)])] (.tup [(eS r.1),(eB r.2)]) []:=by
 unfold mH at hr
 split at hr
 ·rename_i hc
  obtain⟨hnm,hall⟩:=hc
  obtain rfl:=aOl hr
  clear hr
  have inr: ∀n:Int,n=va∨n=vb∨n=vn→ -999999999≤n→n≤999999999→ ∃q,bW N n=some q∧q.size≤20:=fun n hm h0 h1=>by
   have:=aOw.1 hall n (by simpa using hm)
   rw[decide_eq_false (by omega),Bool.false_or,Bool.and_eq_true,decide_eq_true_eq]at this
   obtain⟨q,hq⟩:=aOs.1 this.1
   exact⟨q,hq,by have h:=this.2;rw[hq]at h;exact h⟩
  refine mF (v0:= .tuple #[.string (Tryz.lineRf (fun n=>(bW N n).getD ⟨#[]⟩) ⟨kd,va,vb,vn⟩).1,.bool (Tryz.lineRf (fun n=>(bW N n).getD ⟨#[]⟩) ⟨kd,va,vb,vn⟩).2]) Tryz.func29 (by kernel_rfl) (by kernel_rfl) (fun X w=>by simp[VR,VCells,eS,eB]) fun X w vs hX hG hv=> ?_
  have hvs:vs=[.agg #[.int .i64 kd,.int .i64 va,.int .i64 vb,.int .i64 vn]]:=by simpa[VR,VCells,eI]using hv
  subst hvs
  refine Tryz.rline_calls (fun n=>(bW N n).getD ⟨#[]⟩) ⟨kd,va,vb,vn⟩ w (fun n hm h0 h1=> ?_) (fun n hm h0 h1 W hB=> ?_) fun W hB=> ?_
  ·obtain⟨q,hq,hz⟩:=inr n hm h0 h1
   simp only[hq,aOx]
   exact hz
  ·obtain⟨q,hq,hz⟩:=inr n hm h0 h1
   simp only[hq,aOx]
   refine jQ (vs:=[.int .i64 n]) (v0:= .string q) Tryz.func50 (by kernel_rfl) (by kernel_rfl) (hnumb hq) hX hG hB (fun Y=> ?_) fun Y U v hv=> ?_
   ·simp[VR,VCells]
   simp[VR]at hv;exact hv
  refine jQ (vs:=[.int .i64 kd]) (v0:= .tuple #[.string (Tryz.nmOf kd).1,.string (Tryz.nmOf kd).2]) Tryz.func46 (by kernel_rfl) (by kernel_rfl) (hname hnm) hX hG hB (fun Y=> ?_) fun Y U v hv=> ?_
  ·simp[VR,VCells]
  simp[VR,VCells]at hv;exact hv
 cases hr
end Go.Proofs.YtjcfonniipabpaaGreatDoor
