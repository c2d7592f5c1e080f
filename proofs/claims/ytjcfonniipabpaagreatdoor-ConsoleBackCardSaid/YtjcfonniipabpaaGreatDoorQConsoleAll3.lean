/- Texts of ours, joined: Ty, Lift, Lift2, Open, Laid, Great2, Great3, VmDrawG, VmFrz, VmStr, VmArr, VmExt, VmStl, VmEq, VmAis, VmShort, VmCut, VmQ, VmX. -/
import Derived.Test.YtjcfonniipabpaaGreatDoorQConsoleAll2
import Derived.Test.YtjcfonniipabpaaGreatDoorRows
import Derived.Test.YtjcfonniipabpaaGreatDoorCards
import Derived.WalkKit
import Derived.ProofKit
import Derived.OpenShut
import Derived.LaidSub
import Derived.Deep.DeepHandedRow
import Derived.Lib.LaidTab
import Derived.JoinedOf
import GoSem.ClaimSeven
import Derived.Laws.IdiomStrings
import Derived.ChangeKeysEq
import Derived.Scope
open Bool renaming false_eq_true → aOg,and_eq_true → aOm,or_eq_true → aOJ,and_true → aOS,false_or → aO5
open List renaming take_of_length_le → aOh,all_eq_true → aOi,eq_nil_of_length_eq_zero → aOk,getElem?_eq_getElem → aOn,flatMap_cons → aOq,drop_eq_nil_of_le → aOr,length_take → aOu,length_map → aOw,take_append_drop → aOx,drop_eq_getElem_cons → aOz,drop_zero → aOA,drop_drop → aOB,length_cons → aOC,take_succ_eq_append_getElem → aOD,getElem?_map → aOE,range → aOF,length_drop → aOH,append_nil → aOI,getD_eq_getElem?_getD → aOL,getElem?_eq_some_iff → aOM,append_assoc → aON,getElem?_cons_succ → aOP,getElem?_cons_zero → aOQ,all_cons → aOR,range'_succ → aOT,getElem?_toArray → aOU,forIn_cons → aOV,headD_cons → aOW,getElem?_eq_none → aOX,mem_of_getElem? → aOY,mapM_cons → aOZ,forIn_nil → aO0,replicate → aO1,take_succ_cons → aO2,drop_succ_cons → aO4,length_append → aO6,ext_getElem? → aO8,mem_map → aO9,take_append → aPb,cons_append → aPc,mem_filter → aPd,nil_append → aPf
open Array renaming getElem?_eq_some_iff → aOj,forIn_toList → aO7,replicate → aPe
open Option renaming map_eq_some_iff → aOl,map_some → aOo,bind_eq_some_iff → aOO
open Option.some renaming injEq → aOp,inj → aOv
open Nat renaming add_mul → aOs,le_refl → aOt,one_mul → aOG,add_one_sub_one → aOK,sub_zero → aPa,div_one → aPg
open Prod.mk renaming injEq → aOy
open Int renaming le_refl → aO3
namespace Go.Proofs.YtjcfonniipabpaaGreatDoor
open Go Go.Vm
@[simp] theorem ti2 :aD Tryz.prog 2=some ⟨.int .i64,1,8,.int .i64 0⟩:=by kernel_rfl
@[simp] theorem tZ :aD Tryz.prog 3=some ⟨.int .i64,1,8,.int .i64 0⟩:=by kernel_rfl
@[simp] theorem ti4 :aD Tryz.prog 4=some ⟨.bool,1,1,.bool false⟩:=by kernel_rfl
@[simp] theorem cG :aD Tryz.prog 5=some ⟨.int .u8,1,1,.int .u8 0⟩:=by kernel_rfl
@[simp] theorem eT :aD Tryz.prog 9=some ⟨.string,1,16,.string .empty⟩:=by kernel_rfl
@[simp] theorem aML :aD Tryz.prog 12=some ⟨.int .u64,1,8,.int .u64 0⟩:=by kernel_rfl
@[simp] theorem aNS :aD Tryz.prog 21=some ⟨.int .i32,1,4,.int .i32 0⟩:=by kernel_rfl
@[simp] theorem aGz :aD Tryz.prog 22=some ⟨.slice 3,1,24,.slice none 0 0⟩:=by kernel_rfl
@[simp] theorem yH :aD Tryz.prog 25=some ⟨.slice 9,1,24,.slice none 0 0⟩:=by kernel_rfl
@[simp] theorem aDh :aD Tryz.prog 26=some ⟨.slice 39,1,24,.slice none 0 0⟩:=by kernel_rfl
@[simp] theorem aNV :aD Tryz.prog 27=some ⟨.int .i64,1,8,.int .i64 0⟩:=by kernel_rfl
@[simp] theorem bJ :aD Tryz.prog 33=some ⟨.slice 5,1,24,.slice none 0 0⟩:=by kernel_rfl
@[simp] theorem aMY :aD Tryz.prog 36=some ⟨.pointer 88,1,8,.pointer none⟩:=by kernel_rfl
@[simp] theorem aN7 :aD Tryz.prog 38=some ⟨.struct #[{name:= "Kind",type:=3,offset:=0,embedded:=false,tag:= "",pkgPath:= "",byteOffset:=0},{name:= "A",type:=3,offset:=1,embedded:=false,tag:= "",pkgPath:= "",byteOffset:=8},{name:= "B",type:=3,offset:=2,embedded:=false,tag:= "",pkgPath:= "",byteOffset:=16},{name:= "N",type:=3,offset:=3,embedded:=false,tag:= "",pkgPath:= "",byteOffset:=24}],4,32,.agg #[.int .i64 0,.int .i64 0,.int .i64 0,.int .i64 0]⟩:=by kernel_rfl
@[simp] theorem o5 :aD Tryz.prog 39=some ⟨.struct #[{name:= "Kind",type:=3,offset:=0,embedded:=false,tag:= "",pkgPath:= "",byteOffset:=0},{name:= "A",type:=3,offset:=1,embedded:=false,tag:= "",pkgPath:= "",byteOffset:=8},{name:= "B",type:=3,offset:=2,embedded:=false,tag:= "",pkgPath:= "",byteOffset:=16},{name:= "N",type:=3,offset:=3,embedded:=false,tag:= "",pkgPath:= "",byteOffset:=24}],4,32,.agg #[.int .i64 0,.int .i64 0,.int .i64 0,.int .i64 0]⟩:=by kernel_rfl
@[simp] theorem aND :aD Tryz.prog 40=some ⟨.slice 26,1,24,.slice none 0 0⟩:=by kernel_rfl
@[simp] theorem aC4 :aD Tryz.prog 44=some ⟨.int .u32,1,4,.int .u32 0⟩:=by kernel_rfl
@[simp] theorem aNp :aD Tryz.prog 45=some ⟨.array 32 5,32,32,.agg #[.int .u8 0,.int .u8 0,.int .u8 0,.int .u8 0,.int .u8 0,.int .u8 0,.int .u8 0,.int .u8 0,.int .u8 0,.int .u8 0,.int .u8 0,.int .u8 0,.int .u8 0,.int .u8 0,.int .u8 0,.int .u8 0,.int .u8 0,.int .u8 0,.int .u8 0,.int .u8 0,.int .u8 0,.int .u8 0,.int .u8 0,.int .u8 0,.int .u8 0,.int .u8 0,.int .u8 0,.int .u8 0,.int .u8 0,.int .u8 0,.int .u8 0,.int .u8 0]⟩:=by kernel_rfl
@[simp] theorem aN9 :aD Tryz.prog 46=some ⟨.array 32 5,32,32,.agg #[.int .u8 0,.int .u8 0,.int .u8 0,.int .u8 0,.int .u8 0,.int .u8 0,.int .u8 0,.int .u8 0,.int .u8 0,.int .u8 0,.int .u8 0,.int .u8 0,.int .u8 0,.int .u8 0,.int .u8 0,.int .u8 0,.int .u8 0,.int .u8 0,.int .u8 0,.int .u8 0,.int .u8 0,.int .u8 0,.int .u8 0,.int .u8 0,.int .u8 0,.int .u8 0,.int .u8 0,.int .u8 0,.int .u8 0,.int .u8 0,.int .u8 0,.int .u8 0]⟩:=by kernel_rfl
@[simp] theorem aNn :aD Tryz.prog 47=some ⟨.struct #[{name:= "Version",type:=44,offset:=0,embedded:=false,tag:= "",pkgPath:= "",byteOffset:=0},{name:= "Prev",type:=46,offset:=1,embedded:=false,tag:= "",pkgPath:= "",byteOffset:=4},{name:= "Root",type:=46,offset:=33,embedded:=false,tag:= "",pkgPath:= "",byteOffset:=36},{name:= "Time",type:=44,offset:=65,embedded:=false,tag:= "",pkgPath:= "",byteOffset:=68},{name:= "Bits",type:=44,offset:=66,embedded:=false,tag:= "",pkgPath:= "",byteOffset:=72},{name:= "Nonce",type:=44,offset:=67,embedded:=false,tag:= "",pkgPath:= "",byteOffset:=76}],68,80,.agg #[.int .u32 0,.int .u8 0,.int .u8 0,.int .u8 0,.int .u8 0,.int .u8 0,.int .u8 0,.int .u8 0,.int .u8 0,.int .u8 0,.int .u8 0,.int .u8 0,.int .u8 0,.int .u8 0,.int .u8 0,.int .u8 0,.int .u8 0,.int .u8 0,.int .u8 0,.int .u8 0,.int .u8 0,.int .u8 0,.int .u8 0,.int .u8 0,.int .u8 0,.int .u8 0,.int .u8 0,.int .u8 0,.int .u8 0,.int .u8 0,.int .u8 0,.int .u8 0,.int .u8 0,.int .u8 0,.int .u8 0,.int .u8 0,.int .u8 0,.int .u8 0,.int .u8 0,.int .u8 0,.int .u8 0,.int .u8 0,.int .u8 0,.int .u8 0,.int .u8 0,.int .u8 0,.int .u8 0,.int .u8 0,.int .u8 0,.int .u8 0,.int .u8 0,.int .u8 0,.int .u8 0,.int .u8 0,.int .u8 0,.int .u8 0,.int .u8 0,.int .u8 0,.int .u8 0,.int .u8 0,.int .u8 0,.int .u8 0,.int .u8 0,.int .u8 0,.int .u8 0,.int .u32 0,.int .u32 0,.int .u32 0]⟩:=by kernel_rfl
@[simp] theorem aM7 :aD Tryz.prog 48=some ⟨.struct #[{name:= "Version",type:=44,offset:=0,embedded:=false,tag:= "",pkgPath:= "",byteOffset:=0},{name:= "Prev",type:=46,offset:=1,embedded:=false,tag:= "",pkgPath:= "",byteOffset:=4},{name:= "Root",type:=46,offset:=33,embedded:=false,tag:= "",pkgPath:= "",byteOffset:=36},{name:= "Time",type:=44,offset:=65,embedded:=false,tag:= "",pkgPath:= "",byteOffset:=68},{name:= "Bits",type:=44,offset:=66,embedded:=false,tag:= "",pkgPath:= "",byteOffset:=72},{name:= "Nonce",type:=44,offset:=67,embedded:=false,tag:= "",pkgPath:= "",byteOffset:=76}],68,80,.agg #[.int .u32 0,.int .u8 0,.int .u8 0,.int .u8 0,.int .u8 0,.int .u8 0,.int .u8 0,.int .u8 0,.int .u8 0,.int .u8 0,.int .u8 0,.int .u8 0,.int .u8 0,.int .u8 0,.int .u8 0,.int .u8 0,.int .u8 0,.int .u8 0,.int .u8 0,.int .u8 0,.int .u8 0,.int .u8 0,.int .u8 0,.int .u8 0,.int .u8 0,.int .u8 0,.int .u8 0,.int .u8 0,.int .u8 0,.int .u8 0,.int .u8 0,.int .u8 0,.int .u8 0,.int .u8 0,.int .u8 0,.int .u8 0,.int .u8 0,.int .u8 0,.int .u8 0,.int .u8 0,.int .u8 0,.int .u8 0,.int .u8 0,.int .u8 0,.int .u8 0,.int .u8 0,.int .u8 0,.int .u8 0,.int .u8 0,.int .u8 0,.int .u8 0,.int .u8 0,.int .u8 0,.int .u8 0,.int .u8 0,.int .u8 0,.int .u8 0,.int .u8 0,.int .u8 0,.int .u8 0,.int .u8 0,.int .u8 0,.int .u8 0,.int .u8 0,.int .u8 0,.int .u32 0,.int .u32 0,.int .u32 0]⟩:=by kernel_rfl
@[simp] theorem kM :aD Tryz.prog 49=some ⟨.int .u64,1,8,.int .u64 0⟩:=by kernel_rfl
@[simp] theorem aM3 :aD Tryz.prog 50=some ⟨.array 4 49,4,32,.agg #[.int .u64 0,.int .u64 0,.int .u64 0,.int .u64 0]⟩:=by kernel_rfl
@[simp] theorem bK :aD Tryz.prog 51=some ⟨.array 4 49,4,32,.agg #[.int .u64 0,.int .u64 0,.int .u64 0,.int .u64 0]⟩:=by kernel_rfl
@[simp] theorem aMW :aD Tryz.prog 52=some ⟨.slice 275,1,24,.slice none 0 0⟩:=by kernel_rfl
@[simp] theorem aM0 :aD Tryz.prog 53=some ⟨.struct #[{name:= "Genesis",type:=48,offset:=0,embedded:=false,tag:= "",pkgPath:= "",byteOffset:=0},{name:= "Limit",type:=51,offset:=68,embedded:=false,tag:= "",pkgPath:= "",byteOffset:=80},{name:= "Window",type:=3,offset:=72,embedded:=false,tag:= "",pkgPath:= "",byteOffset:=112},{name:= "Spacing",type:=44,offset:=73,embedded:=false,tag:= "",pkgPath:= "",byteOffset:=120},{name:= "Future",type:=44,offset:=74,embedded:=false,tag:= "",pkgPath:= "",byteOffset:=124},{name:= "Version",type:=44,offset:=75,embedded:=false,tag:= "",pkgPath:= "",byteOffset:=128},{name:= "Checkpoints",type:=52,offset:=76,embedded:=false,tag:= "",pkgPath:= "",byteOffset:=136},{name:= "Subsidy",type:=2,offset:=77,embedded:=false,tag:= "",pkgPath:= "",byteOffset:=160},{name:= "Halving",type:=3,offset:=78,embedded:=false,tag:= "",pkgPath:= "",byteOffset:=168},{name:= "Maturity",type:=3,offset:=79,embedded:=false,tag:= "",pkgPath:= "",byteOffset:=176}],80,184,.agg #[.int .u32 0,.int .u8 0,.int .u8 0,.int .u8 0,.int .u8 0,.int .u8 0,.int .u8 0,.int .u8 0,.int .u8 0,.int .u8 0,.int .u8 0,.int .u8 0,.int .u8 0,.int .u8 0,.int .u8 0,.int .u8 0,.int .u8 0,.int .u8 0,.int .u8 0,.int .u8 0,.int .u8 0,.int .u8 0,.int .u8 0,.int .u8 0,.int .u8 0,.int .u8 0,.int .u8 0,.int .u8 0,.int .u8 0,.int .u8 0,.int .u8 0,.int .u8 0,.int .u8 0,.int .u8 0,.int .u8 0,.int .u8 0,.int .u8 0,.int .u8 0,.int .u8 0,.int .u8 0,.int .u8 0,.int .u8 0,.int .u8 0,.int .u8 0,.int .u8 0,.int .u8 0,.int .u8 0,.int .u8 0,.int .u8 0,.int .u8 0,.int .u8 0,.int .u8 0,.int .u8 0,.int .u8 0,.int .u8 0,.int .u8 0,.int .u8 0,.int .u8 0,.int .u8 0,.int .u8 0,.int .u8 0,.int .u8 0,.int .u8 0,.int .u8 0,.int .u8 0,.int .u32 0,.int .u32 0,.int .u32 0,.int .u64 0,.int .u64 0,.int .u64 0,.int .u64 0,.int .i64 0,.int .u32 0,.int .u32 0,.int .u32 0,.slice none 0 0,.int .i64 0,.int .i64 0,.int .i64 0]⟩:=by kernel_rfl
@[simp] theorem aG0 :aD Tryz.prog 54=some ⟨.struct #[{name:= "Genesis",type:=48,offset:=0,embedded:=false,tag:= "",pkgPath:= "",byteOffset:=0},{name:= "Limit",type:=51,offset:=68,embedded:=false,tag:= "",pkgPath:= "",byteOffset:=80},{name:= "Window",type:=3,offset:=72,embedded:=false,tag:= "",pkgPath:= "",byteOffset:=112},{name:= "Spacing",type:=44,offset:=73,embedded:=false,tag:= "",pkgPath:= "",byteOffset:=120},{name:= "Future",type:=44,offset:=74,embedded:=false,tag:= "",pkgPath:= "",byteOffset:=124},{name:= "Version",type:=44,offset:=75,embedded:=false,tag:= "",pkgPath:= "",byteOffset:=128},{name:= "Checkpoints",type:=52,offset:=76,embedded:=false,tag:= "",pkgPath:= "",byteOffset:=136},{name:= "Subsidy",type:=2,offset:=77,embedded:=false,tag:= "",pkgPath:= "",byteOffset:=160},{name:= "Halving",type:=3,offset:=78,embedded:=false,tag:= "",pkgPath:= "",byteOffset:=168},{name:= "Maturity",type:=3,offset:=79,embedded:=false,tag:= "",pkgPath:= "",byteOffset:=176}],80,184,.agg #[.int .u32 0,.int .u8 0,.int .u8 0,.int .u8 0,.int .u8 0,.int .u8 0,.int .u8 0,.int .u8 0,.int .u8 0,.int .u8 0,.int .u8 0,.int .u8 0,.int .u8 0,.int .u8 0,.int .u8 0,.int .u8 0,.int .u8 0,.int .u8 0,.int .u8 0,.int .u8 0,.int .u8 0,.int .u8 0,.int .u8 0,.int .u8 0,.int .u8 0,.int .u8 0,.int .u8 0,.int .u8 0,.int .u8 0,.int .u8 0,.int .u8 0,.int .u8 0,.int .u8 0,.int .u8 0,.int .u8 0,.int .u8 0,.int .u8 0,.int .u8 0,.int .u8 0,.int .u8 0,.int .u8 0,.int .u8 0,.int .u8 0,.int .u8 0,.int .u8 0,.int .u8 0,.int .u8 0,.int .u8 0,.int .u8 0,.int .u8 0,.int .u8 0,.int .u8 0,.int .u8 0,.int .u8 0,.int .u8 0,.int .u8 0,.int .u8 0,.int .u8 0,.int .u8 0,.int .u8 0,.int .u8 0,.int .u8 0,.int .u8 0,.int .u8 0,.int .u8 0,.int .u32 0,.int .u32 0,.int .u32 0,.int .u64 0,.int .u64 0,.int .u64 0,.int .u64 0,.int .i64 0,.int .u32 0,.int .u32 0,.int .u32 0,.slice none 0 0,.int .i64 0,.int .i64 0,.int .i64 0]⟩:=by kernel_rfl
@[simp] theorem aNv :aD Tryz.prog 55=some ⟨.slice 165,1,24,.slice none 0 0⟩:=by kernel_rfl
@[simp] theorem aM4 :aD Tryz.prog 56=some ⟨.struct #[{name:= "Nodes",type:=55,offset:=0,embedded:=false,tag:= "",pkgPath:= "",byteOffset:=0},{name:= "Best",type:=3,offset:=1,embedded:=false,tag:= "",pkgPath:= "",byteOffset:=24}],2,32,.agg #[.slice none 0 0,.int .i64 0]⟩:=by kernel_rfl
@[simp] theorem aMM :aD Tryz.prog 57=some ⟨.struct #[{name:= "Nodes",type:=55,offset:=0,embedded:=false,tag:= "",pkgPath:= "",byteOffset:=0},{name:= "Best",type:=3,offset:=1,embedded:=false,tag:= "",pkgPath:= "",byteOffset:=24}],2,32,.agg #[.slice none 0 0,.int .i64 0]⟩:=by kernel_rfl
@[simp] theorem aNR :aD Tryz.prog 58=some ⟨.slice 46,1,24,.slice none 0 0⟩:=by kernel_rfl
@[simp] theorem aNu :aD Tryz.prog 59=some ⟨.struct #[{name:= "Blocks",type:=58,offset:=0,embedded:=false,tag:= "",pkgPath:= "",byteOffset:=0},{name:= "Headers",type:=58,offset:=1,embedded:=false,tag:= "",pkgPath:= "",byteOffset:=24}],2,48,.agg #[.slice none 0 0,.slice none 0 0]⟩:=by kernel_rfl
@[simp] theorem aOc :aD Tryz.prog 60=some ⟨.struct #[{name:= "Blocks",type:=58,offset:=0,embedded:=false,tag:= "",pkgPath:= "",byteOffset:=0},{name:= "Headers",type:=58,offset:=1,embedded:=false,tag:= "",pkgPath:= "",byteOffset:=24}],2,48,.agg #[.slice none 0 0,.slice none 0 0]⟩:=by kernel_rfl
@[simp] theorem aNg :aD Tryz.prog 61=some ⟨.slice 301,1,24,.slice none 0 0⟩:=by kernel_rfl
@[simp] theorem aNI :aD Tryz.prog 62=some ⟨.struct #[{name:= "Low",type:=3,offset:=0,embedded:=false,tag:= "",pkgPath:= "",byteOffset:=0},{name:= "High",type:=3,offset:=1,embedded:=false,tag:= "",pkgPath:= "",byteOffset:=8},{name:= "Agreed",type:=46,offset:=2,embedded:=false,tag:= "",pkgPath:= "",byteOffset:=16},{name:= "Claims",type:=61,offset:=34,embedded:=false,tag:= "",pkgPath:= "",byteOffset:=48}],35,72,.agg #[.int .i64 0,.int .i64 0,.int .u8 0,.int .u8 0,.int .u8 0,.int .u8 0,.int .u8 0,.int .u8 0,.int .u8 0,.int .u8 0,.int .u8 0,.int .u8 0,.int .u8 0,.int .u8 0,.int .u8 0,.int .u8 0,.int .u8 0,.int .u8 0,.int .u8 0,.int .u8 0,.int .u8 0,.int .u8 0,.int .u8 0,.int .u8 0,.int .u8 0,.int .u8 0,.int .u8 0,.int .u8 0,.int .u8 0,.int .u8 0,.int .u8 0,.int .u8 0,.int .u8 0,.int .u8 0,.slice none 0 0]⟩:=by kernel_rfl
@[simp] theorem aMX :aD Tryz.prog 63=some ⟨.struct #[{name:= "Low",type:=3,offset:=0,embedded:=false,tag:= "",pkgPath:= "",byteOffset:=0},{name:= "High",type:=3,offset:=1,embedded:=false,tag:= "",pkgPath:= "",byteOffset:=8},{name:= "Agreed",type:=46,offset:=2,embedded:=false,tag:= "",pkgPath:= "",byteOffset:=16},{name:= "Claims",type:=61,offset:=34,embedded:=false,tag:= "",pkgPath:= "",byteOffset:=48}],35,72,.agg #[.int .i64 0,.int .i64 0,.int .u8 0,.int .u8 0,.int .u8 0,.int .u8 0,.int .u8 0,.int .u8 0,.int .u8 0,.int .u8 0,.int .u8 0,.int .u8 0,.int .u8 0,.int .u8 0,.int .u8 0,.int .u8 0,.int .u8 0,.int .u8 0,.int .u8 0,.int .u8 0,.int .u8 0,.int .u8 0,.int .u8 0,.int .u8 0,.int .u8 0,.int .u8 0,.int .u8 0,.int .u8 0,.int .u8 0,.int .u8 0,.int .u8 0,.int .u8 0,.int .u8 0,.int .u8 0,.slice none 0 0]⟩:=by kernel_rfl
@[simp] theorem aM1 :aD Tryz.prog 64=some ⟨.slice 304,1,24,.slice none 0 0⟩:=by kernel_rfl
@[simp] theorem aNy :aD Tryz.prog 65=some ⟨.slice 309,1,24,.slice none 0 0⟩:=by kernel_rfl
@[simp] theorem aNf :aD Tryz.prog 66=some ⟨.struct #[{name:= "Tasks",type:=64,offset:=0,embedded:=false,tag:= "",pkgPath:= "",byteOffset:=0},{name:= "Owned",type:=65,offset:=1,embedded:=false,tag:= "",pkgPath:= "",byteOffset:=24}],2,48,.agg #[.slice none 0 0,.slice none 0 0]⟩:=by kernel_rfl
@[simp] theorem aNi :aD Tryz.prog 67=some ⟨.struct #[{name:= "Tasks",type:=64,offset:=0,embedded:=false,tag:= "",pkgPath:= "",byteOffset:=0},{name:= "Owned",type:=65,offset:=1,embedded:=false,tag:= "",pkgPath:= "",byteOffset:=24}],2,48,.agg #[.slice none 0 0,.slice none 0 0]⟩:=by kernel_rfl
@[simp] theorem aNr :aD Tryz.prog 68=some ⟨.slice 156,1,24,.slice none 0 0⟩:=by kernel_rfl
@[simp] theorem aNj :aD Tryz.prog 69=some ⟨.slice 315,1,24,.slice none 0 0⟩:=by kernel_rfl
@[simp] theorem aM5 :aD Tryz.prog 70=some ⟨.struct #[{name:= "Salt",type:=46,offset:=0,embedded:=false,tag:= "",pkgPath:= "",byteOffset:=0},{name:= "Batch",type:=3,offset:=32,embedded:=false,tag:= "",pkgPath:= "",byteOffset:=32},{name:= "Side",type:=3,offset:=33,embedded:=false,tag:= "",pkgPath:= "",byteOffset:=40},{name:= "Tree",type:=57,offset:=34,embedded:=false,tag:= "",pkgPath:= "",byteOffset:=48},{name:= "Filters",type:=60,offset:=36,embedded:=false,tag:= "",pkgPath:= "",byteOffset:=80},{name:= "Base",type:=3,offset:=38,embedded:=false,tag:= "",pkgPath:= "",byteOffset:=128},{name:= "Checked",type:=3,offset:=39,embedded:=false,tag:= "",pkgPath:= "",byteOffset:=136},{name:= "Source",type:=3,offset:=40,embedded:=false,tag:= "",pkgPath:= "",byteOffset:=144},{name:= "HasAgreed",type:=4,offset:=41,embedded:=false,tag:= "",pkgPath:= "",byteOffset:=152},{name:= "Agreed",type:=46,offset:=42,embedded:=false,tag:= "",pkgPath:= "",byteOffset:=153},{name:= "Disputing",type:=4,offset:=74,embedded:=false,tag:= "",pkgPath:= "",byteOffset:=185},{name:= "Dispute",type:=63,offset:=75,embedded:=false,tag:= "",pkgPath:= "",byteOffset:=192},{name:= "Doubt",type:=3,offset:=110,embedded:=false,tag:= "",pkgPath:= "",byteOffset:=264},{name:= "Blamed",type:=3,offset:=111,embedded:=false,tag:= "",pkgPath:= "",byteOffset:=272},{name:= "Wanted",type:=3,offset:=112,embedded:=false,tag:= "",pkgPath:= "",byteOffset:=280},{name:= "Scan",type:=67,offset:=113,embedded:=false,tag:= "",pkgPath:= "",byteOffset:=288},{name:= "Remotes",type:=68,offset:=115,embedded:=false,tag:= "",pkgPath:= "",byteOffset:=336},{name:= "Penalties",type:=69,offset:=116,embedded:=false,tag:= "",pkgPath:= "",byteOffset:=360}],117,384,.agg #[.int .u8 0,.int .u8 0,.int .u8 0,.int .u8 0,.int .u8 0,.int .u8 0,.int .u8 0,.int .u8 0,.int .u8 0,.int .u8 0,.int .u8 0,.int .u8 0,.int .u8 0,.int .u8 0,.int .u8 0,.int .u8 0,.int .u8 0,.int .u8 0,.int .u8 0,.int .u8 0,.int .u8 0,.int .u8 0,.int .u8 0,.int .u8 0,.int .u8 0,.int .u8 0,.int .u8 0,.int .u8 0,.int .u8 0,.int .u8 0,.int .u8 0,.int .u8 0,.int .i64 0,.int .i64 0,.slice none 0 0,.int .i64 0,.slice none 0 0,.slice none 0 0,.int .i64 0,.int .i64 0,.int .i64 0,.bool false,.int .u8 0,.int .u8 0,.int .u8 0,.int .u8 0,.int .u8 0,.int .u8 0,.int .u8 0,.int .u8 0,.int .u8 0,.int .u8 0,.int .u8 0,.int .u8 0,.int .u8 0,.int .u8 0,.int .u8 0,.int .u8 0,.int .u8 0,.int .u8 0,.int .u8 0,.int .u8 0,.int .u8 0,.int .u8 0,.int .u8 0,.int .u8 0,.int .u8 0,.int .u8 0,.int .u8 0,.int .u8 0,.int .u8 0,.int .u8 0,.int .u8 0,.int .u8 0,.bool false,.int .i64 0,.int .i64 0,.int .u8 0,.int .u8 0,.int .u8 0,.int .u8 0,.int .u8 0,.int .u8 0,.int .u8 0,.int .u8 0,.int .u8 0,.int .u8 0,.int .u8 0,.int .u8 0,.int .u8 0,.int .u8 0,.int .u8 0,.int .u8 0,.int .u8 0,.int .u8 0,.int .u8 0,.int .u8 0,.int .u8 0,.int .u8 0,.int .u8 0,.int .u8 0,.int .u8 0,.int .u8 0,.int .u8 0,.int .u8 0,.int .u8 0,.int .u8 0,.int .u8 0,.int .u8 0,.slice none 0 0,.int .i64 0,.int .i64 0,.int .i64 0,.slice none 0 0,.slice none 0 0,.slice none 0 0,.slice none 0 0]⟩:=by kernel_rfl
@[simp] theorem aNF :aD Tryz.prog 71=some ⟨.struct #[{name:= "Salt",type:=46,offset:=0,embedded:=false,tag:= "",pkgPath:= "",byteOffset:=0},{name:= "Batch",type:=3,offset:=32,embedded:=false,tag:= "",pkgPath:= "",byteOffset:=32},{name:= "Side",type:=3,offset:=33,embedded:=false,tag:= "",pkgPath:= "",byteOffset:=40},{name:= "Tree",type:=57,offset:=34,embedded:=false,tag:= "",pkgPath:= "",byteOffset:=48},{name:= "Filters",type:=60,offset:=36,embedded:=false,tag:= "",pkgPath:= "",byteOffset:=80},{name:= "Base",type:=3,offset:=38,embedded:=false,tag:= "",pkgPath:= "",byteOffset:=128},{name:= "Checked",type:=3,offset:=39,embedded:=false,tag:= "",pkgPath:= "",byteOffset:=136},{name:= "Source",type:=3,offset:=40,embedded:=false,tag:= "",pkgPath:= "",byteOffset:=144},{name:= "HasAgreed",type:=4,offset:=41,embedded:=false,tag:= "",pkgPath:= "",byteOffset:=152},{name:= "Agreed",type:=46,offset:=42,embedded:=false,tag:= "",pkgPath:= "",byteOffset:=153},{name:= "Disputing",type:=4,offset:=74,embedded:=false,tag:= "",pkgPath:= "",byteOffset:=185},{name:= "Dispute",type:=63,offset:=75,embedded:=false,tag:= "",pkgPath:= "",byteOffset:=192},{name:= "Doubt",type:=3,offset:=110,embedded:=false,tag:= "",pkgPath:= "",byteOffset:=264},{name:= "Blamed",type:=3,offset:=111,embedded:=false,tag:= "",pkgPath:= "",byteOffset:=272},{name:= "Wanted",type:=3,offset:=112,embedded:=false,tag:= "",pkgPath:= "",byteOffset:=280},{name:= "Scan",type:=67,offset:=113,embedded:=false,tag:= "",pkgPath:= "",byteOffset:=288},{name:= "Remotes",type:=68,offset:=115,embedded:=false,tag:= "",pkgPath:= "",byteOffset:=336},{name:= "Penalties",type:=69,offset:=116,embedded:=false,tag:= "",pkgPath:= "",byteOffset:=360}],117,384,.agg #[.int .u8 0,.int .u8 0,.int .u8 0,.int .u8 0,.int .u8 0,.int .u8 0,.int .u8 0,.int .u8 0,.int .u8 0,.int .u8 0,.int .u8 0,.int .u8 0,.int .u8 0,.int .u8 0,.int .u8 0,.int .u8 0,.int .u8 0,.int .u8 0,.int .u8 0,.int .u8 0,.int .u8 0,.int .u8 0,.int .u8 0,.int .u8 0,.int .u8 0,.int .u8 0,.int .u8 0,.int .u8 0,.int .u8 0,.int .u8 0,.int .u8 0,.int .u8 0,.int .i64 0,.int .i64 0,.slice none 0 0,.int .i64 0,.slice none 0 0,.slice none 0 0,.int .i64 0,.int .i64 0,.int .i64 0,.bool false,.int .u8 0,.int .u8 0,.int .u8 0,.int .u8 0,.int .u8 0,.int .u8 0,.int .u8 0,.int .u8 0,.int .u8 0,.int .u8 0,.int .u8 0,.int .u8 0,.int .u8 0,.int .u8 0,.int .u8 0,.int .u8 0,.int .u8 0,.int .u8 0,.int .u8 0,.int .u8 0,.int .u8 0,.int .u8 0,.int .u8 0,.int .u8 0,.int .u8 0,.int .u8 0,.int .u8 0,.int .u8 0,.int .u8 0,.int .u8 0,.int .u8 0,.int .u8 0,.bool false,.int .i64 0,.int .i64 0,.int .u8 0,.int .u8 0,.int .u8 0,.int .u8 0,.int .u8 0,.int .u8 0,.int .u8 0,.int .u8 0,.int .u8 0,.int .u8 0,.int .u8 0,.int .u8 0,.int .u8 0,.int .u8 0,.int .u8 0,.int .u8 0,.int .u8 0,.int .u8 0,.int .u8 0,.int .u8 0,.int .u8 0,.int .u8 0,.int .u8 0,.int .u8 0,.int .u8 0,.int .u8 0,.int .u8 0,.int .u8 0,.int .u8 0,.int .u8 0,.int .u8 0,.int .u8 0,.slice none 0 0,.int .i64 0,.int .i64 0,.int .i64 0,.slice none 0 0,.slice none 0 0,.slice none 0 0,.slice none 0 0]⟩:=by kernel_rfl
@[simp] theorem aMG :aD Tryz.prog 72=some ⟨.slice 106,1,24,.slice none 0 0⟩:=by kernel_rfl
@[simp] theorem aMN :aD Tryz.prog 73=some ⟨.struct #[{name:= "Round",type:=3,offset:=0,embedded:=false,tag:= "",pkgPath:= "",byteOffset:=0},{name:= "Patience",type:=3,offset:=1,embedded:=false,tag:= "",pkgPath:= "",byteOffset:=8},{name:= "Client",type:=71,offset:=2,embedded:=false,tag:= "",pkgPath:= "",byteOffset:=16},{name:= "Servers",type:=72,offset:=119,embedded:=false,tag:= "",pkgPath:= "",byteOffset:=400},{name:= "Delays",type:=22,offset:=120,embedded:=false,tag:= "",pkgPath:= "",byteOffset:=424}],121,448,.agg #[.int .i64 0,.int .i64 0,.int .u8 0,.int .u8 0,.int .u8 0,.int .u8 0,.int .u8 0,.int .u8 0,.int .u8 0,.int .u8 0,.int .u8 0,.int .u8 0,.int .u8 0,.int .u8 0,.int .u8 0,.int .u8 0,.int .u8 0,.int .u8 0,.int .u8 0,.int .u8 0,.int .u8 0,.int .u8 0,.int .u8 0,.int .u8 0,.int .u8 0,.int .u8 0,.int .u8 0,.int .u8 0,.int .u8 0,.int .u8 0,.int .u8 0,.int .u8 0,.int .u8 0,.int .u8 0,.int .i64 0,.int .i64 0,.slice none 0 0,.int .i64 0,.slice none 0 0,.slice none 0 0,.int .i64 0,.int .i64 0,.int .i64 0,.bool false,.int .u8 0,.int .u8 0,.int .u8 0,.int .u8 0,.int .u8 0,.int .u8 0,.int .u8 0,.int .u8 0,.int .u8 0,.int .u8 0,.int .u8 0,.int .u8 0,.int .u8 0,.int .u8 0,.int .u8 0,.int .u8 0,.int .u8 0,.int .u8 0,.int .u8 0,.int .u8 0,.int .u8 0,.int .u8 0,.int .u8 0,.int .u8 0,.int .u8 0,.int .u8 0,.int .u8 0,.int .u8 0,.int .u8 0,.int .u8 0,.int .u8 0,.int .u8 0,.bool false,.int .i64 0,.int .i64 0,.int .u8 0,.int .u8 0,.int .u8 0,.int .u8 0,.int .u8 0,.int .u8 0,.int .u8 0,.int .u8 0,.int .u8 0,.int .u8 0,.int .u8 0,.int .u8 0,.int .u8 0,.int .u8 0,.int .u8 0,.int .u8 0,.int .u8 0,.int .u8 0,.int .u8 0,.int .u8 0,.int .u8 0,.int .u8 0,.int .u8 0,.int .u8 0,.int .u8 0,.int .u8 0,.int .u8 0,.int .u8 0,.int .u8 0,.int .u8 0,.int .u8 0,.int .u8 0,.slice none 0 0,.int .i64 0,.int .i64 0,.int .i64 0,.slice none 0 0,.slice none 0 0,.slice none 0 0,.slice none 0 0,.slice none 0 0,.slice none 0 0]⟩:=by kernel_rfl
@[simp] theorem aG7 :aD Tryz.prog 74=some ⟨.struct #[{name:= "Round",type:=3,offset:=0,embedded:=false,tag:= "",pkgPath:= "",byteOffset:=0},{name:= "Patience",type:=3,offset:=1,embedded:=false,tag:= "",pkgPath:= "",byteOffset:=8},{name:= "Client",type:=71,offset:=2,embedded:=false,tag:= "",pkgPath:= "",byteOffset:=16},{name:= "Servers",type:=72,offset:=119,embedded:=false,tag:= "",pkgPath:= "",byteOffset:=400},{name:= "Delays",type:=22,offset:=120,embedded:=false,tag:= "",pkgPath:= "",byteOffset:=424}],121,448,.agg #[.int .i64 0,.int .i64 0,.int .u8 0,.int .u8 0,.int .u8 0,.int .u8 0,.int .u8 0,.int .u8 0,.int .u8 0,.int .u8 0,.int .u8 0,.int .u8 0,.int .u8 0,.int .u8 0,.int .u8 0,.int .u8 0,.int .u8 0,.int .u8 0,.int .u8 0,.int .u8 0,.int .u8 0,.int .u8 0,.int .u8 0,.int .u8 0,.int .u8 0,.int .u8 0,.int .u8 0,.int .u8 0,.int .u8 0,.int .u8 0,.int .u8 0,.int .u8 0,.int .u8 0,.int .u8 0,.int .i64 0,.int .i64 0,.slice none 0 0,.int .i64 0,.slice none 0 0,.slice none 0 0,.int .i64 0,.int .i64 0,.int .i64 0,.bool false,.int .u8 0,.int .u8 0,.int .u8 0,.int .u8 0,.int .u8 0,.int .u8 0,.int .u8 0,.int .u8 0,.int .u8 0,.int .u8 0,.int .u8 0,.int .u8 0,.int .u8 0,.int .u8 0,.int .u8 0,.int .u8 0,.int .u8 0,.int .u8 0,.int .u8 0,.int .u8 0,.int .u8 0,.int .u8 0,.int .u8 0,.int .u8 0,.int .u8 0,.int .u8 0,.int .u8 0,.int .u8 0,.int .u8 0,.int .u8 0,.int .u8 0,.int .u8 0,.bool false,.int .i64 0,.int .i64 0,.int .u8 0,.int .u8 0,.int .u8 0,.int .u8 0,.int .u8 0,.int .u8 0,.int .u8 0,.int .u8 0,.int .u8 0,.int .u8 0,.int .u8 0,.int .u8 0,.int .u8 0,.int .u8 0,.int .u8 0,.int .u8 0,.int .u8 0,.int .u8 0,.int .u8 0,.int .u8 0,.int .u8 0,.int .u8 0,.int .u8 0,.int .u8 0,.int .u8 0,.int .u8 0,.int .u8 0,.int .u8 0,.int .u8 0,.int .u8 0,.int .u8 0,.int .u8 0,.slice none 0 0,.int .i64 0,.int .i64 0,.int .i64 0,.slice none 0 0,.slice none 0 0,.slice none 0 0,.slice none 0 0,.slice none 0 0,.slice none 0 0]⟩:=by kernel_rfl
@[simp] theorem aG1 :aD Tryz.prog 75=some ⟨.slice 91,1,24,.slice none 0 0⟩:=by kernel_rfl
@[simp] theorem aGJ :aD Tryz.prog 76=some ⟨.slice 33,1,24,.slice none 0 0⟩:=by kernel_rfl
@[simp] theorem aMH :aD Tryz.prog 77=some ⟨.struct #[{name:= "P",type:=54,offset:=0,embedded:=false,tag:= "",pkgPath:= "",byteOffset:=0},{name:= "N",type:=74,offset:=80,embedded:=false,tag:= "",pkgPath:= "",byteOffset:=184},{name:= "Branches",type:=75,offset:=201,embedded:=false,tag:= "",pkgPath:= "",byteOffset:=632},{name:= "Scripts",type:=76,offset:=202,embedded:=false,tag:= "",pkgPath:= "",byteOffset:=656}],203,680,.agg #[.int .u32 0,.int .u8 0,.int .u8 0,.int .u8 0,.int .u8 0,.int .u8 0,.int .u8 0,.int .u8 0,.int .u8 0,.int .u8 0,.int .u8 0,.int .u8 0,.int .u8 0,.int .u8 0,.int .u8 0,.int .u8 0,.int .u8 0,.int .u8 0,.int .u8 0,.int .u8 0,.int .u8 0,.int .u8 0,.int .u8 0,.int .u8 0,.int .u8 0,.int .u8 0,.int .u8 0,.int .u8 0,.int .u8 0,.int .u8 0,.int .u8 0,.int .u8 0,.int .u8 0,.int .u8 0,.int .u8 0,.int .u8 0,.int .u8 0,.int .u8 0,.int .u8 0,.int .u8 0,.int .u8 0,.int .u8 0,.int .u8 0,.int .u8 0,.int .u8 0,.int .u8 0,.int .u8 0,.int .u8 0,.int .u8 0,.int .u8 0,.int .u8 0,.int .u8 0,.int .u8 0,.int .u8 0,.int .u8 0,.int .u8 0,.int .u8 0,.int .u8 0,.int .u8 0,.int .u8 0,.int .u8 0,.int .u8 0,.int .u8 0,.int .u8 0,.int .u8 0,.int .u32 0,.int .u32 0,.int .u32 0,.int .u64 0,.int .u64 0,.int .u64 0,.int .u64 0,.int .i64 0,.int .u32 0,.int .u32 0,.int .u32 0,.slice none 0 0,.int .i64 0,.int .i64 0,.int .i64 0,.int .i64 0,.int .i64 0,.int .u8 0,.int .u8 0,.int .u8 0,.int .u8 0,.int .u8 0,.int .u8 0,.int .u8 0,.int .u8 0,.int .u8 0,.int .u8 0,.int .u8 0,.int .u8 0,.int .u8 0,.int .u8 0,.int .u8 0,.int .u8 0,.int .u8 0,.int .u8 0,.int .u8 0,.int .u8 0,.int .u8 0,.int .u8 0,.int .u8 0,.int .u8 0,.int .u8 0,.int .u8 0,.int .u8 0,.int .u8 0,.int .u8 0,.int .u8 0,.int .u8 0,.int .u8 0,.int .i64 0,.int .i64 0,.slice none 0 0,.int .i64 0,.slice none 0 0,.slice none 0 0,.int .i64 0,.int .i64 0,.int .i64 0,.bool false,.int .u8 0,.int .u8 0,.int .u8 0,.int .u8 0,.int .u8 0,.int .u8 0,.int .u8 0,.int .u8 0,.int .u8 0,.int .u8 0,.int .u8 0,.int .u8 0,.int .u8 0,.int .u8 0,.int .u8 0,.int .u8 0,.int .u8 0,.int .u8 0,.int .u8 0,.int .u8 0,.int .u8 0,.int .u8 0,.int .u8 0,.int .u8 0,.int .u8 0,.int .u8 0,.int .u8 0,.int .u8 0,.int .u8 0,.int .u8 0,.int .u8 0,.int .u8 0,.bool false,.int .i64 0,.int .i64 0,.int .u8 0,.int .u8 0,.int .u8 0,.int .u8 0,.int .u8 0,.int .u8 0,.int .u8 0,.int .u8 0,.int .u8 0,.int .u8 0,.int .u8 0,.int .u8 0,.int .u8 0,.int .u8 0,.int .u8 0,.int .u8 0,.int .u8 0,.int .u8 0,.int .u8 0,.int .u8 0,.int .u8 0,.int .u8 0,.int .u8 0,.int .u8 0,.int .u8 0,.int .u8 0,.int .u8 0,.int .u8 0,.int .u8 0,.int .u8 0,.int .u8 0,.int .u8 0,.slice none 0 0,.int .i64 0,.int .i64 0,.int .i64 0,.slice none 0 0,.slice none 0 0,.slice none 0 0,.slice none 0 0,.slice none 0 0,.slice none 0 0,.slice none 0 0,.slice none 0 0]⟩:=by kernel_rfl
@[simp] theorem uZ :aD Tryz.prog 78=some ⟨.struct #[{name:= "P",type:=54,offset:=0,embedded:=false,tag:= "",pkgPath:= "",byteOffset:=0},{name:= "N",type:=74,offset:=80,embedded:=false,tag:= "",pkgPath:= "",byteOffset:=184},{name:= "Branches",type:=75,offset:=201,embedded:=false,tag:= "",pkgPath:= "",byteOffset:=632},{name:= "Scripts",type:=76,offset:=202,embedded:=false,tag:= "",pkgPath:= "",byteOffset:=656}],203,680,.agg #[.int .u32 0,.int .u8 0,.int .u8 0,.int .u8 0,.int .u8 0,.int .u8 0,.int .u8 0,.int .u8 0,.int .u8 0,.int .u8 0,.int .u8 0,.int .u8 0,.int .u8 0,.int .u8 0,.int .u8 0,.int .u8 0,.int .u8 0,.int .u8 0,.int .u8 0,.int .u8 0,.int .u8 0,.int .u8 0,.int .u8 0,.int .u8 0,.int .u8 0,.int .u8 0,.int .u8 0,.int .u8 0,.int .u8 0,.int .u8 0,.int .u8 0,.int .u8 0,.int .u8 0,.int .u8 0,.int .u8 0,.int .u8 0,.int .u8 0,.int .u8 0,.int .u8 0,.int .u8 0,.int .u8 0,.int .u8 0,.int .u8 0,.int .u8 0,.int .u8 0,.int .u8 0,.int .u8 0,.int .u8 0,.int .u8 0,.int .u8 0,.int .u8 0,.int .u8 0,.int .u8 0,.int .u8 0,.int .u8 0,.int .u8 0,.int .u8 0,.int .u8 0,.int .u8 0,.int .u8 0,.int .u8 0,.int .u8 0,.int .u8 0,.int .u8 0,.int .u8 0,.int .u32 0,.int .u32 0,.int .u32 0,.int .u64 0,.int .u64 0,.int .u64 0,.int .u64 0,.int .i64 0,.int .u32 0,.int .u32 0,.int .u32 0,.slice none 0 0,.int .i64 0,.int .i64 0,.int .i64 0,.int .i64 0,.int .i64 0,.int .u8 0,.int .u8 0,.int .u8 0,.int .u8 0,.int .u8 0,.int .u8 0,.int .u8 0,.int .u8 0,.int .u8 0,.int .u8 0,.int .u8 0,.int .u8 0,.int .u8 0,.int .u8 0,.int .u8 0,.int .u8 0,.int .u8 0,.int .u8 0,.int .u8 0,.int .u8 0,.int .u8 0,.int .u8 0,.int .u8 0,.int .u8 0,.int .u8 0,.int .u8 0,.int .u8 0,.int .u8 0,.int .u8 0,.int .u8 0,.int .u8 0,.int .u8 0,.int .i64 0,.int .i64 0,.slice none 0 0,.int .i64 0,.slice none 0 0,.slice none 0 0,.int .i64 0,.int .i64 0,.int .i64 0,.bool false,.int .u8 0,.int .u8 0,.int .u8 0,.int .u8 0,.int .u8 0,.int .u8 0,.int .u8 0,.int .u8 0,.int .u8 0,.int .u8 0,.int .u8 0,.int .u8 0,.int .u8 0,.int .u8 0,.int .u8 0,.int .u8 0,.int .u8 0,.int .u8 0,.int .u8 0,.int .u8 0,.int .u8 0,.int .u8 0,.int .u8 0,.int .u8 0,.int .u8 0,.int .u8 0,.int .u8 0,.int .u8 0,.int .u8 0,.int .u8 0,.int .u8 0,.int .u8 0,.bool false,.int .i64 0,.int .i64 0,.int .u8 0,.int .u8 0,.int .u8 0,.int .u8 0,.int .u8 0,.int .u8 0,.int .u8 0,.int .u8 0,.int .u8 0,.int .u8 0,.int .u8 0,.int .u8 0,.int .u8 0,.int .u8 0,.int .u8 0,.int .u8 0,.int .u8 0,.int .u8 0,.int .u8 0,.int .u8 0,.int .u8 0,.int .u8 0,.int .u8 0,.int .u8 0,.int .u8 0,.int .u8 0,.int .u8 0,.int .u8 0,.int .u8 0,.int .u8 0,.int .u8 0,.int .u8 0,.slice none 0 0,.int .i64 0,.int .i64 0,.int .i64 0,.slice none 0 0,.slice none 0 0,.slice none 0 0,.slice none 0 0,.slice none 0 0,.slice none 0 0,.slice none 0 0,.slice none 0 0]⟩:=by kernel_rfl
@[simp] theorem aN3 :aD Tryz.prog 87=some ⟨.struct #[{name:= "L",type:=22,offset:=0,embedded:=false,tag:= "",pkgPath:= "",byteOffset:=0},{name:= "At",type:=3,offset:=1,embedded:=false,tag:= "",pkgPath:= "",byteOffset:=24}],2,32,.agg #[.slice none 0 0,.int .i64 0]⟩:=by kernel_rfl
@[simp] theorem aCN :aD Tryz.prog 88=some ⟨.struct #[{name:= "L",type:=22,offset:=0,embedded:=false,tag:= "",pkgPath:= "",byteOffset:=0},{name:= "At",type:=3,offset:=1,embedded:=false,tag:= "",pkgPath:= "",byteOffset:=24}],2,32,.agg #[.slice none 0 0,.int .i64 0]⟩:=by kernel_rfl
@[simp] theorem aMT :aD Tryz.prog 91=some ⟨.slice 143,1,24,.slice none 0 0⟩:=by kernel_rfl
@[simp] theorem aNW :aD Tryz.prog 92=some ⟨.slice 182,1,24,.slice none 0 0⟩:=by kernel_rfl
@[simp] theorem aMP :aD Tryz.prog 93=some ⟨.slice 150,1,24,.slice none 0 0⟩:=by kernel_rfl
@[simp] theorem aNs :aD Tryz.prog 94=some ⟨.slice 185,1,24,.slice none 0 0⟩:=by kernel_rfl
@[simp] theorem aNz :aD Tryz.prog 95=some ⟨.struct #[{name:= "Params",type:=54,offset:=0,embedded:=false,tag:= "",pkgPath:= "",byteOffset:=0},{name:= "Blocks",type:=91,offset:=80,embedded:=false,tag:= "",pkgPath:= "",byteOffset:=184},{name:= "Ledgers",type:=92,offset:=81,embedded:=false,tag:= "",pkgPath:= "",byteOffset:=208},{name:= "Contexts",type:=93,offset:=82,embedded:=false,tag:= "",pkgPath:= "",byteOffset:=232},{name:= "Undos",type:=94,offset:=83,embedded:=false,tag:= "",pkgPath:= "",byteOffset:=256}],84,280,.agg #[.int .u32 0,.int .u8 0,.int .u8 0,.int .u8 0,.int .u8 0,.int .u8 0,.int .u8 0,.int .u8 0,.int .u8 0,.int .u8 0,.int .u8 0,.int .u8 0,.int .u8 0,.int .u8 0,.int .u8 0,.int .u8 0,.int .u8 0,.int .u8 0,.int .u8 0,.int .u8 0,.int .u8 0,.int .u8 0,.int .u8 0,.int .u8 0,.int .u8 0,.int .u8 0,.int .u8 0,.int .u8 0,.int .u8 0,.int .u8 0,.int .u8 0,.int .u8 0,.int .u8 0,.int .u8 0,.int .u8 0,.int .u8 0,.int .u8 0,.int .u8 0,.int .u8 0,.int .u8 0,.int .u8 0,.int .u8 0,.int .u8 0,.int .u8 0,.int .u8 0,.int .u8 0,.int .u8 0,.int .u8 0,.int .u8 0,.int .u8 0,.int .u8 0,.int .u8 0,.int .u8 0,.int .u8 0,.int .u8 0,.int .u8 0,.int .u8 0,.int .u8 0,.int .u8 0,.int .u8 0,.int .u8 0,.int .u8 0,.int .u8 0,.int .u8 0,.int .u8 0,.int .u32 0,.int .u32 0,.int .u32 0,.int .u64 0,.int .u64 0,.int .u64 0,.int .u64 0,.int .i64 0,.int .u32 0,.int .u32 0,.int .u32 0,.slice none 0 0,.int .i64 0,.int .i64 0,.int .i64 0,.slice none 0 0,.slice none 0 0,.slice none 0 0,.slice none 0 0]⟩:=by kernel_rfl
@[simp] theorem aNb :aD Tryz.prog 96=some ⟨.struct #[{name:= "Params",type:=54,offset:=0,embedded:=false,tag:= "",pkgPath:= "",byteOffset:=0},{name:= "Blocks",type:=91,offset:=80,embedded:=false,tag:= "",pkgPath:= "",byteOffset:=184},{name:= "Ledgers",type:=92,offset:=81,embedded:=false,tag:= "",pkgPath:= "",byteOffset:=208},{name:= "Contexts",type:=93,offset:=82,embedded:=false,tag:= "",pkgPath:= "",byteOffset:=232},{name:= "Undos",type:=94,offset:=83,embedded:=false,tag:= "",pkgPath:= "",byteOffset:=256}],84,280,.agg #[.int .u32 0,.int .u8 0,.int .u8 0,.int .u8 0,.int .u8 0,.int .u8 0,.int .u8 0,.int .u8 0,.int .u8 0,.int .u8 0,.int .u8 0,.int .u8 0,.int .u8 0,.int .u8 0,.int .u8 0,.int .u8 0,.int .u8 0,.int .u8 0,.int .u8 0,.int .u8 0,.int .u8 0,.int .u8 0,.int .u8 0,.int .u8 0,.int .u8 0,.int .u8 0,.int .u8 0,.int .u8 0,.int .u8 0,.int .u8 0,.int .u8 0,.int .u8 0,.int .u8 0,.int .u8 0,.int .u8 0,.int .u8 0,.int .u8 0,.int .u8 0,.int .u8 0,.int .u8 0,.int .u8 0,.int .u8 0,.int .u8 0,.int .u8 0,.int .u8 0,.int .u8 0,.int .u8 0,.int .u8 0,.int .u8 0,.int .u8 0,.int .u8 0,.int .u8 0,.int .u8 0,.int .u8 0,.int .u8 0,.int .u8 0,.int .u8 0,.int .u8 0,.int .u8 0,.int .u8 0,.int .u8 0,.int .u8 0,.int .u8 0,.int .u8 0,.int .u8 0,.int .u32 0,.int .u32 0,.int .u32 0,.int .u64 0,.int .u64 0,.int .u64 0,.int .u64 0,.int .i64 0,.int .u32 0,.int .u32 0,.int .u32 0,.slice none 0 0,.int .i64 0,.int .i64 0,.int .i64 0,.slice none 0 0,.slice none 0 0,.slice none 0 0,.slice none 0 0]⟩:=by kernel_rfl
@[simp] theorem aLm :aD Tryz.prog 105=some ⟨.struct #[{name:= "Blocks",type:=91,offset:=0,embedded:=false,tag:= "",pkgPath:= "",byteOffset:=0},{name:= "Fault",type:=3,offset:=1,embedded:=false,tag:= "",pkgPath:= "",byteOffset:=24},{name:= "From",type:=3,offset:=2,embedded:=false,tag:= "",pkgPath:= "",byteOffset:=32}],3,40,.agg #[.slice none 0 0,.int .i64 0,.int .i64 0]⟩:=by kernel_rfl
@[simp] theorem aLs :aD Tryz.prog 106=some ⟨.struct #[{name:= "Blocks",type:=91,offset:=0,embedded:=false,tag:= "",pkgPath:= "",byteOffset:=0},{name:= "Fault",type:=3,offset:=1,embedded:=false,tag:= "",pkgPath:= "",byteOffset:=24},{name:= "From",type:=3,offset:=2,embedded:=false,tag:= "",pkgPath:= "",byteOffset:=32}],3,40,.agg #[.slice none 0 0,.int .i64 0,.int .i64 0]⟩:=by kernel_rfl
@[simp] theorem aMq :aD Tryz.prog 107=some ⟨.pointer 109,1,8,.pointer none⟩:=by kernel_rfl
@[simp] theorem aK9 :aD Tryz.prog 108=some ⟨.struct #[{name:= "addr",type:=107,offset:=0,embedded:=false,tag:= "",pkgPath:= "strings",byteOffset:=0},{name:= "buf",type:=33,offset:=1,embedded:=false,tag:= "",pkgPath:= "strings",byteOffset:=8}],2,32,.agg #[.pointer none,.slice none 0 0]⟩:=by kernel_rfl
@[simp] theorem aLe :aD Tryz.prog 109=some ⟨.struct #[{name:= "addr",type:=107,offset:=0,embedded:=false,tag:= "",pkgPath:= "strings",byteOffset:=0},{name:= "buf",type:=33,offset:=1,embedded:=false,tag:= "",pkgPath:= "strings",byteOffset:=8}],2,32,.agg #[.pointer none,.slice none 0 0]⟩:=by kernel_rfl
@[simp] theorem aLx :aD Tryz.prog 118=some ⟨.struct #[{name:= "name",type:=9,offset:=0,embedded:=false,tag:= "",pkgPath:= "lightclient/console",byteOffset:=0},{name:= "kind",type:=3,offset:=1,embedded:=false,tag:= "",pkgPath:= "lightclient/console",byteOffset:=16},{name:= "fields",type:=9,offset:=2,embedded:=false,tag:= "",pkgPath:= "lightclient/console",byteOffset:=24}],3,40,.agg #[.string .empty,.int .i64 0,.string .empty]⟩:=by kernel_rfl
@[simp] theorem uP :aD Tryz.prog 119=some ⟨.struct #[{name:= "name",type:=9,offset:=0,embedded:=false,tag:= "",pkgPath:= "lightclient/console",byteOffset:=0},{name:= "kind",type:=3,offset:=1,embedded:=false,tag:= "",pkgPath:= "lightclient/console",byteOffset:=16},{name:= "fields",type:=9,offset:=2,embedded:=false,tag:= "",pkgPath:= "lightclient/console",byteOffset:=24}],3,40,.agg #[.string .empty,.int .i64 0,.string .empty]⟩:=by kernel_rfl
@[simp] theorem aK7 :aD Tryz.prog 125=some ⟨.pointer 3,1,8,.pointer none⟩:=by kernel_rfl
@[simp] theorem aLu :aD Tryz.prog 127=some ⟨.pointer 39,1,8,.pointer none⟩:=by kernel_rfl
@[simp] theorem aLQ :aD Tryz.prog 137=some ⟨.struct #[{name:= "Count",type:=3,offset:=0,embedded:=false,tag:= "",pkgPath:= "",byteOffset:=0},{name:= "Data",type:=33,offset:=1,embedded:=false,tag:= "",pkgPath:= "",byteOffset:=8}],2,32,.agg #[.int .i64 0,.slice none 0 0]⟩:=by kernel_rfl
@[simp] theorem aLV :aD Tryz.prog 138=some ⟨.struct #[{name:= "Count",type:=3,offset:=0,embedded:=false,tag:= "",pkgPath:= "",byteOffset:=0},{name:= "Data",type:=33,offset:=1,embedded:=false,tag:= "",pkgPath:= "",byteOffset:=8}],2,32,.agg #[.int .i64 0,.slice none 0 0]⟩:=by kernel_rfl
@[simp] theorem aKx :aD Tryz.prog 141=some ⟨.slice 218,1,24,.slice none 0 0⟩:=by kernel_rfl
@[simp] theorem aL1 :aD Tryz.prog 142=some ⟨.struct #[{name:= "Header",type:=48,offset:=0,embedded:=false,tag:= "",pkgPath:= "",byteOffset:=0},{name:= "Txs",type:=141,offset:=68,embedded:=false,tag:= "",pkgPath:= "",byteOffset:=80}],69,104,.agg #[.int .u32 0,.int .u8 0,.int .u8 0,.int .u8 0,.int .u8 0,.int .u8 0,.int .u8 0,.int .u8 0,.int .u8 0,.int .u8 0,.int .u8 0,.int .u8 0,.int .u8 0,.int .u8 0,.int .u8 0,.int .u8 0,.int .u8 0,.int .u8 0,.int .u8 0,.int .u8 0,.int .u8 0,.int .u8 0,.int .u8 0,.int .u8 0,.int .u8 0,.int .u8 0,.int .u8 0,.int .u8 0,.int .u8 0,.int .u8 0,.int .u8 0,.int .u8 0,.int .u8 0,.int .u8 0,.int .u8 0,.int .u8 0,.int .u8 0,.int .u8 0,.int .u8 0,.int .u8 0,.int .u8 0,.int .u8 0,.int .u8 0,.int .u8 0,.int .u8 0,.int .u8 0,.int .u8 0,.int .u8 0,.int .u8 0,.int .u8 0,.int .u8 0,.int .u8 0,.int .u8 0,.int .u8 0,.int .u8 0,.int .u8 0,.int .u8 0,.int .u8 0,.int .u8 0,.int .u8 0,.int .u8 0,.int .u8 0,.int .u8 0,.int .u8 0,.int .u8 0,.int .u32 0,.int .u32 0,.int .u32 0,.slice none 0 0]⟩:=by kernel_rfl
@[simp] theorem aLl :aD Tryz.prog 143=some ⟨.struct #[{name:= "Header",type:=48,offset:=0,embedded:=false,tag:= "",pkgPath:= "",byteOffset:=0},{name:= "Txs",type:=141,offset:=68,embedded:=false,tag:= "",pkgPath:= "",byteOffset:=80}],69,104,.agg #[.int .u32 0,.int .u8 0,.int .u8 0,.int .u8 0,.int .u8 0,.int .u8 0,.int .u8 0,.int .u8 0,.int .u8 0,.int .u8 0,.int .u8 0,.int .u8 0,.int .u8 0,.int .u8 0,.int .u8 0,.int .u8 0,.int .u8 0,.int .u8 0,.int .u8 0,.int .u8 0,.int .u8 0,.int .u8 0,.int .u8 0,.int .u8 0,.int .u8 0,.int .u8 0,.int .u8 0,.int .u8 0,.int .u8 0,.int .u8 0,.int .u8 0,.int .u8 0,.int .u8 0,.int .u8 0,.int .u8 0,.int .u8 0,.int .u8 0,.int .u8 0,.int .u8 0,.int .u8 0,.int .u8 0,.int .u8 0,.int .u8 0,.int .u8 0,.int .u8 0,.int .u8 0,.int .u8 0,.int .u8 0,.int .u8 0,.int .u8 0,.int .u8 0,.int .u8 0,.int .u8 0,.int .u8 0,.int .u8 0,.int .u8 0,.int .u8 0,.int .u8 0,.int .u8 0,.int .u8 0,.int .u8 0,.int .u8 0,.int .u8 0,.int .u8 0,.int .u8 0,.int .u32 0,.int .u32 0,.int .u32 0,.slice none 0 0]⟩:=by kernel_rfl
@[simp] theorem aMA :aD Tryz.prog 148=some ⟨.slice 44,1,24,.slice none 0 0⟩:=by kernel_rfl
@[simp] theorem aKt :aD Tryz.prog 149=some ⟨.struct #[{name:= "Height",type:=3,offset:=0,embedded:=false,tag:= "",pkgPath:= "",byteOffset:=0},{name:= "Hash",type:=46,offset:=1,embedded:=false,tag:= "",pkgPath:= "",byteOffset:=8},{name:= "Bits",type:=44,offset:=33,embedded:=false,tag:= "",pkgPath:= "",byteOffset:=40},{name:= "First",type:=44,offset:=34,embedded:=false,tag:= "",pkgPath:= "",byteOffset:=44},{name:= "Times",type:=148,offset:=35,embedded:=false,tag:= "",pkgPath:= "",byteOffset:=48}],36,72,.agg #[.int .i64 0,.int .u8 0,.int .u8 0,.int .u8 0,.int .u8 0,.int .u8 0,.int .u8 0,.int .u8 0,.int .u8 0,.int .u8 0,.int .u8 0,.int .u8 0,.int .u8 0,.int .u8 0,.int .u8 0,.int .u8 0,.int .u8 0,.int .u8 0,.int .u8 0,.int .u8 0,.int .u8 0,.int .u8 0,.int .u8 0,.int .u8 0,.int .u8 0,.int .u8 0,.int .u8 0,.int .u8 0,.int .u8 0,.int .u8 0,.int .u8 0,.int .u8 0,.int .u8 0,.int .u32 0,.int .u32 0,.slice none 0 0]⟩:=by kernel_rfl
@[simp] theorem aLn :aD Tryz.prog 150=some ⟨.struct #[{name:= "Height",type:=3,offset:=0,embedded:=false,tag:= "",pkgPath:= "",byteOffset:=0},{name:= "Hash",type:=46,offset:=1,embedded:=false,tag:= "",pkgPath:= "",byteOffset:=8},{name:= "Bits",type:=44,offset:=33,embedded:=false,tag:= "",pkgPath:= "",byteOffset:=40},{name:= "First",type:=44,offset:=34,embedded:=false,tag:= "",pkgPath:= "",byteOffset:=44},{name:= "Times",type:=148,offset:=35,embedded:=false,tag:= "",pkgPath:= "",byteOffset:=48}],36,72,.agg #[.int .i64 0,.int .u8 0,.int .u8 0,.int .u8 0,.int .u8 0,.int .u8 0,.int .u8 0,.int .u8 0,.int .u8 0,.int .u8 0,.int .u8 0,.int .u8 0,.int .u8 0,.int .u8 0,.int .u8 0,.int .u8 0,.int .u8 0,.int .u8 0,.int .u8 0,.int .u8 0,.int .u8 0,.int .u8 0,.int .u8 0,.int .u8 0,.int .u8 0,.int .u8 0,.int .u8 0,.int .u8 0,.int .u8 0,.int .u8 0,.int .u8 0,.int .u8 0,.int .u8 0,.int .u32 0,.int .u32 0,.slice none 0 0]⟩:=by kernel_rfl
@[simp] theorem aLj :aD Tryz.prog 151=some ⟨.slice 4,1,24,.slice none 0 0⟩:=by kernel_rfl
@[simp] theorem aMd :aD Tryz.prog 152=some ⟨.slice 48,1,24,.slice none 0 0⟩:=by kernel_rfl
@[simp] theorem aLd :aD Tryz.prog 153=some ⟨.struct #[{name:= "Phase",type:=3,offset:=0,embedded:=false,tag:= "",pkgPath:= "",byteOffset:=0},{name:= "Salt",type:=46,offset:=1,embedded:=false,tag:= "",pkgPath:= "",byteOffset:=8},{name:= "Goal",type:=51,offset:=33,embedded:=false,tag:= "",pkgPath:= "",byteOffset:=40},{name:= "Start",type:=150,offset:=37,embedded:=false,tag:= "",pkgPath:= "",byteOffset:=72},{name:= "Base",type:=51,offset:=73,embedded:=false,tag:= "",pkgPath:= "",byteOffset:=144},{name:= "At",type:=150,offset:=77,embedded:=false,tag:= "",pkgPath:= "",byteOffset:=176},{name:= "Work",type:=51,offset:=113,embedded:=false,tag:= "",pkgPath:= "",byteOffset:=248},{name:= "Count",type:=3,offset:=117,embedded:=false,tag:= "",pkgPath:= "",byteOffset:=280},{name:= "Bits",type:=151,offset:=118,embedded:=false,tag:= "",pkgPath:= "",byteOffset:=288},{name:= "Buffer",type:=152,offset:=119,embedded:=false,tag:= "",pkgPath:= "",byteOffset:=312}],120,336,.agg #[.int .i64 0,.int .u8 0,.int .u8 0,.int .u8 0,.int .u8 0,.int .u8 0,.int .u8 0,.int .u8 0,.int .u8 0,.int .u8 0,.int .u8 0,.int .u8 0,.int .u8 0,.int .u8 0,.int .u8 0,.int .u8 0,.int .u8 0,.int .u8 0,.int .u8 0,.int .u8 0,.int .u8 0,.int .u8 0,.int .u8 0,.int .u8 0,.int .u8 0,.int .u8 0,.int .u8 0,.int .u8 0,.int .u8 0,.int .u8 0,.int .u8 0,.int .u8 0,.int .u8 0,.int .u64 0,.int .u64 0,.int .u64 0,.int .u64 0,.int .i64 0,.int .u8 0,.int .u8 0,.int .u8 0,.int .u8 0,.int .u8 0,.int .u8 0,.int .u8 0,.int .u8 0,.int .u8 0,.int .u8 0,.int .u8 0,.int .u8 0,.int .u8 0,.int .u8 0,.int .u8 0,.int .u8 0,.int .u8 0,.int .u8 0,.int .u8 0,.int .u8 0,.int .u8 0,.int .u8 0,.int .u8 0,.int .u8 0,.int .u8 0,.int .u8 0,.int .u8 0,.int .u8 0,.int .u8 0,.int .u8 0,.int .u8 0,.int .u8 0,.int .u32 0,.int .u32 0,.slice none 0 0,.int .u64 0,.int .u64 0,.int .u64 0,.int .u64 0,.int .i64 0,.int .u8 0,.int .u8 0,.int .u8 0,.int .u8 0,.int .u8 0,.int .u8 0,.int .u8 0,.int .u8 0,.int .u8 0,.int .u8 0,.int .u8 0,.int .u8 0,.int .u8 0,.int .u8 0,.int .u8 0,.int .u8 0,.int .u8 0,.int .u8 0,.int .u8 0,.int .u8 0,.int .u8 0,.int .u8 0,.int .u8 0,.int .u8 0,.int .u8 0,.int .u8 0,.int .u8 0,.int .u8 0,.int .u8 0,.int .u8 0,.int .u8 0,.int .u8 0,.int .u32 0,.int .u32 0,.slice none 0 0,.int .u64 0,.int .u64 0,.int .u64 0,.int .u64 0,.int .i64 0,.slice none 0 0,.slice none 0 0]⟩:=by kernel_rfl
@[simp] theorem aKp :aD Tryz.prog 154=some ⟨.struct #[{name:= "Phase",type:=3,offset:=0,embedded:=false,tag:= "",pkgPath:= "",byteOffset:=0},{name:= "Salt",type:=46,offset:=1,embedded:=false,tag:= "",pkgPath:= "",byteOffset:=8},{name:= "Goal",type:=51,offset:=33,embedded:=false,tag:= "",pkgPath:= "",byteOffset:=40},{name:= "Start",type:=150,offset:=37,embedded:=false,tag:= "",pkgPath:= "",byteOffset:=72},{name:= "Base",type:=51,offset:=73,embedded:=false,tag:= "",pkgPath:= "",byteOffset:=144},{name:= "At",type:=150,offset:=77,embedded:=false,tag:= "",pkgPath:= "",byteOffset:=176},{name:= "Work",type:=51,offset:=113,embedded:=false,tag:= "",pkgPath:= "",byteOffset:=248},{name:= "Count",type:=3,offset:=117,embedded:=false,tag:= "",pkgPath:= "",byteOffset:=280},{name:= "Bits",type:=151,offset:=118,embedded:=false,tag:= "",pkgPath:= "",byteOffset:=288},{name:= "Buffer",type:=152,offset:=119,embedded:=false,tag:= "",pkgPath:= "",byteOffset:=312}],120,336,.agg #[.int .i64 0,.int .u8 0,.int .u8 0,.int .u8 0,.int .u8 0,.int .u8 0,.int .u8 0,.int .u8 0,.int .u8 0,.int .u8 0,.int .u8 0,.int .u8 0,.int .u8 0,.int .u8 0,.int .u8 0,.int .u8 0,.int .u8 0,.int .u8 0,.int .u8 0,.int .u8 0,.int .u8 0,.int .u8 0,.int .u8 0,.int .u8 0,.int .u8 0,.int .u8 0,.int .u8 0,.int .u8 0,.int .u8 0,.int .u8 0,.int .u8 0,.int .u8 0,.int .u8 0,.int .u64 0,.int .u64 0,.int .u64 0,.int .u64 0,.int .i64 0,.int .u8 0,.int .u8 0,.int .u8 0,.int .u8 0,.int .u8 0,.int .u8 0,.int .u8 0,.int .u8 0,.int .u8 0,.int .u8 0,.int .u8 0,.int .u8 0,.int .u8 0,.int .u8 0,.int .u8 0,.int .u8 0,.int .u8 0,.int .u8 0,.int .u8 0,.int .u8 0,.int .u8 0,.int .u8 0,.int .u8 0,.int .u8 0,.int .u8 0,.int .u8 0,.int .u8 0,.int .u8 0,.int .u8 0,.int .u8 0,.int .u8 0,.int .u8 0,.int .u32 0,.int .u32 0,.slice none 0 0,.int .u64 0,.int .u64 0,.int .u64 0,.int .u64 0,.int .i64 0,.int .u8 0,.int .u8 0,.int .u8 0,.int .u8 0,.int .u8 0,.int .u8 0,.int .u8 0,.int .u8 0,.int .u8 0,.int .u8 0,.int .u8 0,.int .u8 0,.int .u8 0,.int .u8 0,.int .u8 0,.int .u8 0,.int .u8 0,.int .u8 0,.int .u8 0,.int .u8 0,.int .u8 0,.int .u8 0,.int .u8 0,.int .u8 0,.int .u8 0,.int .u8 0,.int .u8 0,.int .u8 0,.int .u8 0,.int .u8 0,.int .u8 0,.int .u8 0,.int .u32 0,.int .u32 0,.slice none 0 0,.int .u64 0,.int .u64 0,.int .u64 0,.int .u64 0,.int .i64 0,.slice none 0 0,.slice none 0 0]⟩:=by kernel_rfl
@[simp] theorem aLr :aD Tryz.prog 155=some ⟨.struct #[{name:= "ID",type:=3,offset:=0,embedded:=false,tag:= "",pkgPath:= "",byteOffset:=0},{name:= "Gone",type:=4,offset:=1,embedded:=false,tag:= "",pkgPath:= "",byteOffset:=8},{name:= "Idle",type:=4,offset:=2,embedded:=false,tag:= "",pkgPath:= "",byteOffset:=9},{name:= "Done",type:=4,offset:=3,embedded:=false,tag:= "",pkgPath:= "",byteOffset:=10},{name:= "Syncing",type:=4,offset:=4,embedded:=false,tag:= "",pkgPath:= "",byteOffset:=11},{name:= "Sync",type:=154,offset:=5,embedded:=false,tag:= "",pkgPath:= "",byteOffset:=16},{name:= "Tail",type:=46,offset:=125,embedded:=false,tag:= "",pkgPath:= "",byteOffset:=352}],157,384,.agg #[.int .i64 0,.bool false,.bool false,.bool false,.bool false,.int .i64 0,.int .u8 0,.int .u8 0,.int .u8 0,.int .u8 0,.int .u8 0,.int .u8 0,.int .u8 0,.int .u8 0,.int .u8 0,.int .u8 0,.int .u8 0,.int .u8 0,.int .u8 0,.int .u8 0,.int .u8 0,.int .u8 0,.int .u8 0,.int .u8 0,.int .u8 0,.int .u8 0,.int .u8 0,.int .u8 0,.int .u8 0,.int .u8 0,.int .u8 0,.int .u8 0,.int .u8 0,.int .u8 0,.int .u8 0,.int .u8 0,.int .u8 0,.int .u8 0,.int .u64 0,.int .u64 0,.int .u64 0,.int .u64 0,.int .i64 0,.int .u8 0,.int .u8 0,.int .u8 0,.int .u8 0,.int .u8 0,.int .u8 0,.int .u8 0,.int .u8 0,.int .u8 0,.int .u8 0,.int .u8 0,.int .u8 0,.int .u8 0,.int .u8 0,.int .u8 0,.int .u8 0,.int .u8 0,.int .u8 0,.int .u8 0,.int .u8 0,.int .u8 0,.int .u8 0,.int .u8 0,.int .u8 0,.int .u8 0,.int .u8 0,.int .u8 0,.int .u8 0,.int .u8 0,.int .u8 0,.int .u8 0,.int .u8 0,.int .u32 0,.int .u32 0,.slice none 0 0,.int .u64 0,.int .u64 0,.int .u64 0,.int .u64 0,.int .i64 0,.int .u8 0,.int .u8 0,.int .u8 0,.int .u8 0,.int .u8 0,.int .u8 0,.int .u8 0,.int .u8 0,.int .u8 0,.int .u8 0,.int .u8 0,.int .u8 0,.int .u8 0,.int .u8 0,.int .u8 0,.int .u8 0,.int .u8 0,.int .u8 0,.int .u8 0,.int .u8 0,.int .u8 0,.int .u8 0,.int .u8 0,.int .u8 0,.int .u8 0,.int .u8 0,.int .u8 0,.int .u8 0,.int .u8 0,.int .u8 0,.int .u8 0,.int .u8 0,.int .u32 0,.int .u32 0,.slice none 0 0,.int .u64 0,.int .u64 0,.int .u64 0,.int .u64 0,.int .i64 0,.slice none 0 0,.slice none 0 0,.int .u8 0,.int .u8 0,.int .u8 0,.int .u8 0,.int .u8 0,.int .u8 0,.int .u8 0,.int .u8 0,.int .u8 0,.int .u8 0,.int .u8 0,.int .u8 0,.int .u8 0,.int .u8 0,.int .u8 0,.int .u8 0,.int .u8 0,.int .u8 0,.int .u8 0,.int .u8 0,.int .u8 0,.int .u8 0,.int .u8 0,.int .u8 0,.int .u8 0,.int .u8 0,.int .u8 0,.int .u8 0,.int .u8 0,.int .u8 0,.int .u8 0,.int .u8 0]⟩:=by kernel_rfl
@[simp] theorem aKB :aD Tryz.prog 156=some ⟨.struct #[{name:= "ID",type:=3,offset:=0,embedded:=false,tag:= "",pkgPath:= "",byteOffset:=0},{name:= "Gone",type:=4,offset:=1,embedded:=false,tag:= "",pkgPath:= "",byteOffset:=8},{name:= "Idle",type:=4,offset:=2,embedded:=false,tag:= "",pkgPath:= "",byteOffset:=9},{name:= "Done",type:=4,offset:=3,embedded:=false,tag:= "",pkgPath:= "",byteOffset:=10},{name:= "Syncing",type:=4,offset:=4,embedded:=false,tag:= "",pkgPath:= "",byteOffset:=11},{name:= "Sync",type:=154,offset:=5,embedded:=false,tag:= "",pkgPath:= "",byteOffset:=16},{name:= "Tail",type:=46,offset:=125,embedded:=false,tag:= "",pkgPath:= "",byteOffset:=352}],157,384,.agg #[.int .i64 0,.bool false,.bool false,.bool false,.bool false,.int .i64 0,.int .u8 0,.int .u8 0,.int .u8 0,.int .u8 0,.int .u8 0,.int .u8 0,.int .u8 0,.int .u8 0,.int .u8 0,.int .u8 0,.int .u8 0,.int .u8 0,.int .u8 0,.int .u8 0,.int .u8 0,.int .u8 0,.int .u8 0,.int .u8 0,.int .u8 0,.int .u8 0,.int .u8 0,.int .u8 0,.int .u8 0,.int .u8 0,.int .u8 0,.int .u8 0,.int .u8 0,.int .u8 0,.int .u8 0,.int .u8 0,.int .u8 0,.int .u8 0,.int .u64 0,.int .u64 0,.int .u64 0,.int .u64 0,.int .i64 0,.int .u8 0,.int .u8 0,.int .u8 0,.int .u8 0,.int .u8 0,.int .u8 0,.int .u8 0,.int .u8 0,.int .u8 0,.int .u8 0,.int .u8 0,.int .u8 0,.int .u8 0,.int .u8 0,.int .u8 0,.int .u8 0,.int .u8 0,.int .u8 0,.int .u8 0,.int .u8 0,.int .u8 0,.int .u8 0,.int .u8 0,.int .u8 0,.int .u8 0,.int .u8 0,.int .u8 0,.int .u8 0,.int .u8 0,.int .u8 0,.int .u8 0,.int .u8 0,.int .u32 0,.int .u32 0,.slice none 0 0,.int .u64 0,.int .u64 0,.int .u64 0,.int .u64 0,.int .i64 0,.int .u8 0,.int .u8 0,.int .u8 0,.int .u8 0,.int .u8 0,.int .u8 0,.int .u8 0,.int .u8 0,.int .u8 0,.int .u8 0,.int .u8 0,.int .u8 0,.int .u8 0,.int .u8 0,.int .u8 0,.int .u8 0,.int .u8 0,.int .u8 0,.int .u8 0,.int .u8 0,.int .u8 0,.int .u8 0,.int .u8 0,.int .u8 0,.int .u8 0,.int .u8 0,.int .u8 0,.int .u8 0,.int .u8 0,.int .u8 0,.int .u8 0,.int .u8 0,.int .u32 0,.int .u32 0,.slice none 0 0,.int .u64 0,.int .u64 0,.int .u64 0,.int .u64 0,.int .i64 0,.slice none 0 0,.slice none 0 0,.int .u8 0,.int .u8 0,.int .u8 0,.int .u8 0,.int .u8 0,.int .u8 0,.int .u8 0,.int .u8 0,.int .u8 0,.int .u8 0,.int .u8 0,.int .u8 0,.int .u8 0,.int .u8 0,.int .u8 0,.int .u8 0,.int .u8 0,.int .u8 0,.int .u8 0,.int .u8 0,.int .u8 0,.int .u8 0,.int .u8 0,.int .u8 0,.int .u8 0,.int .u8 0,.int .u8 0,.int .u8 0,.int .u8 0,.int .u8 0,.int .u8 0,.int .u8 0]⟩:=by kernel_rfl
@[simp] theorem aKj :aD Tryz.prog 164=some ⟨.struct #[{name:= "Header",type:=48,offset:=0,embedded:=false,tag:= "",pkgPath:= "",byteOffset:=0},{name:= "Hash",type:=46,offset:=68,embedded:=false,tag:= "",pkgPath:= "",byteOffset:=80},{name:= "Parent",type:=3,offset:=100,embedded:=false,tag:= "",pkgPath:= "",byteOffset:=112},{name:= "Height",type:=3,offset:=101,embedded:=false,tag:= "",pkgPath:= "",byteOffset:=120},{name:= "Work",type:=51,offset:=102,embedded:=false,tag:= "",pkgPath:= "",byteOffset:=128}],106,160,.agg #[.int .u32 0,.int .u8 0,.int .u8 0,.int .u8 0,.int .u8 0,.int .u8 0,.int .u8 0,.int .u8 0,.int .u8 0,.int .u8 0,.int .u8 0,.int .u8 0,.int .u8 0,.int .u8 0,.int .u8 0,.int .u8 0,.int .u8 0,.int .u8 0,.int .u8 0,.int .u8 0,.int .u8 0,.int .u8 0,.int .u8 0,.int .u8 0,.int .u8 0,.int .u8 0,.int .u8 0,.int .u8 0,.int .u8 0,.int .u8 0,.int .u8 0,.int .u8 0,.int .u8 0,.int .u8 0,.int .u8 0,.int .u8 0,.int .u8 0,.int .u8 0,.int .u8 0,.int .u8 0,.int .u8 0,.int .u8 0,.int .u8 0,.int .u8 0,.int .u8 0,.int .u8 0,.int .u8 0,.int .u8 0,.int .u8 0,.int .u8 0,.int .u8 0,.int .u8 0,.int .u8 0,.int .u8 0,.int .u8 0,.int .u8 0,.int .u8 0,.int .u8 0,.int .u8 0,.int .u8 0,.int .u8 0,.int .u8 0,.int .u8 0,.int .u8 0,.int .u8 0,.int .u32 0,.int .u32 0,.int .u32 0,.int .u8 0,.int .u8 0,.int .u8 0,.int .u8 0,.int .u8 0,.int .u8 0,.int .u8 0,.int .u8 0,.int .u8 0,.int .u8 0,.int .u8 0,.int .u8 0,.int .u8 0,.int .u8 0,.int .u8 0,.int .u8 0,.int .u8 0,.int .u8 0,.int .u8 0,.int .u8 0,.int .u8 0,.int .u8 0,.int .u8 0,.int .u8 0,.int .u8 0,.int .u8 0,.int .u8 0,.int .u8 0,.int .u8 0,.int .u8 0,.int .u8 0,.int .u8 0,.int .i64 0,.int .i64 0,.int .u64 0,.int .u64 0,.int .u64 0,.int .u64 0]⟩:=by kernel_rfl
@[simp] theorem aKZ :aD Tryz.prog 165=some ⟨.struct #[{name:= "Header",type:=48,offset:=0,embedded:=false,tag:= "",pkgPath:= "",byteOffset:=0},{name:= "Hash",type:=46,offset:=68,embedded:=false,tag:= "",pkgPath:= "",byteOffset:=80},{name:= "Parent",type:=3,offset:=100,embedded:=false,tag:= "",pkgPath:= "",byteOffset:=112},{name:= "Height",type:=3,offset:=101,embedded:=false,tag:= "",pkgPath:= "",byteOffset:=120},{name:= "Work",type:=51,offset:=102,embedded:=false,tag:= "",pkgPath:= "",byteOffset:=128}],106,160,.agg #[.int .u32 0,.int .u8 0,.int .u8 0,.int .u8 0,.int .u8 0,.int .u8 0,.int .u8 0,.int .u8 0,.int .u8 0,.int .u8 0,.int .u8 0,.int .u8 0,.int .u8 0,.int .u8 0,.int .u8 0,.int .u8 0,.int .u8 0,.int .u8 0,.int .u8 0,.int .u8 0,.int .u8 0,.int .u8 0,.int .u8 0,.int .u8 0,.int .u8 0,.int .u8 0,.int .u8 0,.int .u8 0,.int .u8 0,.int .u8 0,.int .u8 0,.int .u8 0,.int .u8 0,.int .u8 0,.int .u8 0,.int .u8 0,.int .u8 0,.int .u8 0,.int .u8 0,.int .u8 0,.int .u8 0,.int .u8 0,.int .u8 0,.int .u8 0,.int .u8 0,.int .u8 0,.int .u8 0,.int .u8 0,.int .u8 0,.int .u8 0,.int .u8 0,.int .u8 0,.int .u8 0,.int .u8 0,.int .u8 0,.int .u8 0,.int .u8 0,.int .u8 0,.int .u8 0,.int .u8 0,.int .u8 0,.int .u8 0,.int .u8 0,.int .u8 0,.int .u8 0,.int .u32 0,.int .u32 0,.int .u32 0,.int .u8 0,.int .u8 0,.int .u8 0,.int .u8 0,.int .u8 0,.int .u8 0,.int .u8 0,.int .u8 0,.int .u8 0,.int .u8 0,.int .u8 0,.int .u8 0,.int .u8 0,.int .u8 0,.int .u8 0,.int .u8 0,.int .u8 0,.int .u8 0,.int .u8 0,.int .u8 0,.int .u8 0,.int .u8 0,.int .u8 0,.int .u8 0,.int .u8 0,.int .u8 0,.int .u8 0,.int .u8 0,.int .u8 0,.int .u8 0,.int .u8 0,.int .u8 0,.int .i64 0,.int .i64 0,.int .u64 0,.int .u64 0,.int .u64 0,.int .u64 0]⟩:=by kernel_rfl
@[simp] theorem aL5 :aD Tryz.prog 166=some ⟨.slice 265,1,24,.slice none 0 0⟩:=by kernel_rfl
@[simp] theorem aLh :aD Tryz.prog 174=some ⟨.pointer 5,1,8,.pointer none⟩:=by kernel_rfl
@[simp] theorem aKQ :aD Tryz.prog 176=some ⟨.slice 119,1,24,.slice none 0 0⟩:=by kernel_rfl
@[simp] theorem aMi :aD Tryz.prog 181=some ⟨.struct #[{name:= "Height",type:=3,offset:=0,embedded:=false,tag:= "",pkgPath:= "",byteOffset:=0},{name:= "Tip",type:=46,offset:=1,embedded:=false,tag:= "",pkgPath:= "",byteOffset:=8},{name:= "Coins",type:=166,offset:=33,embedded:=false,tag:= "",pkgPath:= "",byteOffset:=40}],34,64,.agg #[.int .i64 0,.int .u8 0,.int .u8 0,.int .u8 0,.int .u8 0,.int .u8 0,.int .u8 0,.int .u8 0,.int .u8 0,.int .u8 0,.int .u8 0,.int .u8 0,.int .u8 0,.int .u8 0,.int .u8 0,.int .u8 0,.int .u8 0,.int .u8 0,.int .u8 0,.int .u8 0,.int .u8 0,.int .u8 0,.int .u8 0,.int .u8 0,.int .u8 0,.int .u8 0,.int .u8 0,.int .u8 0,.int .u8 0,.int .u8 0,.int .u8 0,.int .u8 0,.int .u8 0,.slice none 0 0]⟩:=by kernel_rfl
@[simp] theorem aLG :aD Tryz.prog 182=some ⟨.struct #[{name:= "Height",type:=3,offset:=0,embedded:=false,tag:= "",pkgPath:= "",byteOffset:=0},{name:= "Tip",type:=46,offset:=1,embedded:=false,tag:= "",pkgPath:= "",byteOffset:=8},{name:= "Coins",type:=166,offset:=33,embedded:=false,tag:= "",pkgPath:= "",byteOffset:=40}],34,64,.agg #[.int .i64 0,.int .u8 0,.int .u8 0,.int .u8 0,.int .u8 0,.int .u8 0,.int .u8 0,.int .u8 0,.int .u8 0,.int .u8 0,.int .u8 0,.int .u8 0,.int .u8 0,.int .u8 0,.int .u8 0,.int .u8 0,.int .u8 0,.int .u8 0,.int .u8 0,.int .u8 0,.int .u8 0,.int .u8 0,.int .u8 0,.int .u8 0,.int .u8 0,.int .u8 0,.int .u8 0,.int .u8 0,.int .u8 0,.int .u8 0,.int .u8 0,.int .u8 0,.int .u8 0,.slice none 0 0]⟩:=by kernel_rfl
@[simp] theorem aLP :aD Tryz.prog 184=some ⟨.struct #[{name:= "Spent",type:=166,offset:=0,embedded:=false,tag:= "",pkgPath:= "",byteOffset:=0}],1,24,.agg #[.slice none 0 0]⟩:=by kernel_rfl
@[simp] theorem aMg :aD Tryz.prog 185=some ⟨.struct #[{name:= "Spent",type:=166,offset:=0,embedded:=false,tag:= "",pkgPath:= "",byteOffset:=0}],1,24,.agg #[.slice none 0 0]⟩:=by kernel_rfl
@[simp] theorem aLq :aD Tryz.prog 195=some ⟨.array 2 49,2,16,.agg #[.int .u64 0,.int .u64 0]⟩:=by kernel_rfl
@[simp] theorem aKE :aD Tryz.prog 196=some ⟨.array 2 49,2,16,.agg #[.int .u64 0,.int .u64 0]⟩:=by kernel_rfl
@[simp] theorem aLi :aD Tryz.prog 215=some ⟨.slice 291,1,24,.slice none 0 0⟩:=by kernel_rfl
@[simp] theorem aLv :aD Tryz.prog 216=some ⟨.slice 263,1,24,.slice none 0 0⟩:=by kernel_rfl
@[simp] theorem aKw :aD Tryz.prog 217=some ⟨.struct #[{name:= "Version",type:=44,offset:=0,embedded:=false,tag:= "",pkgPath:= "",byteOffset:=0},{name:= "Inputs",type:=215,offset:=1,embedded:=false,tag:= "",pkgPath:= "",byteOffset:=8},{name:= "Outputs",type:=216,offset:=2,embedded:=false,tag:= "",pkgPath:= "",byteOffset:=32},{name:= "Lock",type:=44,offset:=3,embedded:=false,tag:= "",pkgPath:= "",byteOffset:=56}],4,64,.agg #[.int .u32 0,.slice none 0 0,.slice none 0 0,.int .u32 0]⟩:=by kernel_rfl
@[simp] theorem aLO :aD Tryz.prog 218=some ⟨.struct #[{name:= "Version",type:=44,offset:=0,embedded:=false,tag:= "",pkgPath:= "",byteOffset:=0},{name:= "Inputs",type:=215,offset:=1,embedded:=false,tag:= "",pkgPath:= "",byteOffset:=8},{name:= "Outputs",type:=216,offset:=2,embedded:=false,tag:= "",pkgPath:= "",byteOffset:=32},{name:= "Lock",type:=44,offset:=3,embedded:=false,tag:= "",pkgPath:= "",byteOffset:=56}],4,64,.agg #[.int .u32 0,.slice none 0 0,.slice none 0 0,.int .u32 0]⟩:=by kernel_rfl
@[simp] theorem aMy :aD Tryz.prog 219=some ⟨.slice 526,1,24,.slice none 0 0⟩:=by kernel_rfl
@[simp] theorem aK6 :aD Tryz.prog 220=some ⟨.struct #[{name:= "Kind",type:=3,offset:=0,embedded:=false,tag:= "",pkgPath:= "",byteOffset:=0},{name:= "Version",type:=44,offset:=1,embedded:=false,tag:= "",pkgPath:= "",byteOffset:=8},{name:= "Nonce",type:=49,offset:=2,embedded:=false,tag:= "",pkgPath:= "",byteOffset:=16},{name:= "Start",type:=3,offset:=3,embedded:=false,tag:= "",pkgPath:= "",byteOffset:=24},{name:= "Stop",type:=46,offset:=4,embedded:=false,tag:= "",pkgPath:= "",byteOffset:=32},{name:= "Hashes",type:=58,offset:=36,embedded:=false,tag:= "",pkgPath:= "",byteOffset:=64},{name:= "Headers",type:=152,offset:=37,embedded:=false,tag:= "",pkgPath:= "",byteOffset:=88},{name:= "Filter",type:=138,offset:=38,embedded:=false,tag:= "",pkgPath:= "",byteOffset:=112},{name:= "Block",type:=143,offset:=40,embedded:=false,tag:= "",pkgPath:= "",byteOffset:=144},{name:= "Tx",type:=218,offset:=109,embedded:=false,tag:= "",pkgPath:= "",byteOffset:=248},{name:= "Addrs",type:=219,offset:=113,embedded:=false,tag:= "",pkgPath:= "",byteOffset:=312}],114,336,.agg #[.int .i64 0,.int .u32 0,.int .u64 0,.int .i64 0,.int .u8 0,.int .u8 0,.int .u8 0,.int .u8 0,.int .u8 0,.int .u8 0,.int .u8 0,.int .u8 0,.int .u8 0,.int .u8 0,.int .u8 0,.int .u8 0,.int .u8 0,.int .u8 0,.int .u8 0,.int .u8 0,.int .u8 0,.int .u8 0,.int .u8 0,.int .u8 0,.int .u8 0,.int .u8 0,.int .u8 0,.int .u8 0,.int .u8 0,.int .u8 0,.int .u8 0,.int .u8 0,.int .u8 0,.int .u8 0,.int .u8 0,.int .u8 0,.slice none 0 0,.slice none 0 0,.int .i64 0,.slice none 0 0,.int .u32 0,.int .u8 0,.int .u8 0,.int .u8 0,.int .u8 0,.int .u8 0,.int .u8 0,.int .u8 0,.int .u8 0,.int .u8 0,.int .u8 0,.int .u8 0,.int .u8 0,.int .u8 0,.int .u8 0,.int .u8 0,.int .u8 0,.int .u8 0,.int .u8 0,.int .u8 0,.int .u8 0,.int .u8 0,.int .u8 0,.int .u8 0,.int .u8 0,.int .u8 0,.int .u8 0,.int .u8 0,.int .u8 0,.int .u8 0,.int .u8 0,.int .u8 0,.int .u8 0,.int .u8 0,.int .u8 0,.int .u8 0,.int .u8 0,.int .u8 0,.int .u8 0,.int .u8 0,.int .u8 0,.int .u8 0,.int .u8 0,.int .u8 0,.int .u8 0,.int .u8 0,.int .u8 0,.int .u8 0,.int .u8 0,.int .u8 0,.int .u8 0,.int .u8 0,.int .u8 0,.int .u8 0,.int .u8 0,.int .u8 0,.int .u8 0,.int .u8 0,.int .u8 0,.int .u8 0,.int .u8 0,.int .u8 0,.int .u8 0,.int .u8 0,.int .u8 0,.int .u32 0,.int .u32 0,.int .u32 0,.slice none 0 0,.int .u32 0,.slice none 0 0,.slice none 0 0,.int .u32 0,.slice none 0 0]⟩:=by kernel_rfl
@[simp] theorem aKV :aD Tryz.prog 221=some ⟨.struct #[{name:= "Kind",type:=3,offset:=0,embedded:=false,tag:= "",pkgPath:= "",byteOffset:=0},{name:= "Version",type:=44,offset:=1,embedded:=false,tag:= "",pkgPath:= "",byteOffset:=8},{name:= "Nonce",type:=49,offset:=2,embedded:=false,tag:= "",pkgPath:= "",byteOffset:=16},{name:= "Start",type:=3,offset:=3,embedded:=false,tag:= "",pkgPath:= "",byteOffset:=24},{name:= "Stop",type:=46,offset:=4,embedded:=false,tag:= "",pkgPath:= "",byteOffset:=32},{name:= "Hashes",type:=58,offset:=36,embedded:=false,tag:= "",pkgPath:= "",byteOffset:=64},{name:= "Headers",type:=152,offset:=37,embedded:=false,tag:= "",pkgPath:= "",byteOffset:=88},{name:= "Filter",type:=138,offset:=38,embedded:=false,tag:= "",pkgPath:= "",byteOffset:=112},{name:= "Block",type:=143,offset:=40,embedded:=false,tag:= "",pkgPath:= "",byteOffset:=144},{name:= "Tx",type:=218,offset:=109,embedded:=false,tag:= "",pkgPath:= "",byteOffset:=248},{name:= "Addrs",type:=219,offset:=113,embedded:=false,tag:= "",pkgPath:= "",byteOffset:=312}],114,336,.agg #[.int .i64 0,.int .u32 0,.int .u64 0,.int .i64 0,.int .u8 0,.int .u8 0,.int .u8 0,.int .u8 0,.int .u8 0,.int .u8 0,.int .u8 0,.int .u8 0,.int .u8 0,.int .u8 0,.int .u8 0,.int .u8 0,.int .u8 0,.int .u8 0,.int .u8 0,.int .u8 0,.int .u8 0,.int .u8 0,.int .u8 0,.int .u8 0,.int .u8 0,.int .u8 0,.int .u8 0,.int .u8 0,.int .u8 0,.int .u8 0,.int .u8 0,.int .u8 0,.int .u8 0,.int .u8 0,.int .u8 0,.int .u8 0,.slice none 0 0,.slice none 0 0,.int .i64 0,.slice none 0 0,.int .u32 0,.int .u8 0,.int .u8 0,.int .u8 0,.int .u8 0,.int .u8 0,.int .u8 0,.int .u8 0,.int .u8 0,.int .u8 0,.int .u8 0,.int .u8 0,.int .u8 0,.int .u8 0,.int .u8 0,.int .u8 0,.int .u8 0,.int .u8 0,.int .u8 0,.int .u8 0,.int .u8 0,.int .u8 0,.int .u8 0,.int .u8 0,.int .u8 0,.int .u8 0,.int .u8 0,.int .u8 0,.int .u8 0,.int .u8 0,.int .u8 0,.int .u8 0,.int .u8 0,.int .u8 0,.int .u8 0,.int .u8 0,.int .u8 0,.int .u8 0,.int .u8 0,.int .u8 0,.int .u8 0,.int .u8 0,.int .u8 0,.int .u8 0,.int .u8 0,.int .u8 0,.int .u8 0,.int .u8 0,.int .u8 0,.int .u8 0,.int .u8 0,.int .u8 0,.int .u8 0,.int .u8 0,.int .u8 0,.int .u8 0,.int .u8 0,.int .u8 0,.int .u8 0,.int .u8 0,.int .u8 0,.int .u8 0,.int .u8 0,.int .u8 0,.int .u8 0,.int .u32 0,.int .u32 0,.int .u32 0,.slice none 0 0,.int .u32 0,.slice none 0 0,.slice none 0 0,.int .u32 0,.slice none 0 0]⟩:=by kernel_rfl
@[simp] theorem aL9 :aD Tryz.prog 236=some ⟨.int .u64,1,8,.int .u64 0⟩:=by kernel_rfl
@[simp] theorem aLN :aD Tryz.prog 260=some ⟨.struct #[{name:= "Tx",type:=46,offset:=0,embedded:=false,tag:= "",pkgPath:= "",byteOffset:=0},{name:= "Index",type:=44,offset:=32,embedded:=false,tag:= "",pkgPath:= "",byteOffset:=32}],33,36,.agg #[.int .u8 0,.int .u8 0,.int .u8 0,.int .u8 0,.int .u8 0,.int .u8 0,.int .u8 0,.int .u8 0,.int .u8 0,.int .u8 0,.int .u8 0,.int .u8 0,.int .u8 0,.int .u8 0,.int .u8 0,.int .u8 0,.int .u8 0,.int .u8 0,.int .u8 0,.int .u8 0,.int .u8 0,.int .u8 0,.int .u8 0,.int .u8 0,.int .u8 0,.int .u8 0,.int .u8 0,.int .u8 0,.int .u8 0,.int .u8 0,.int .u8 0,.int .u8 0,.int .u32 0]⟩:=by kernel_rfl
@[simp] theorem aLB :aD Tryz.prog 261=some ⟨.struct #[{name:= "Tx",type:=46,offset:=0,embedded:=false,tag:= "",pkgPath:= "",byteOffset:=0},{name:= "Index",type:=44,offset:=32,embedded:=false,tag:= "",pkgPath:= "",byteOffset:=32}],33,36,.agg #[.int .u8 0,.int .u8 0,.int .u8 0,.int .u8 0,.int .u8 0,.int .u8 0,.int .u8 0,.int .u8 0,.int .u8 0,.int .u8 0,.int .u8 0,.int .u8 0,.int .u8 0,.int .u8 0,.int .u8 0,.int .u8 0,.int .u8 0,.int .u8 0,.int .u8 0,.int .u8 0,.int .u8 0,.int .u8 0,.int .u8 0,.int .u8 0,.int .u8 0,.int .u8 0,.int .u8 0,.int .u8 0,.int .u8 0,.int .u8 0,.int .u8 0,.int .u8 0,.int .u32 0]⟩:=by kernel_rfl
@[simp] theorem aKP :aD Tryz.prog 262=some ⟨.struct #[{name:= "Value",type:=2,offset:=0,embedded:=false,tag:= "",pkgPath:= "",byteOffset:=0},{name:= "Script",type:=33,offset:=1,embedded:=false,tag:= "",pkgPath:= "",byteOffset:=8}],2,32,.agg #[.int .i64 0,.slice none 0 0]⟩:=by kernel_rfl
@[simp] theorem aKk :aD Tryz.prog 263=some ⟨.struct #[{name:= "Value",type:=2,offset:=0,embedded:=false,tag:= "",pkgPath:= "",byteOffset:=0},{name:= "Script",type:=33,offset:=1,embedded:=false,tag:= "",pkgPath:= "",byteOffset:=8}],2,32,.agg #[.int .i64 0,.slice none 0 0]⟩:=by kernel_rfl
@[simp] theorem aKc :aD Tryz.prog 264=some ⟨.struct #[{name:= "Out",type:=261,offset:=0,embedded:=false,tag:= "",pkgPath:= "",byteOffset:=0},{name:= "Output",type:=263,offset:=33,embedded:=false,tag:= "",pkgPath:= "",byteOffset:=40},{name:= "Height",type:=3,offset:=35,embedded:=false,tag:= "",pkgPath:= "",byteOffset:=72},{name:= "Coinbase",type:=4,offset:=36,embedded:=false,tag:= "",pkgPath:= "",byteOffset:=80}],37,88,.agg #[.int .u8 0,.int .u8 0,.int .u8 0,.int .u8 0,.int .u8 0,.int .u8 0,.int .u8 0,.int .u8 0,.int .u8 0,.int .u8 0,.int .u8 0,.int .u8 0,.int .u8 0,.int .u8 0,.int .u8 0,.int .u8 0,.int .u8 0,.int .u8 0,.int .u8 0,.int .u8 0,.int .u8 0,.int .u8 0,.int .u8 0,.int .u8 0,.int .u8 0,.int .u8 0,.int .u8 0,.int .u8 0,.int .u8 0,.int .u8 0,.int .u8 0,.int .u8 0,.int .u32 0,.int .i64 0,.slice none 0 0,.int .i64 0,.bool false]⟩:=by kernel_rfl
@[simp] theorem aK2 :aD Tryz.prog 265=some ⟨.struct #[{name:= "Out",type:=261,offset:=0,embedded:=false,tag:= "",pkgPath:= "",byteOffset:=0},{name:= "Output",type:=263,offset:=33,embedded:=false,tag:= "",pkgPath:= "",byteOffset:=40},{name:= "Height",type:=3,offset:=35,embedded:=false,tag:= "",pkgPath:= "",byteOffset:=72},{name:= "Coinbase",type:=4,offset:=36,embedded:=false,tag:= "",pkgPath:= "",byteOffset:=80}],37,88,.agg #[.int .u8 0,.int .u8 0,.int .u8 0,.int .u8 0,.int .u8 0,.int .u8 0,.int .u8 0,.int .u8 0,.int .u8 0,.int .u8 0,.int .u8 0,.int .u8 0,.int .u8 0,.int .u8 0,.int .u8 0,.int .u8 0,.int .u8 0,.int .u8 0,.int .u8 0,.int .u8 0,.int .u8 0,.int .u8 0,.int .u8 0,.int .u8 0,.int .u8 0,.int .u8 0,.int .u8 0,.int .u8 0,.int .u8 0,.int .u8 0,.int .u8 0,.int .u8 0,.int .u32 0,.int .i64 0,.slice none 0 0,.int .i64 0,.bool false]⟩:=by kernel_rfl
@[simp] theorem aKm :aD Tryz.prog 274=some ⟨.struct #[{name:= "Height",type:=3,offset:=0,embedded:=false,tag:= "",pkgPath:= "",byteOffset:=0},{name:= "Hash",type:=46,offset:=1,embedded:=false,tag:= "",pkgPath:= "",byteOffset:=8}],33,40,.agg #[.int .i64 0,.int .u8 0,.int .u8 0,.int .u8 0,.int .u8 0,.int .u8 0,.int .u8 0,.int .u8 0,.int .u8 0,.int .u8 0,.int .u8 0,.int .u8 0,.int .u8 0,.int .u8 0,.int .u8 0,.int .u8 0,.int .u8 0,.int .u8 0,.int .u8 0,.int .u8 0,.int .u8 0,.int .u8 0,.int .u8 0,.int .u8 0,.int .u8 0,.int .u8 0,.int .u8 0,.int .u8 0,.int .u8 0,.int .u8 0,.int .u8 0,.int .u8 0,.int .u8 0]⟩:=by kernel_rfl
@[simp] theorem aLH :aD Tryz.prog 275=some ⟨.struct #[{name:= "Height",type:=3,offset:=0,embedded:=false,tag:= "",pkgPath:= "",byteOffset:=0},{name:= "Hash",type:=46,offset:=1,embedded:=false,tag:= "",pkgPath:= "",byteOffset:=8}],33,40,.agg #[.int .i64 0,.int .u8 0,.int .u8 0,.int .u8 0,.int .u8 0,.int .u8 0,.int .u8 0,.int .u8 0,.int .u8 0,.int .u8 0,.int .u8 0,.int .u8 0,.int .u8 0,.int .u8 0,.int .u8 0,.int .u8 0,.int .u8 0,.int .u8 0,.int .u8 0,.int .u8 0,.int .u8 0,.int .u8 0,.int .u8 0,.int .u8 0,.int .u8 0,.int .u8 0,.int .u8 0,.int .u8 0,.int .u8 0,.int .u8 0,.int .u8 0,.int .u8 0,.int .u8 0]⟩:=by kernel_rfl
@[simp] theorem aLg :aD Tryz.prog 284=some ⟨.slice 49,1,24,.slice none 0 0⟩:=by kernel_rfl
@[simp] theorem aMp :aD Tryz.prog 290=some ⟨.struct #[{name:= "Prev",type:=261,offset:=0,embedded:=false,tag:= "",pkgPath:= "",byteOffset:=0},{name:= "Sequence",type:=44,offset:=33,embedded:=false,tag:= "",pkgPath:= "",byteOffset:=36},{name:= "Witness",type:=76,offset:=34,embedded:=false,tag:= "",pkgPath:= "",byteOffset:=40}],35,64,.agg #[.int .u8 0,.int .u8 0,.int .u8 0,.int .u8 0,.int .u8 0,.int .u8 0,.int .u8 0,.int .u8 0,.int .u8 0,.int .u8 0,.int .u8 0,.int .u8 0,.int .u8 0,.int .u8 0,.int .u8 0,.int .u8 0,.int .u8 0,.int .u8 0,.int .u8 0,.int .u8 0,.int .u8 0,.int .u8 0,.int .u8 0,.int .u8 0,.int .u8 0,.int .u8 0,.int .u8 0,.int .u8 0,.int .u8 0,.int .u8 0,.int .u8 0,.int .u8 0,.int .u32 0,.int .u32 0,.slice none 0 0]⟩:=by kernel_rfl
@[simp] theorem aLU :aD Tryz.prog 291=some ⟨.struct #[{name:= "Prev",type:=261,offset:=0,embedded:=false,tag:= "",pkgPath:= "",byteOffset:=0},{name:= "Sequence",type:=44,offset:=33,embedded:=false,tag:= "",pkgPath:= "",byteOffset:=36},{name:= "Witness",type:=76,offset:=34,embedded:=false,tag:= "",pkgPath:= "",byteOffset:=40}],35,64,.agg #[.int .u8 0,.int .u8 0,.int .u8 0,.int .u8 0,.int .u8 0,.int .u8 0,.int .u8 0,.int .u8 0,.int .u8 0,.int .u8 0,.int .u8 0,.int .u8 0,.int .u8 0,.int .u8 0,.int .u8 0,.int .u8 0,.int .u8 0,.int .u8 0,.int .u8 0,.int .u8 0,.int .u8 0,.int .u8 0,.int .u8 0,.int .u8 0,.int .u8 0,.int .u8 0,.int .u8 0,.int .u8 0,.int .u8 0,.int .u8 0,.int .u8 0,.int .u8 0,.int .u32 0,.int .u32 0,.slice none 0 0]⟩:=by kernel_rfl
@[simp] theorem aKL :aD Tryz.prog 300=some ⟨.struct #[{name:= "Peer",type:=3,offset:=0,embedded:=false,tag:= "",pkgPath:= "",byteOffset:=0},{name:= "Header",type:=46,offset:=1,embedded:=false,tag:= "",pkgPath:= "",byteOffset:=8}],33,40,.agg #[.int .i64 0,.int .u8 0,.int .u8 0,.int .u8 0,.int .u8 0,.int .u8 0,.int .u8 0,.int .u8 0,.int .u8 0,.int .u8 0,.int .u8 0,.int .u8 0,.int .u8 0,.int .u8 0,.int .u8 0,.int .u8 0,.int .u8 0,.int .u8 0,.int .u8 0,.int .u8 0,.int .u8 0,.int .u8 0,.int .u8 0,.int .u8 0,.int .u8 0,.int .u8 0,.int .u8 0,.int .u8 0,.int .u8 0,.int .u8 0,.int .u8 0,.int .u8 0,.int .u8 0]⟩:=by kernel_rfl
@[simp] theorem aLR :aD Tryz.prog 301=some ⟨.struct #[{name:= "Peer",type:=3,offset:=0,embedded:=false,tag:= "",pkgPath:= "",byteOffset:=0},{name:= "Header",type:=46,offset:=1,embedded:=false,tag:= "",pkgPath:= "",byteOffset:=8}],33,40,.agg #[.int .i64 0,.int .u8 0,.int .u8 0,.int .u8 0,.int .u8 0,.int .u8 0,.int .u8 0,.int .u8 0,.int .u8 0,.int .u8 0,.int .u8 0,.int .u8 0,.int .u8 0,.int .u8 0,.int .u8 0,.int .u8 0,.int .u8 0,.int .u8 0,.int .u8 0,.int .u8 0,.int .u8 0,.int .u8 0,.int .u8 0,.int .u8 0,.int .u8 0,.int .u8 0,.int .u8 0,.int .u8 0,.int .u8 0,.int .u8 0,.int .u8 0,.int .u8 0,.int .u8 0]⟩:=by kernel_rfl
@[simp] theorem aMv :aD Tryz.prog 303=some ⟨.struct #[{name:= "Script",type:=33,offset:=0,embedded:=false,tag:= "",pkgPath:= "",byteOffset:=0},{name:= "Birth",type:=3,offset:=1,embedded:=false,tag:= "",pkgPath:= "",byteOffset:=24},{name:= "Reached",type:=3,offset:=2,embedded:=false,tag:= "",pkgPath:= "",byteOffset:=32}],3,40,.agg #[.slice none 0 0,.int .i64 0,.int .i64 0]⟩:=by kernel_rfl
@[simp] theorem aMw :aD Tryz.prog 304=some ⟨.struct #[{name:= "Script",type:=33,offset:=0,embedded:=false,tag:= "",pkgPath:= "",byteOffset:=0},{name:= "Birth",type:=3,offset:=1,embedded:=false,tag:= "",pkgPath:= "",byteOffset:=24},{name:= "Reached",type:=3,offset:=2,embedded:=false,tag:= "",pkgPath:= "",byteOffset:=32}],3,40,.agg #[.slice none 0 0,.int .i64 0,.int .i64 0]⟩:=by kernel_rfl
@[simp] theorem aLo :aD Tryz.prog 308=some ⟨.struct #[{name:= "Coin",type:=265,offset:=0,embedded:=false,tag:= "",pkgPath:= "",byteOffset:=0},{name:= "Spent",type:=3,offset:=37,embedded:=false,tag:= "",pkgPath:= "",byteOffset:=88}],38,96,.agg #[.int .u8 0,.int .u8 0,.int .u8 0,.int .u8 0,.int .u8 0,.int .u8 0,.int .u8 0,.int .u8 0,.int .u8 0,.int .u8 0,.int .u8 0,.int .u8 0,.int .u8 0,.int .u8 0,.int .u8 0,.int .u8 0,.int .u8 0,.int .u8 0,.int .u8 0,.int .u8 0,.int .u8 0,.int .u8 0,.int .u8 0,.int .u8 0,.int .u8 0,.int .u8 0,.int .u8 0,.int .u8 0,.int .u8 0,.int .u8 0,.int .u8 0,.int .u8 0,.int .u32 0,.int .i64 0,.slice none 0 0,.int .i64 0,.bool false,.int .i64 0]⟩:=by kernel_rfl
@[simp] theorem aK3 :aD Tryz.prog 309=some ⟨.struct #[{name:= "Coin",type:=265,offset:=0,embedded:=false,tag:= "",pkgPath:= "",byteOffset:=0},{name:= "Spent",type:=3,offset:=37,embedded:=false,tag:= "",pkgPath:= "",byteOffset:=88}],38,96,.agg #[.int .u8 0,.int .u8 0,.int .u8 0,.int .u8 0,.int .u8 0,.int .u8 0,.int .u8 0,.int .u8 0,.int .u8 0,.int .u8 0,.int .u8 0,.int .u8 0,.int .u8 0,.int .u8 0,.int .u8 0,.int .u8 0,.int .u8 0,.int .u8 0,.int .u8 0,.int .u8 0,.int .u8 0,.int .u8 0,.int .u8 0,.int .u8 0,.int .u8 0,.int .u8 0,.int .u8 0,.int .u8 0,.int .u8 0,.int .u8 0,.int .u8 0,.int .u8 0,.int .u32 0,.int .i64 0,.slice none 0 0,.int .i64 0,.bool false,.int .i64 0]⟩:=by kernel_rfl
@[simp] theorem aLK :aD Tryz.prog 314=some ⟨.struct #[{name:= "Peer",type:=3,offset:=0,embedded:=false,tag:= "",pkgPath:= "",byteOffset:=0},{name:= "Points",type:=3,offset:=1,embedded:=false,tag:= "",pkgPath:= "",byteOffset:=8},{name:= "Until",type:=44,offset:=2,embedded:=false,tag:= "",pkgPath:= "",byteOffset:=16}],3,24,.agg #[.int .i64 0,.int .i64 0,.int .u32 0]⟩:=by kernel_rfl
@[simp] theorem aKT :aD Tryz.prog 315=some ⟨.struct #[{name:= "Peer",type:=3,offset:=0,embedded:=false,tag:= "",pkgPath:= "",byteOffset:=0},{name:= "Points",type:=3,offset:=1,embedded:=false,tag:= "",pkgPath:= "",byteOffset:=8},{name:= "Until",type:=44,offset:=2,embedded:=false,tag:= "",pkgPath:= "",byteOffset:=16}],3,24,.agg #[.int .i64 0,.int .i64 0,.int .u32 0]⟩:=by kernel_rfl
@[simp] theorem aK0 :aD Tryz.prog 317=some ⟨.slice 320,1,24,.slice none 0 0⟩:=by kernel_rfl
@[simp] theorem aMk :aD Tryz.prog 319=some ⟨.struct #[{name:= "Peer",type:=3,offset:=0,embedded:=false,tag:= "",pkgPath:= "",byteOffset:=0},{name:= "Message",type:=221,offset:=1,embedded:=false,tag:= "",pkgPath:= "",byteOffset:=8}],115,344,.agg #[.int .i64 0,.int .i64 0,.int .u32 0,.int .u64 0,.int .i64 0,.int .u8 0,.int .u8 0,.int .u8 0,.int .u8 0,.int .u8 0,.int .u8 0,.int .u8 0,.int .u8 0,.int .u8 0,.int .u8 0,.int .u8 0,.int .u8 0,.int .u8 0,.int .u8 0,.int .u8 0,.int .u8 0,.int .u8 0,.int .u8 0,.int .u8 0,.int .u8 0,.int .u8 0,.int .u8 0,.int .u8 0,.int .u8 0,.int .u8 0,.int .u8 0,.int .u8 0,.int .u8 0,.int .u8 0,.int .u8 0,.int .u8 0,.int .u8 0,.slice none 0 0,.slice none 0 0,.int .i64 0,.slice none 0 0,.int .u32 0,.int .u8 0,.int .u8 0,.int .u8 0,.int .u8 0,.int .u8 0,.int .u8 0,.int .u8 0,.int .u8 0,.int .u8 0,.int .u8 0,.int .u8 0,.int .u8 0,.int .u8 0,.int .u8 0,.int .u8 0,.int .u8 0,.int .u8 0,.int .u8 0,.int .u8 0,.int .u8 0,.int .u8 0,.int .u8 0,.int .u8 0,.int .u8 0,.int .u8 0,.int .u8 0,.int .u8 0,.int .u8 0,.int .u8 0,.int .u8 0,.int .u8 0,.int .u8 0,.int .u8 0,.int .u8 0,.int .u8 0,.int .u8 0,.int .u8 0,.int .u8 0,.int .u8 0,.int .u8 0,.int .u8 0,.int .u8 0,.int .u8 0,.int .u8 0,.int .u8 0,.int .u8 0,.int .u8 0,.int .u8 0,.int .u8 0,.int .u8 0,.int .u8 0,.int .u8 0,.int .u8 0,.int .u8 0,.int .u8 0,.int .u8 0,.int .u8 0,.int .u8 0,.int .u8 0,.int .u8 0,.int .u8 0,.int .u8 0,.int .u8 0,.int .u8 0,.int .u32 0,.int .u32 0,.int .u32 0,.slice none 0 0,.int .u32 0,.slice none 0 0,.slice none 0 0,.int .u32 0,.slice none 0 0]⟩:=by kernel_rfl
@[simp] theorem aKC :aD Tryz.prog 320=some ⟨.struct #[{name:= "Peer",type:=3,offset:=0,embedded:=false,tag:= "",pkgPath:= "",byteOffset:=0},{name:= "Message",type:=221,offset:=1,embedded:=false,tag:= "",pkgPath:= "",byteOffset:=8}],115,344,.agg #[.int .i64 0,.int .i64 0,.int .u32 0,.int .u64 0,.int .i64 0,.int .u8 0,.int .u8 0,.int .u8 0,.int .u8 0,.int .u8 0,.int .u8 0,.int .u8 0,.int .u8 0,.int .u8 0,.int .u8 0,.int .u8 0,.int .u8 0,.int .u8 0,.int .u8 0,.int .u8 0,.int .u8 0,.int .u8 0,.int .u8 0,.int .u8 0,.int .u8 0,.int .u8 0,.int .u8 0,.int .u8 0,.int .u8 0,.int .u8 0,.int .u8 0,.int .u8 0,.int .u8 0,.int .u8 0,.int .u8 0,.int .u8 0,.int .u8 0,.slice none 0 0,.slice none 0 0,.int .i64 0,.slice none 0 0,.int .u32 0,.int .u8 0,.int .u8 0,.int .u8 0,.int .u8 0,.int .u8 0,.int .u8 0,.int .u8 0,.int .u8 0,.int .u8 0,.int .u8 0,.int .u8 0,.int .u8 0,.int .u8 0,.int .u8 0,.int .u8 0,.int .u8 0,.int .u8 0,.int .u8 0,.int .u8 0,.int .u8 0,.int .u8 0,.int .u8 0,.int .u8 0,.int .u8 0,.int .u8 0,.int .u8 0,.int .u8 0,.int .u8 0,.int .u8 0,.int .u8 0,.int .u8 0,.int .u8 0,.int .u8 0,.int .u8 0,.int .u8 0,.int .u8 0,.int .u8 0,.int .u8 0,.int .u8 0,.int .u8 0,.int .u8 0,.int .u8 0,.int .u8 0,.int .u8 0,.int .u8 0,.int .u8 0,.int .u8 0,.int .u8 0,.int .u8 0,.int .u8 0,.int .u8 0,.int .u8 0,.int .u8 0,.int .u8 0,.int .u8 0,.int .u8 0,.int .u8 0,.int .u8 0,.int .u8 0,.int .u8 0,.int .u8 0,.int .u8 0,.int .u8 0,.int .u8 0,.int .u32 0,.int .u32 0,.int .u32 0,.slice none 0 0,.int .u32 0,.slice none 0 0,.slice none 0 0,.int .u32 0,.slice none 0 0]⟩:=by kernel_rfl
@[simp] theorem aLJ :aD Tryz.prog 321=some ⟨.slice 221,1,24,.slice none 0 0⟩:=by kernel_rfl
@[simp] theorem aKs :aD Tryz.prog 332=some ⟨.struct #[{name:= "Client",type:=71,offset:=0,embedded:=true,tag:= "",pkgPath:= "",byteOffset:=0},{name:= "params",type:=54,offset:=117,embedded:=false,tag:= "",pkgPath:= "lightclient/client",byteOffset:=384},{name:= "now",type:=44,offset:=197,embedded:=false,tag:= "",pkgPath:= "lightclient/client",byteOffset:=568},{name:= "claims",type:=61,offset:=198,embedded:=false,tag:= "",pkgPath:= "lightclient/client",byteOffset:=576}],199,600,.agg #[.int .u8 0,.int .u8 0,.int .u8 0,.int .u8 0,.int .u8 0,.int .u8 0,.int .u8 0,.int .u8 0,.int .u8 0,.int .u8 0,.int .u8 0,.int .u8 0,.int .u8 0,.int .u8 0,.int .u8 0,.int .u8 0,.int .u8 0,.int .u8 0,.int .u8 0,.int .u8 0,.int .u8 0,.int .u8 0,.int .u8 0,.int .u8 0,.int .u8 0,.int .u8 0,.int .u8 0,.int .u8 0,.int .u8 0,.int .u8 0,.int .u8 0,.int .u8 0,.int .i64 0,.int .i64 0,.slice none 0 0,.int .i64 0,.slice none 0 0,.slice none 0 0,.int .i64 0,.int .i64 0,.int .i64 0,.bool false,.int .u8 0,.int .u8 0,.int .u8 0,.int .u8 0,.int .u8 0,.int .u8 0,.int .u8 0,.int .u8 0,.int .u8 0,.int .u8 0,.int .u8 0,.int .u8 0,.int .u8 0,.int .u8 0,.int .u8 0,.int .u8 0,.int .u8 0,.int .u8 0,.int .u8 0,.int .u8 0,.int .u8 0,.int .u8 0,.int .u8 0,.int .u8 0,.int .u8 0,.int .u8 0,.int .u8 0,.int .u8 0,.int .u8 0,.int .u8 0,.int .u8 0,.int .u8 0,.bool false,.int .i64 0,.int .i64 0,.int .u8 0,.int .u8 0,.int .u8 0,.int .u8 0,.int .u8 0,.int .u8 0,.int .u8 0,.int .u8 0,.int .u8 0,.int .u8 0,.int .u8 0,.int .u8 0,.int .u8 0,.int .u8 0,.int .u8 0,.int .u8 0,.int .u8 0,.int .u8 0,.int .u8 0,.int .u8 0,.int .u8 0,.int .u8 0,.int .u8 0,.int .u8 0,.int .u8 0,.int .u8 0,.int .u8 0,.int .u8 0,.int .u8 0,.int .u8 0,.int .u8 0,.int .u8 0,.slice none 0 0,.int .i64 0,.int .i64 0,.int .i64 0,.slice none 0 0,.slice none 0 0,.slice none 0 0,.slice none 0 0,.int .u32 0,.int .u8 0,.int .u8 0,.int .u8 0,.int .u8 0,.int .u8 0,.int .u8 0,.int .u8 0,.int .u8 0,.int .u8 0,.int .u8 0,.int .u8 0,.int .u8 0,.int .u8 0,.int .u8 0,.int .u8 0,.int .u8 0,.int .u8 0,.int .u8 0,.int .u8 0,.int .u8 0,.int .u8 0,.int .u8 0,.int .u8 0,.int .u8 0,.int .u8 0,.int .u8 0,.int .u8 0,.int .u8 0,.int .u8 0,.int .u8 0,.int .u8 0,.int .u8 0,.int .u8 0,.int .u8 0,.int .u8 0,.int .u8 0,.int .u8 0,.int .u8 0,.int .u8 0,.int .u8 0,.int .u8 0,.int .u8 0,.int .u8 0,.int .u8 0,.int .u8 0,.int .u8 0,.int .u8 0,.int .u8 0,.int .u8 0,.int .u8 0,.int .u8 0,.int .u8 0,.int .u8 0,.int .u8 0,.int .u8 0,.int .u8 0,.int .u8 0,.int .u8 0,.int .u8 0,.int .u8 0,.int .u8 0,.int .u8 0,.int .u8 0,.int .u8 0,.int .u32 0,.int .u32 0,.int .u32 0,.int .u64 0,.int .u64 0,.int .u64 0,.int .u64 0,.int .i64 0,.int .u32 0,.int .u32 0,.int .u32 0,.slice none 0 0,.int .i64 0,.int .i64 0,.int .i64 0,.int .u32 0,.slice none 0 0]⟩:=by kernel_rfl
@[simp] theorem aLL :aD Tryz.prog 333=some ⟨.struct #[{name:= "Client",type:=71,offset:=0,embedded:=true,tag:= "",pkgPath:= "",byteOffset:=0},{name:= "params",type:=54,offset:=117,embedded:=false,tag:= "",pkgPath:= "lightclient/client",byteOffset:=384},{name:= "now",type:=44,offset:=197,embedded:=false,tag:= "",pkgPath:= "lightclient/client",byteOffset:=568},{name:= "claims",type:=61,offset:=198,embedded:=false,tag:= "",pkgPath:= "lightclient/client",byteOffset:=576}],199,600,.agg #[.int .u8 0,.int .u8 0,.int .u8 0,.int .u8 0,.int .u8 0,.int .u8 0,.int .u8 0,.int .u8 0,.int .u8 0,.int .u8 0,.int .u8 0,.int .u8 0,.int .u8 0,.int .u8 0,.int .u8 0,.int .u8 0,.int .u8 0,.int .u8 0,.int .u8 0,.int .u8 0,.int .u8 0,.int .u8 0,.int .u8 0,.int .u8 0,.int .u8 0,.int .u8 0,.int .u8 0,.int .u8 0,.int .u8 0,.int .u8 0,.int .u8 0,.int .u8 0,.int .i64 0,.int .i64 0,.slice none 0 0,.int .i64 0,.slice none 0 0,.slice none 0 0,.int .i64 0,.int .i64 0,.int .i64 0,.bool false,.int .u8 0,.int .u8 0,.int .u8 0,.int .u8 0,.int .u8 0,.int .u8 0,.int .u8 0,.int .u8 0,.int .u8 0,.int .u8 0,.int .u8 0,.int .u8 0,.int .u8 0,.int .u8 0,.int .u8 0,.int .u8 0,.int .u8 0,.int .u8 0,.int .u8 0,.int .u8 0,.int .u8 0,.int .u8 0,.int .u8 0,.int .u8 0,.int .u8 0,.int .u8 0,.int .u8 0,.int .u8 0,.int .u8 0,.int .u8 0,.int .u8 0,.int .u8 0,.bool false,.int .i64 0,.int .i64 0,.int .u8 0,.int .u8 0,.int .u8 0,.int .u8 0,.int .u8 0,.int .u8 0,.int .u8 0,.int .u8 0,.int .u8 0,.int .u8 0,.int .u8 0,.int .u8 0,.int .u8 0,.int .u8 0,.int .u8 0,.int .u8 0,.int .u8 0,.int .u8 0,.int .u8 0,.int .u8 0,.int .u8 0,.int .u8 0,.int .u8 0,.int .u8 0,.int .u8 0,.int .u8 0,.int .u8 0,.int .u8 0,.int .u8 0,.int .u8 0,.int .u8 0,.int .u8 0,.slice none 0 0,.int .i64 0,.int .i64 0,.int .i64 0,.slice none 0 0,.slice none 0 0,.slice none 0 0,.slice none 0 0,.int .u32 0,.int .u8 0,.int .u8 0,.int .u8 0,.int .u8 0,.int .u8 0,.int .u8 0,.int .u8 0,.int .u8 0,.int .u8 0,.int .u8 0,.int .u8 0,.int .u8 0,.int .u8 0,.int .u8 0,.int .u8 0,.int .u8 0,.int .u8 0,.int .u8 0,.int .u8 0,.int .u8 0,.int .u8 0,.int .u8 0,.int .u8 0,.int .u8 0,.int .u8 0,.int .u8 0,.int .u8 0,.int .u8 0,.int .u8 0,.int .u8 0,.int .u8 0,.int .u8 0,.int .u8 0,.int .u8 0,.int .u8 0,.int .u8 0,.int .u8 0,.int .u8 0,.int .u8 0,.int .u8 0,.int .u8 0,.int .u8 0,.int .u8 0,.int .u8 0,.int .u8 0,.int .u8 0,.int .u8 0,.int .u8 0,.int .u8 0,.int .u8 0,.int .u8 0,.int .u8 0,.int .u8 0,.int .u8 0,.int .u8 0,.int .u8 0,.int .u8 0,.int .u8 0,.int .u8 0,.int .u8 0,.int .u8 0,.int .u8 0,.int .u8 0,.int .u8 0,.int .u32 0,.int .u32 0,.int .u32 0,.int .u64 0,.int .u64 0,.int .u64 0,.int .u64 0,.int .i64 0,.int .u32 0,.int .u32 0,.int .u32 0,.slice none 0 0,.int .i64 0,.int .i64 0,.int .i64 0,.int .u32 0,.slice none 0 0]⟩:=by kernel_rfl
@[simp] theorem aLz :aD Tryz.prog 334=some ⟨.pointer 156,1,8,.pointer none⟩:=by kernel_rfl
@[simp] theorem aKM :aD Tryz.prog 348=some ⟨.array 24 5,24,24,.agg #[.int .u8 0,.int .u8 0,.int .u8 0,.int .u8 0,.int .u8 0,.int .u8 0,.int .u8 0,.int .u8 0,.int .u8 0,.int .u8 0,.int .u8 0,.int .u8 0,.int .u8 0,.int .u8 0,.int .u8 0,.int .u8 0,.int .u8 0,.int .u8 0,.int .u8 0,.int .u8 0,.int .u8 0,.int .u8 0,.int .u8 0,.int .u8 0]⟩:=by kernel_rfl
@[simp] theorem aMs :aD Tryz.prog 387=some ⟨.struct #[{name:= "Data",type:=33,offset:=0,embedded:=false,tag:= "",pkgPath:= "",byteOffset:=0},{name:= "N",type:=3,offset:=1,embedded:=false,tag:= "",pkgPath:= "",byteOffset:=24}],2,32,.agg #[.slice none 0 0,.int .i64 0]⟩:=by kernel_rfl
@[simp] theorem aLc :aD Tryz.prog 388=some ⟨.struct #[{name:= "Data",type:=33,offset:=0,embedded:=false,tag:= "",pkgPath:= "",byteOffset:=0},{name:= "N",type:=3,offset:=1,embedded:=false,tag:= "",pkgPath:= "",byteOffset:=24}],2,32,.agg #[.slice none 0 0,.int .i64 0]⟩:=by kernel_rfl
@[simp] theorem aCr :aD Tryz.prog 393=some ⟨.array 8 44,8,32,.agg #[.int .u32 0,.int .u32 0,.int .u32 0,.int .u32 0,.int .u32 0,.int .u32 0,.int .u32 0,.int .u32 0]⟩:=by kernel_rfl
@[simp] theorem aMl :aD Tryz.prog 395=some ⟨.array 64 5,64,64,.agg #[.int .u8 0,.int .u8 0,.int .u8 0,.int .u8 0,.int .u8 0,.int .u8 0,.int .u8 0,.int .u8 0,.int .u8 0,.int .u8 0,.int .u8 0,.int .u8 0,.int .u8 0,.int .u8 0,.int .u8 0,.int .u8 0,.int .u8 0,.int .u8 0,.int .u8 0,.int .u8 0,.int .u8 0,.int .u8 0,.int .u8 0,.int .u8 0,.int .u8 0,.int .u8 0,.int .u8 0,.int .u8 0,.int .u8 0,.int .u8 0,.int .u8 0,.int .u8 0,.int .u8 0,.int .u8 0,.int .u8 0,.int .u8 0,.int .u8 0,.int .u8 0,.int .u8 0,.int .u8 0,.int .u8 0,.int .u8 0,.int .u8 0,.int .u8 0,.int .u8 0,.int .u8 0,.int .u8 0,.int .u8 0,.int .u8 0,.int .u8 0,.int .u8 0,.int .u8 0,.int .u8 0,.int .u8 0,.int .u8 0,.int .u8 0,.int .u8 0,.int .u8 0,.int .u8 0,.int .u8 0,.int .u8 0,.int .u8 0,.int .u8 0,.int .u8 0]⟩:=by kernel_rfl
@[simp] theorem aLI :aD Tryz.prog 416=some ⟨.map 9 3,1,8,.map none⟩:=by kernel_rfl
@[simp] theorem aLT :aD Tryz.prog 420=some ⟨.struct #[{name:= "Height",type:=3,offset:=0,embedded:=false,tag:= "",pkgPath:= "",byteOffset:=0},{name:= "Tip",type:=46,offset:=1,embedded:=false,tag:= "",pkgPath:= "",byteOffset:=8},{name:= "Owned",type:=65,offset:=33,embedded:=false,tag:= "",pkgPath:= "",byteOffset:=40}],34,64,.agg #[.int .i64 0,.int .u8 0,.int .u8 0,.int .u8 0,.int .u8 0,.int .u8 0,.int .u8 0,.int .u8 0,.int .u8 0,.int .u8 0,.int .u8 0,.int .u8 0,.int .u8 0,.int .u8 0,.int .u8 0,.int .u8 0,.int .u8 0,.int .u8 0,.int .u8 0,.int .u8 0,.int .u8 0,.int .u8 0,.int .u8 0,.int .u8 0,.int .u8 0,.int .u8 0,.int .u8 0,.int .u8 0,.int .u8 0,.int .u8 0,.int .u8 0,.int .u8 0,.int .u8 0,.slice none 0 0]⟩:=by kernel_rfl
@[simp] theorem aKd :aD Tryz.prog 421=some ⟨.struct #[{name:= "Height",type:=3,offset:=0,embedded:=false,tag:= "",pkgPath:= "",byteOffset:=0},{name:= "Tip",type:=46,offset:=1,embedded:=false,tag:= "",pkgPath:= "",byteOffset:=8},{name:= "Owned",type:=65,offset:=33,embedded:=false,tag:= "",pkgPath:= "",byteOffset:=40}],34,64,.agg #[.int .i64 0,.int .u8 0,.int .u8 0,.int .u8 0,.int .u8 0,.int .u8 0,.int .u8 0,.int .u8 0,.int .u8 0,.int .u8 0,.int .u8 0,.int .u8 0,.int .u8 0,.int .u8 0,.int .u8 0,.int .u8 0,.int .u8 0,.int .u8 0,.int .u8 0,.int .u8 0,.int .u8 0,.int .u8 0,.int .u8 0,.int .u8 0,.int .u8 0,.int .u8 0,.int .u8 0,.int .u8 0,.int .u8 0,.int .u8 0,.int .u8 0,.int .u8 0,.int .u8 0,.slice none 0 0]⟩:=by kernel_rfl
@[simp] theorem aKv :aD Tryz.prog 423=some ⟨.pointer 333,1,8,.pointer none⟩:=by kernel_rfl
@[simp] theorem aLA :aD Tryz.prog 424=some ⟨.pointer 426,1,8,.pointer none⟩:=by kernel_rfl
@[simp] theorem aK5 :aD Tryz.prog 425=some ⟨.struct #[{name:= "b",type:=33,offset:=0,embedded:=false,tag:= "",pkgPath:= "lightclient/message",byteOffset:=0},{name:= "at",type:=3,offset:=1,embedded:=false,tag:= "",pkgPath:= "lightclient/message",byteOffset:=24},{name:= "e",type:=27,offset:=2,embedded:=false,tag:= "",pkgPath:= "lightclient/message",byteOffset:=32}],3,40,.agg #[.slice none 0 0,.int .i64 0,.int .i64 0]⟩:=by kernel_rfl
@[simp] theorem aMx :aD Tryz.prog 426=some ⟨.struct #[{name:= "b",type:=33,offset:=0,embedded:=false,tag:= "",pkgPath:= "lightclient/message",byteOffset:=0},{name:= "at",type:=3,offset:=1,embedded:=false,tag:= "",pkgPath:= "lightclient/message",byteOffset:=24},{name:= "e",type:=27,offset:=2,embedded:=false,tag:= "",pkgPath:= "lightclient/message",byteOffset:=32}],3,40,.agg #[.slice none 0 0,.int .i64 0,.int .i64 0]⟩:=by kernel_rfl
@[simp] theorem aLf :aD Tryz.prog 432=some ⟨.array 4 5,4,4,.agg #[.int .u8 0,.int .u8 0,.int .u8 0,.int .u8 0]⟩:=by kernel_rfl
@[simp] theorem aMB :aD Tryz.prog 448=some ⟨.array 20 49,20,160,.agg #[.int .u64 0,.int .u64 0,.int .u64 0,.int .u64 0,.int .u64 0,.int .u64 0,.int .u64 0,.int .u64 0,.int .u64 0,.int .u64 0,.int .u64 0,.int .u64 0,.int .u64 0,.int .u64 0,.int .u64 0,.int .u64 0,.int .u64 0,.int .u64 0,.int .u64 0,.int .u64 0]⟩:=by kernel_rfl
@[simp] theorem aLt :aD Tryz.prog 449=some ⟨.array 65 5,65,65,.agg #[.int .u8 0,.int .u8 0,.int .u8 0,.int .u8 0,.int .u8 0,.int .u8 0,.int .u8 0,.int .u8 0,.int .u8 0,.int .u8 0,.int .u8 0,.int .u8 0,.int .u8 0,.int .u8 0,.int .u8 0,.int .u8 0,.int .u8 0,.int .u8 0,.int .u8 0,.int .u8 0,.int .u8 0,.int .u8 0,.int .u8 0,.int .u8 0,.int .u8 0,.int .u8 0,.int .u8 0,.int .u8 0,.int .u8 0,.int .u8 0,.int .u8 0,.int .u8 0,.int .u8 0,.int .u8 0,.int .u8 0,.int .u8 0,.int .u8 0,.int .u8 0,.int .u8 0,.int .u8 0,.int .u8 0,.int .u8 0,.int .u8 0,.int .u8 0,.int .u8 0,.int .u8 0,.int .u8 0,.int .u8 0,.int .u8 0,.int .u8 0,.int .u8 0,.int .u8 0,.int .u8 0,.int .u8 0,.int .u8 0,.int .u8 0,.int .u8 0,.int .u8 0,.int .u8 0,.int .u8 0,.int .u8 0,.int .u8 0,.int .u8 0,.int .u8 0,.int .u8 0]⟩:=by kernel_rfl
@[simp] theorem aKG :aD Tryz.prog 454=some ⟨.map 9 4,1,8,.map none⟩:=by kernel_rfl
@[simp] theorem aLX :aD Tryz.prog 458=some ⟨.slice 58,1,24,.slice none 0 0⟩:=by kernel_rfl
@[simp] theorem aKz :aD Tryz.prog 467=some ⟨.struct #[{name:= "Message",type:=46,offset:=0,embedded:=false,tag:= "",pkgPath:= "",byteOffset:=0},{name:= "Height",type:=3,offset:=32,embedded:=false,tag:= "",pkgPath:= "",byteOffset:=32},{name:= "Age",type:=3,offset:=33,embedded:=false,tag:= "",pkgPath:= "",byteOffset:=40}],34,48,.agg #[.int .u8 0,.int .u8 0,.int .u8 0,.int .u8 0,.int .u8 0,.int .u8 0,.int .u8 0,.int .u8 0,.int .u8 0,.int .u8 0,.int .u8 0,.int .u8 0,.int .u8 0,.int .u8 0,.int .u8 0,.int .u8 0,.int .u8 0,.int .u8 0,.int .u8 0,.int .u8 0,.int .u8 0,.int .u8 0,.int .u8 0,.int .u8 0,.int .u8 0,.int .u8 0,.int .u8 0,.int .u8 0,.int .u8 0,.int .u8 0,.int .u8 0,.int .u8 0,.int .i64 0,.int .i64 0]⟩:=by kernel_rfl
@[simp] theorem aMf :aD Tryz.prog 468=some ⟨.struct #[{name:= "Message",type:=46,offset:=0,embedded:=false,tag:= "",pkgPath:= "",byteOffset:=0},{name:= "Height",type:=3,offset:=32,embedded:=false,tag:= "",pkgPath:= "",byteOffset:=32},{name:= "Age",type:=3,offset:=33,embedded:=false,tag:= "",pkgPath:= "",byteOffset:=40}],34,48,.agg #[.int .u8 0,.int .u8 0,.int .u8 0,.int .u8 0,.int .u8 0,.int .u8 0,.int .u8 0,.int .u8 0,.int .u8 0,.int .u8 0,.int .u8 0,.int .u8 0,.int .u8 0,.int .u8 0,.int .u8 0,.int .u8 0,.int .u8 0,.int .u8 0,.int .u8 0,.int .u8 0,.int .u8 0,.int .u8 0,.int .u8 0,.int .u8 0,.int .u8 0,.int .u8 0,.int .u8 0,.int .u8 0,.int .u8 0,.int .u8 0,.int .u8 0,.int .u8 0,.int .i64 0,.int .i64 0]⟩:=by kernel_rfl
@[simp] theorem aHq :aD Tryz.prog 478=some ⟨.array 64 44,64,256,.agg #[.int .u32 0,.int .u32 0,.int .u32 0,.int .u32 0,.int .u32 0,.int .u32 0,.int .u32 0,.int .u32 0,.int .u32 0,.int .u32 0,.int .u32 0,.int .u32 0,.int .u32 0,.int .u32 0,.int .u32 0,.int .u32 0,.int .u32 0,.int .u32 0,.int .u32 0,.int .u32 0,.int .u32 0,.int .u32 0,.int .u32 0,.int .u32 0,.int .u32 0,.int .u32 0,.int .u32 0,.int .u32 0,.int .u32 0,.int .u32 0,.int .u32 0,.int .u32 0,.int .u32 0,.int .u32 0,.int .u32 0,.int .u32 0,.int .u32 0,.int .u32 0,.int .u32 0,.int .u32 0,.int .u32 0,.int .u32 0,.int .u32 0,.int .u32 0,.int .u32 0,.int .u32 0,.int .u32 0,.int .u32 0,.int .u32 0,.int .u32 0,.int .u32 0,.int .u32 0,.int .u32 0,.int .u32 0,.int .u32 0,.int .u32 0,.int .u32 0,.int .u32 0,.int .u32 0,.int .u32 0,.int .u32 0,.int .u32 0,.int .u32 0,.int .u32 0]⟩:=by kernel_rfl
@[simp] theorem aKK :aD Tryz.prog 524=some ⟨.int .u16,1,2,.int .u16 0⟩:=by kernel_rfl
@[simp] theorem aLk :aD Tryz.prog 525=some ⟨.struct #[{name:= "Host",type:=44,offset:=0,embedded:=false,tag:= "",pkgPath:= "",byteOffset:=0},{name:= "Port",type:=524,offset:=1,embedded:=false,tag:= "",pkgPath:= "",byteOffset:=4},{name:= "Time",type:=44,offset:=2,embedded:=false,tag:= "",pkgPath:= "",byteOffset:=8}],3,12,.agg #[.int .u32 0,.int .u16 0,.int .u32 0]⟩:=by kernel_rfl
@[simp] theorem aMj :aD Tryz.prog 526=some ⟨.struct #[{name:= "Host",type:=44,offset:=0,embedded:=false,tag:= "",pkgPath:= "",byteOffset:=0},{name:= "Port",type:=524,offset:=1,embedded:=false,tag:= "",pkgPath:= "",byteOffset:=4},{name:= "Time",type:=44,offset:=2,embedded:=false,tag:= "",pkgPath:= "",byteOffset:=8}],3,12,.agg #[.int .u32 0,.int .u16 0,.int .u32 0]⟩:=by kernel_rfl
@[simp] theorem aMb :aD Tryz.prog 536=some ⟨.slice 261,1,24,.slice none 0 0⟩:=by kernel_rfl
@[simp] theorem aL6 :aD Tryz.prog 540=some ⟨.array 8 49,8,64,.agg #[.int .u64 0,.int .u64 0,.int .u64 0,.int .u64 0,.int .u64 0,.int .u64 0,.int .u64 0,.int .u64 0]⟩:=by kernel_rfl
@[simp] theorem aKl :aD Tryz.prog 548=some ⟨.pointer 218,1,8,.pointer none⟩:=by kernel_rfl
@[simp] theorem aK1 :aD Tryz.prog 549=some ⟨.int .i64,1,8,.int .i64 0⟩:=by kernel_rfl
@[simp] theorem aKH :aD Tryz.prog 585=some ⟨.slice 592,1,24,.slice none 0 0⟩:=by kernel_rfl
@[simp] theorem aKg :aD Tryz.prog 590=some ⟨.slice 595,1,24,.slice none 0 0⟩:=by kernel_rfl
@[simp] theorem aKi :aD Tryz.prog 591=some ⟨.struct #[{name:= "Code",type:=3,offset:=0,embedded:=false,tag:= "",pkgPath:= "",byteOffset:=0},{name:= "Data",type:=33,offset:=1,embedded:=false,tag:= "",pkgPath:= "",byteOffset:=8},{name:= "M",type:=3,offset:=2,embedded:=false,tag:= "",pkgPath:= "",byteOffset:=32},{name:= "N",type:=3,offset:=3,embedded:=false,tag:= "",pkgPath:= "",byteOffset:=40}],4,48,.agg #[.int .i64 0,.slice none 0 0,.int .i64 0,.int .i64 0]⟩:=by kernel_rfl
@[simp] theorem aKS :aD Tryz.prog 592=some ⟨.struct #[{name:= "Code",type:=3,offset:=0,embedded:=false,tag:= "",pkgPath:= "",byteOffset:=0},{name:= "Data",type:=33,offset:=1,embedded:=false,tag:= "",pkgPath:= "",byteOffset:=8},{name:= "M",type:=3,offset:=2,embedded:=false,tag:= "",pkgPath:= "",byteOffset:=32},{name:= "N",type:=3,offset:=3,embedded:=false,tag:= "",pkgPath:= "",byteOffset:=40}],4,48,.agg #[.int .i64 0,.slice none 0 0,.int .i64 0,.int .i64 0]⟩:=by kernel_rfl
@[simp] theorem aLE :aD Tryz.prog 594=some ⟨.struct #[{name:= "reached",type:=4,offset:=0,embedded:=false,tag:= "",pkgPath:= "lightclient/lightclientref08",byteOffset:=0},{name:= "done",type:=4,offset:=1,embedded:=false,tag:= "",pkgPath:= "lightclient/lightclientref08",byteOffset:=1}],2,2,.agg #[.bool false,.bool false]⟩:=by kernel_rfl
@[simp] theorem aMo :aD Tryz.prog 595=some ⟨.struct #[{name:= "reached",type:=4,offset:=0,embedded:=false,tag:= "",pkgPath:= "lightclient/lightclientref08",byteOffset:=0},{name:= "done",type:=4,offset:=1,embedded:=false,tag:= "",pkgPath:= "lightclient/lightclientref08",byteOffset:=1}],2,2,.agg #[.bool false,.bool false]⟩:=by kernel_rfl
@[simp] theorem aKJ :aD Tryz.prog 627=some ⟨.pointer 629,1,8,.pointer none⟩:=by kernel_rfl
@[simp] theorem aK4 :aD Tryz.prog 628=some ⟨.struct #[{name:= "b",type:=33,offset:=0,embedded:=false,tag:= "",pkgPath:= "lightclient/tx",byteOffset:=0},{name:= "at",type:=3,offset:=1,embedded:=false,tag:= "",pkgPath:= "lightclient/tx",byteOffset:=24},{name:= "failed",type:=27,offset:=2,embedded:=false,tag:= "",pkgPath:= "lightclient/tx",byteOffset:=32}],3,40,.agg #[.slice none 0 0,.int .i64 0,.int .i64 0]⟩:=by kernel_rfl
@[simp] theorem aMt :aD Tryz.prog 629=some ⟨.struct #[{name:= "b",type:=33,offset:=0,embedded:=false,tag:= "",pkgPath:= "lightclient/tx",byteOffset:=0},{name:= "at",type:=3,offset:=1,embedded:=false,tag:= "",pkgPath:= "lightclient/tx",byteOffset:=24},{name:= "failed",type:=27,offset:=2,embedded:=false,tag:= "",pkgPath:= "lightclient/tx",byteOffset:=32}],3,40,.agg #[.slice none 0 0,.int .i64 0,.int .i64 0]⟩:=by kernel_rfl
@[simp] theorem aKu :aD Tryz.prog 656=some ⟨.map 261 4,1,8,.map none⟩:=by kernel_rfl
@[simp] theorem aKD :aD Tryz.prog 657=some ⟨.map 46 3,1,8,.map none⟩:=by kernel_rfl
@[simp] theorem aMz :aD Tryz.prog 668=some ⟨.struct #[{name:= "E",type:=51,offset:=0,embedded:=false,tag:= "",pkgPath:= "",byteOffset:=0},{name:= "S",type:=51,offset:=4,embedded:=false,tag:= "",pkgPath:= "",byteOffset:=32}],8,64,.agg #[.int .u64 0,.int .u64 0,.int .u64 0,.int .u64 0,.int .u64 0,.int .u64 0,.int .u64 0,.int .u64 0]⟩:=by kernel_rfl
@[simp] theorem aLC :aD Tryz.prog 669=some ⟨.struct #[{name:= "E",type:=51,offset:=0,embedded:=false,tag:= "",pkgPath:= "",byteOffset:=0},{name:= "S",type:=51,offset:=4,embedded:=false,tag:= "",pkgPath:= "",byteOffset:=32}],8,64,.agg #[.int .u64 0,.int .u64 0,.int .u64 0,.int .u64 0,.int .u64 0,.int .u64 0,.int .u64 0,.int .u64 0]⟩:=by kernel_rfl
@[simp] theorem aL8 :aD Tryz.prog 675=some ⟨.pointer 679,1,8,.pointer none⟩:=by kernel_rfl
@[simp] theorem aLa :aD Tryz.prog 678=some ⟨.struct #[{name:= "Bits",type:=388,offset:=0,embedded:=true,tag:= "",pkgPath:= "",byteOffset:=0}],2,32,.agg #[.slice none 0 0,.int .i64 0]⟩:=by kernel_rfl
@[simp] theorem aKo :aD Tryz.prog 679=some ⟨.struct #[{name:= "Bits",type:=388,offset:=0,embedded:=true,tag:= "",pkgPath:= "",byteOffset:=0}],2,32,.agg #[.slice none 0 0,.int .i64 0]⟩:=by kernel_rfl
@[simp] theorem aKR :aD Tryz.prog 680=some ⟨.array 4 49,4,32,.agg #[.int .u64 0,.int .u64 0,.int .u64 0,.int .u64 0]⟩:=by kernel_rfl
@[simp] theorem aLW :aD Tryz.prog 686=some ⟨.struct #[{name:= "Presync",type:=154,offset:=0,embedded:=true,tag:= "",pkgPath:= "",byteOffset:=0},{name:= "params",type:=54,offset:=120,embedded:=false,tag:= "",pkgPath:= "lightclient/presync",byteOffset:=336},{name:= "now",type:=44,offset:=200,embedded:=false,tag:= "",pkgPath:= "lightclient/presync",byteOffset:=520},{name:= "out",type:=152,offset:=201,embedded:=false,tag:= "",pkgPath:= "lightclient/presync",byteOffset:=528}],202,552,.agg #[.int .i64 0,.int .u8 0,.int .u8 0,.int .u8 0,.int .u8 0,.int .u8 0,.int .u8 0,.int .u8 0,.int .u8 0,.int .u8 0,.int .u8 0,.int .u8 0,.int .u8 0,.int .u8 0,.int .u8 0,.int .u8 0,.int .u8 0,.int .u8 0,.int .u8 0,.int .u8 0,.int .u8 0,.int .u8 0,.int .u8 0,.int .u8 0,.int .u8 0,.int .u8 0,.int .u8 0,.int .u8 0,.int .u8 0,.int .u8 0,.int .u8 0,.int .u8 0,.int .u8 0,.int .u64 0,.int .u64 0,.int .u64 0,.int .u64 0,.int .i64 0,.int .u8 0,.int .u8 0,.int .u8 0,.int .u8 0,.int .u8 0,.int .u8 0,.int .u8 0,.int .u8 0,.int .u8 0,.int .u8 0,.int .u8 0,.int .u8 0,.int .u8 0,.int .u8 0,.int .u8 0,.int .u8 0,.int .u8 0,.int .u8 0,.int .u8 0,.int .u8 0,.int .u8 0,.int .u8 0,.int .u8 0,.int .u8 0,.int .u8 0,.int .u8 0,.int .u8 0,.int .u8 0,.int .u8 0,.int .u8 0,.int .u8 0,.int .u8 0,.int .u32 0,.int .u32 0,.slice none 0 0,.int .u64 0,.int .u64 0,.int .u64 0,.int .u64 0,.int .i64 0,.int .u8 0,.int .u8 0,.int .u8 0,.int .u8 0,.int .u8 0,.int .u8 0,.int .u8 0,.int .u8 0,.int .u8 0,.int .u8 0,.int .u8 0,.int .u8 0,.int .u8 0,.int .u8 0,.int .u8 0,.int .u8 0,.int .u8 0,.int .u8 0,.int .u8 0,.int .u8 0,.int .u8 0,.int .u8 0,.int .u8 0,.int .u8 0,.int .u8 0,.int .u8 0,.int .u8 0,.int .u8 0,.int .u8 0,.int .u8 0,.int .u8 0,.int .u8 0,.int .u32 0,.int .u32 0,.slice none 0 0,.int .u64 0,.int .u64 0,.int .u64 0,.int .u64 0,.int .i64 0,.slice none 0 0,.slice none 0 0,.int .u32 0,.int .u8 0,.int .u8 0,.int .u8 0,.int .u8 0,.int .u8 0,.int .u8 0,.int .u8 0,.int .u8 0,.int .u8 0,.int .u8 0,.int .u8 0,.int .u8 0,.int .u8 0,.int .u8 0,.int .u8 0,.int .u8 0,.int .u8 0,.int .u8 0,.int .u8 0,.int .u8 0,.int .u8 0,.int .u8 0,.int .u8 0,.int .u8 0,.int .u8 0,.int .u8 0,.int .u8 0,.int .u8 0,.int .u8 0,.int .u8 0,.int .u8 0,.int .u8 0,.int .u8 0,.int .u8 0,.int .u8 0,.int .u8 0,.int .u8 0,.int .u8 0,.int .u8 0,.int .u8 0,.int .u8 0,.int .u8 0,.int .u8 0,.int .u8 0,.int .u8 0,.int .u8 0,.int .u8 0,.int .u8 0,.int .u8 0,.int .u8 0,.int .u8 0,.int .u8 0,.int .u8 0,.int .u8 0,.int .u8 0,.int .u8 0,.int .u8 0,.int .u8 0,.int .u8 0,.int .u8 0,.int .u8 0,.int .u8 0,.int .u8 0,.int .u8 0,.int .u32 0,.int .u32 0,.int .u32 0,.int .u64 0,.int .u64 0,.int .u64 0,.int .u64 0,.int .i64 0,.int .u32 0,.int .u32 0,.int .u32 0,.slice none 0 0,.int .i64 0,.int .i64 0,.int .i64 0,.int .u32 0,.slice none 0 0]⟩:=by kernel_rfl
@[simp] theorem aLY :aD Tryz.prog 687=some ⟨.struct #[{name:= "Presync",type:=154,offset:=0,embedded:=true,tag:= "",pkgPath:= "",byteOffset:=0},{name:= "params",type:=54,offset:=120,embedded:=false,tag:= "",pkgPath:= "lightclient/presync",byteOffset:=336},{name:= "now",type:=44,offset:=200,embedded:=false,tag:= "",pkgPath:= "lightclient/presync",byteOffset:=520},{name:= "out",type:=152,offset:=201,embedded:=false,tag:= "",pkgPath:= "lightclient/presync",byteOffset:=528}],202,552,.agg #[.int .i64 0,.int .u8 0,.int .u8 0,.int .u8 0,.int .u8 0,.int .u8 0,.int .u8 0,.int .u8 0,.int .u8 0,.int .u8 0,.int .u8 0,.int .u8 0,.int .u8 0,.int .u8 0,.int .u8 0,.int .u8 0,.int .u8 0,.int .u8 0,.int .u8 0,.int .u8 0,.int .u8 0,.int .u8 0,.int .u8 0,.int .u8 0,.int .u8 0,.int .u8 0,.int .u8 0,.int .u8 0,.int .u8 0,.int .u8 0,.int .u8 0,.int .u8 0,.int .u8 0,.int .u64 0,.int .u64 0,.int .u64 0,.int .u64 0,.int .i64 0,.int .u8 0,.int .u8 0,.int .u8 0,.int .u8 0,.int .u8 0,.int .u8 0,.int .u8 0,.int .u8 0,.int .u8 0,.int .u8 0,.int .u8 0,.int .u8 0,.int .u8 0,.int .u8 0,.int .u8 0,.int .u8 0,.int .u8 0,.int .u8 0,.int .u8 0,.int .u8 0,.int .u8 0,.int .u8 0,.int .u8 0,.int .u8 0,.int .u8 0,.int .u8 0,.int .u8 0,.int .u8 0,.int .u8 0,.int .u8 0,.int .u8 0,.int .u8 0,.int .u32 0,.int .u32 0,.slice none 0 0,.int .u64 0,.int .u64 0,.int .u64 0,.int .u64 0,.int .i64 0,.int .u8 0,.int .u8 0,.int .u8 0,.int .u8 0,.int .u8 0,.int .u8 0,.int .u8 0,.int .u8 0,.int .u8 0,.int .u8 0,.int .u8 0,.int .u8 0,.int .u8 0,.int .u8 0,.int .u8 0,.int .u8 0,.int .u8 0,.int .u8 0,.int .u8 0,.int .u8 0,.int .u8 0,.int .u8 0,.int .u8 0,.int .u8 0,.int .u8 0,.int .u8 0,.int .u8 0,.int .u8 0,.int .u8 0,.int .u8 0,.int .u8 0,.int .u8 0,.int .u32 0,.int .u32 0,.slice none 0 0,.int .u64 0,.int .u64 0,.int .u64 0,.int .u64 0,.int .i64 0,.slice none 0 0,.slice none 0 0,.int .u32 0,.int .u8 0,.int .u8 0,.int .u8 0,.int .u8 0,.int .u8 0,.int .u8 0,.int .u8 0,.int .u8 0,.int .u8 0,.int .u8 0,.int .u8 0,.int .u8 0,.int .u8 0,.int .u8 0,.int .u8 0,.int .u8 0,.int .u8 0,.int .u8 0,.int .u8 0,.int .u8 0,.int .u8 0,.int .u8 0,.int .u8 0,.int .u8 0,.int .u8 0,.int .u8 0,.int .u8 0,.int .u8 0,.int .u8 0,.int .u8 0,.int .u8 0,.int .u8 0,.int .u8 0,.int .u8 0,.int .u8 0,.int .u8 0,.int .u8 0,.int .u8 0,.int .u8 0,.int .u8 0,.int .u8 0,.int .u8 0,.int .u8 0,.int .u8 0,.int .u8 0,.int .u8 0,.int .u8 0,.int .u8 0,.int .u8 0,.int .u8 0,.int .u8 0,.int .u8 0,.int .u8 0,.int .u8 0,.int .u8 0,.int .u8 0,.int .u8 0,.int .u8 0,.int .u8 0,.int .u8 0,.int .u8 0,.int .u8 0,.int .u8 0,.int .u8 0,.int .u32 0,.int .u32 0,.int .u32 0,.int .u64 0,.int .u64 0,.int .u64 0,.int .u64 0,.int .i64 0,.int .u32 0,.int .u32 0,.int .u32 0,.slice none 0 0,.int .i64 0,.int .i64 0,.int .i64 0,.int .u32 0,.slice none 0 0]⟩:=by kernel_rfl
@[simp] theorem aMc :aD Tryz.prog 690=some ⟨.map 46 4,1,8,.map none⟩:=by kernel_rfl
@[simp] theorem aLS :aD Tryz.prog 700=some ⟨.int .i64,1,8,.int .i64 0⟩:=by kernel_rfl
@[simp] theorem aL7 :aD Tryz.prog 706=some ⟨.pointer 687,1,8,.pointer none⟩:=by kernel_rfl
@[simp] theorem aKh :aD Tryz.prog 714=some ⟨.int .u64,1,8,.int .u64 0⟩:=by kernel_rfl
@[simp] theorem aKf :aD Tryz.prog 724=some ⟨.pointer 714,1,8,.pointer none⟩:=by kernel_rfl
end Go.Proofs.YtjcfonniipabpaaGreatDoor
set_option linter.unusedSimpArgs false
set_option linter.unusedVariables false
namespace Go.Vm
open Go Go.ChangeShapes Go.WideShapes Go.ChangeAt Go.RowKit
section
variable {X:Nat→Prop}{M:List (Option Nat)}{w:World}
theorem aE4 (c:Value):VR X M w (.sc c) c:=by unfold VR;rfl
theorem gF :VCells X M w [] []:=by unfold VCells;rfl
theorem dM {c:V}{v:Value}{cs:List V}{vs:List Value}(h:VR X M w c v)(k:VCells X M w cs vs):VCells X M w (c::cs) (v::vs):=by unfold VCells;exact⟨v,vs,rfl,h,k⟩
theorem aJA {cs:List V}{vs:List Value}(k:VCells X M w cs vs):VR X M w (.agg cs) (.agg vs.toArray):=by unfold VR;exact⟨vs,rfl,k⟩
theorem oU {P:Program}{ts:List TypeId}(h:(ts.all fun t=>P.readableRec t&&decide (t<P.types.size))=true): ∀t∈ts,P.readableRec t=true∧t<P.types.size:=by
 intro t ht
 have:=aOi.1 h t ht
 simp only[aOm,decide_eq_true_eq]at this
 exact this
end
end Go.Vm
namespace Go.Proofs.YtjcfonniipabpaaGreatDoor
open Go Go.Vm
open Go.ChangeShapes Go.WideShapes Go.ChangeAt Go.RowKit
theorem own :ownKnob Tryz.prog.godebug=none:=by kernel_rfl
theorem oJ :laidOutB Tryz.prog=true:=Tryz.gtLaidOut
end Go.Proofs.YtjcfonniipabpaaGreatDoor
namespace Go.Proofs.YtjcfonniipabpaaGreatDoor
open Go Go.Vm
end Go.Proofs.YtjcfonniipabpaaGreatDoor
namespace Go.Vm
open Go Go.ChangeShapes Go.WideShapes Go.ChangeAt Go.RowKit
def yP (P:Program)(t:TypeId){α:Type}(Q:α→Prop)(C:α→List V):Prop:=
 ∀{H:Type}{enc:TypeId×Value→H}{w:World}{spare:Nat→Bool}{held:Bool}{fuel:Nat}{cs:List Value}{x:DataW H×List MemPlace},DataW.trod enc P w 0 spare held fuel t cs=some x→ ∃a:α,Q a∧VCells mA [] w (C a) cs
section
variable {P:Program}{t e:TypeId}
theorem kD {k:IntKind}(ht:P.underlying t=some (.int k)):yP P t (fun x:Int=>(Lit.int k x).wf=true) (fun x=>[eI k x]):=by
 intro H enc w spare held fuel cs x h
 obtain⟨n,rfl,_,hw⟩:=DataW.trod_int ht h
 exact⟨n,hw,dM (aE4 _) gF⟩
theorem aC5 (ht:P.underlying t=some .string):yP P t (fun s:ByteArray=>s.size≤maxLen) (fun x=>[eS x]):=by
 intro H enc w spare held fuel cs x h
 obtain⟨n,rfl,_,hw⟩:=DataW.trod_string ht h
 exact⟨n,hw,dM (aE4 _) gF⟩
theorem zN {α:Type}{R:Nat→α→Prop}: ∀(n:Nat),(∀i,i<n→ ∃x,R i x)→ ∃l:List α,l.length=n∧ ∀i x,l[i]? =some x→R i x
 |0,_=>⟨[],rfl,fun i x hx=>by simp at hx⟩
 |n+1,h=>by
  obtain⟨l,hl,hr⟩:=zN n (fun i hi=>h i (by omega))
  obtain⟨x,hx⟩:=h n (by omega)
  refine⟨l++[x],by simp[hl],fun i y hy=> ?_⟩
  rcases cI hy with hy|⟨hi,hy⟩
  ·exact hr i y hy
  subst hy;rw[hi,hl];exact hx
theorem aEt {X:Nat→Prop}{M:List (Option Nat)}{w:World}{K:Nat}: ∀(es:List V)(ad:Addr),(∀i e,es[i]? =some e→ ∃v,VR X M w e v∧v.cells.size=K∧LiesAt w (ad.add (i*K)) v.cells)→VRow X M w K es ad
 | [],ad,_=>by unfold VRow;trivial
 |e::es,ad,h=>by
  unfold VRow
  obtain⟨v,h1,h2,h3⟩:=h 0 e rfl
  refine⟨⟨v,h1,h2,by simpa[Addr.add]using h3⟩,aEt es (ad.add K) fun i e' he=> ?_⟩
  obtain⟨v',k1,k2,k3⟩:=h (i+1) e' (by simpa using he)
  refine⟨v',k1,k2, ?_⟩
  rw[kW,show K+i*K=(i+1)*K by rw[aOs];omega]
  exact k3
def aFb {α:Type}(K:Nat)(C:α→List V)(E:α→V):Prop:= ∀x,(E x).okElem K=true∧ ∀(w:World)(vs:List Value),VCells mA [] w (C x) vs→ ∃v,VR mA [] w (E x) v∧v.cells=vs.toArray
theorem aAi {α:Type}{E:α→V}(h: ∀x,(E x).one=true):aFb 1 (fun x=>[E x]) E:=by
 intro x
 have hc:(E x).cells=[E x]:=by have:=h x;generalize E x=y at this ⊢; cases y<;>first|rfl|simp[V.one]at this
 refine⟨by simp[V.okElem,V.flatOk,hc,h x],fun w vs hv=> ?_⟩
 unfold VCells at hv
 obtain⟨v,rest,rfl,h1,h2⟩:=hv
 unfold VCells at h2
 subst h2
 exact⟨v,h1,by rw[b9 (h1.oneCell (h x))]⟩
theorem aGx {α:Type}{K:Nat}{C:α→List V}(hl: ∀x,(C x).length=K)(h: ∀x,(C x).all V.one=true):aFb K C (fun x=> .agg (C x)):=by
 intro x
 refine⟨by simp[V.okElem,V.flatOk,V.cells,h x,hl x],fun w vs hv=>⟨.agg vs.toArray,aJA hv,rfl⟩⟩
theorem aDZ {α:Type}{Q:α→Prop}{C:α→List V}{E:α→V}{K:Nat}(ht:P.underlying t=some (.slice e))(he:yP P e Q C)(hK:P.cellsOf e=K)(h0:0<K)(hE:aFb K C E):
  yP P t (fun l:List α=> ∀x∈l,Q x) (fun l=>[.row none K (l.map E)]):=by
 intro H enc w spare held fuel cs x h
 rcases DataW.trod_slice ht h with⟨rfl,_⟩|⟨a,len,cap,elems,rest,n,_,rfl,_,_,hl,hm,hlen,hel,_,_⟩
 ·refine⟨[],by simp,dM ?_ gF⟩
  unfold VR
  exact⟨none,0,rfl,aOt _,fun _=>rfl,(fun b hb=>by cases hb),by simp,fun hne=>absurd rfl hne⟩
 have each: ∀i,i<len→ ∃x,Q x∧ ∃vs,w.cells? 0 (a.add (i*K)) K=some vs∧VCells mA [] w (C x) vs:=by
  intro i hi
  have h1:=hel i hi
  rw[hK,aOn (by omega)]at h1
  simp only[aOO]at h1
  obtain⟨vs,h2,h3⟩:=h1
  obtain⟨x,hq,hv⟩:=he h3
  exact⟨x,hq,vs,h2,hv⟩
 obtain⟨l,hll,hr⟩:=zN len each
 have hlm:(l.map E).length=len:=by simp[hll]
 refine⟨l,fun x hx=> ?_,dM ?_ gF⟩
 ·obtain⟨i,hi,rfl⟩:=List.mem_iff_getElem.1 hx
  exact(hr i _ (aOn hi)).1
 unfold VR
 refine⟨some a,cap,by rw[hlm],by rw[hlm];exact hl,fun hh=>(by cases hh),(fun b hb=>by cases hb),fun y hy=> ?_,fun hne=> ?_⟩
 ·simp only[aO9]at hy
  obtain⟨x,_,rfl⟩:=hy
  exact(hE x).1
 have hpos:0<len:=by
  rcases Nat.eq_zero_or_pos len with h0|h0
  ·exact absurd (aOk (by rw[hlm];exact h0)) hne
  exact h0
 have lies: ∀(ad:Addr)(vs:List Value),w.cells? 0 ad K=some vs→vs.length=K∧LiesAt w ad vs.toArray:=by
  intro ad vs hvs
  obtain⟨h1,h2⟩:=World.cells?_some hvs
  have h3:vs.length=K∧ ∀i,i<K→w.cell? (ad.add i)=vs[i]? :=by
   unfold World.cells? at hvs
   rw[if_pos (Nat.zero_le _)]at hvs
   obtain⟨hl,hget⟩:=nY hvs
   simp only[List.length_range]at hl
   refine⟨hl.symm,fun i hi=> ?_⟩
   have hv:i<vs.length:=by omega
   rw[aOn hv]
   exact hget i i vs[i] (by simp[hi]) (aOn hv)
  refine⟨h3.1,fun j u hu=> ?_⟩
  have hj:j<K:=by have:=(aOj.1 hu).1;simp at this;omega
  rw[h3.2 j hj];simpa using hu
 obtain⟨x0,_,vs0,hc0,_⟩:=each 0 hpos
 obtain⟨hl0,hlies0⟩:=lies _ _ hc0
 have hsp:a.spot=none:=by
  have hv:0<vs0.length:=by omega
  have:=World.cell?_spot (hlies0 0 vs0[0] (by simp[hv]))
  simpa[Addr.add]using this
 refine⟨a,rfl,h0,id,hsp,aEt _ _ fun i y hy=> ?_⟩
 simp only[aOE,aOl]at hy
 obtain⟨x,hx,rfl⟩:=hy
 obtain⟨_,vs,hcs,hv⟩:=hr i x hx
 obtain⟨hl1,hlies⟩:=lies _ _ hcs
 obtain⟨v,hv1,hv2⟩:=(hE x).2 w vs hv
 exact⟨v,hv1,by rw[hv2];simp[hl1],by rw[hv2];exact hlies⟩
def aFd (P:Program)(t:TypeId){α:Type}(Q:α→Prop)(E:α→V):Prop:=
 ∀{H:Type}{enc:TypeId×Value→H}{w:World}{base:Nat}{v:Value}{d:DataW H}{p:List MemPlace},Value.okWide P w .any base t v→DataW.Trod enc P w 0 (fun _=>true) true t v d p→ ∃a:α,Q a∧VR mA [] w (E a) v
theorem tN {w:World}{c:V}{v:Value}(h:VCells mA [] w [c] [v]):VR mA [] w c v:=by
 unfold VCells at h
 obtain⟨u,rest,h1,h2,_⟩:=h
 injection h1 with h1 h3
 subst h1
 exact h2
theorem aFk {k:IntKind}(ht:P.underlying t=some (.int k)):aFd P t (fun x:Int=>(Lit.int k x).wf=true) (eI k):=by
 intro H enc w base v d p hv ⟨fuel,h⟩
 obtain⟨n,rfl⟩:=okWide_int ht hv
 obtain⟨a,hq,hc⟩:=kD ht h
 exact⟨a,hq,tN hc⟩
theorem xT (ht:P.underlying t=some .string):aFd P t (fun s:ByteArray=>s.size≤maxLen) eS:=by
 intro H enc w base v d p hv ⟨fuel,h⟩
 obtain⟨n,rfl⟩:=okWide_string ht hv
 obtain⟨a,hq,hc⟩:=aC5 ht h
 exact⟨a,hq,tN hc⟩
theorem pU {α:Type}{Q:α→Prop}{C:α→List V}{E:α→V}{K:Nat}(ht:P.underlying t=some (.slice e))(he:yP P e Q C)(hK:P.cellsOf e=K)(h0:0<K)(hE:aFb K C E):aFd P t (fun l:List α=> ∀x∈l,Q x) (eL K E):=by
 intro H enc w base v d p hv ⟨fuel,h⟩
 obtain⟨a,l,c,rfl⟩:=okWide_slice ht hv
 obtain⟨a,hq,hc⟩:=aDZ ht he hK h0 hE h
 exact⟨a,hq,tN hc⟩
end
end Go.Vm
namespace Go.Proofs.YtjcfonniipabpaaGreatDoor
open Go Go.Vm
open Go.ChangeShapes Go.WideShapes Go.ChangeAt Go.RowKit
theorem aIK {W:World}{g:Nat}{xs:List Int}(hne:0<xs.length)(hc: ∀i,i<xs.length→W.cell? ⟨g,i,none⟩=some (.int .u64 (xs.getD i 0))):VR mA [] W (.eptr [.agg (xs.map fun x=> .sc (.int .u64 x))] 0 0) (.pointer (some ⟨g,0,none⟩)):=by
 unfold VR
 refine⟨⟨g,0,none⟩,xs.length,by simp[Addr.add],hne,fun _ hx=>hx,rfl, ?_, ?_⟩
 ·intro e he
  simp only[List.mem_singleton]at he
  subst he
  simp[V.okElem,V.flatOk,V.cells,V.one,List.all_map]
  exact fun _ _=>rfl
 unfold VRow
 refine⟨⟨.agg (xs.map fun x=>Value.int .u64 x).toArray, ?_,by simp[Value.cells], ?_⟩,by unfold VRow;trivial⟩
 ·unfold VR
  refine⟨xs.map fun x=>Value.int .u64 x,rfl, ?_⟩
  generalize xs=ys
  induction ys with
  |nil=>exact gF
  |cons y ys ih=>exact dM (aE4 _) ih
 intro j u hu
 simp only[Value.cells,aOU,aOE,aOl]at hu
 obtain⟨x,hx,rfl⟩:=hu
 have hj:=(aOM.1 hx).1
 have:=hc j hj
 simp only[aOL,hx,Option.getD_some]at this
 have e:(⟨g,0,none⟩:Addr).add j=⟨g,j,none⟩:=by simp only[Addr.add];split<;>simp_all
 rw[e];exact this
theorem gP :Tryz.prog.globalNamed "internal/strconv.uint64pow10" =some 1:=by kernel_rfl
theorem gPt :(Tryz.prog.globals[1]?).map (·.type)=some 448:=by kernel_rfl
theorem aIe :Tryz.prog.cellsOf 448=20:=by kernel_rfl
theorem aJj :Tryz.prog.cellsOf 49=1:=by kernel_rfl
theorem aCX {P:Program}{W:World}{name:String}{k:IntKind}{zs:List Int}{g:Nat}(h:Lib.TabIs P W name k zs)(hg:P.globalNamed name=some g): ∃t,W.shape? g=some (t,zs.length):=by
 unfold Lib.TabIs World.var? at h
 rw[hg,Option.bind_some]at h
 unfold World.shape?
 split at h
 ·rename_i cs t f hh
  injection h with h
  subst h
  exact⟨t,by rw[hh];simp⟩
 cases h
theorem aIX {W:World} (h:laidMetH Tryz.prog Rows.consoleLimitsRow.laid W):Lib.TabIs Tryz.prog W "internal/strconv.uint64pow10" .u64 nQ:=by
 have h2:=h.filter (fun x=>x.1 == "internal/strconv.uint64pow10")
 exact Lib.tabIs_of_head (rest:=[]) gP gPt Tryz.underlying448 Tryz.underlying49 aJj aIe h2
theorem aCo {W:World}(h:laidMetH Tryz.prog Rows.consoleLimitsRow.laid W):Globs mA W:=by
 intro g e hg
 unfold GT at hg
 split at hg
 ·injection hg with hg
  subst hg
  refine⟨aIK (xs:=nQ) (by decide) (fun i hi=>(aIX h).cell gP i hi), ?_⟩
  obtain⟨t,ht⟩:=aCX (aIX h) gP
  exact⟨t,by rw[ht];rfl⟩
 cases hg
def lay (i:Nat)(cs:Array Value)(h:Array Obj):Array Obj:=h.modify i fun
 | .cells _ t frozen=> .cells cs t frozen
 |o=>o
noncomputable def fG (os:Os):World:=
 {World.holding Tryz.prog os ⟨#[],#[],[]⟩with heap:=lay 3 #[.int .u8 0,.int .u8 1,.int .u8 28,.int .u8 2,.int .u8 29,.int .u8 14,.int .u8 24,.int .u8 3,.int .u8 30,.int .u8 22,.int .u8 20,.int .u8 15,.int .u8 25,.int .u8 17,.int .u8 4,.int .u8 8,.int .u8 31,.int .u8 27,.int .u8 13,.int .u8 23,.int .u8 21,.int .u8 19,.int .u8 16,.int .u8 7,.int .u8 26,.int .u8 12,.int .u8 18,.int .u8 6,.int .u8 11,.int .u8 5,.int .u8 10,.int .u8 9] (lay 4 #[.int .u8 0,.int .u8 1,.int .u8 56,.int .u8 2,.int .u8 57,.int .u8 49,.int .u8 28,.int .u8 3,.int .u8 61,.int .u8 58,.int .u8 42,.int .u8 50,.int .u8 38,.int .u8 29,.int .u8 17,.int .u8 4,.int .u8 62,.int .u8 47,.int .u8 59,.int .u8 36,.int .u8 45,.int .u8 43,.int .u8 51,.int .u8 22,.int .u8 53,.int .u8 39,.int .u8 33,.int .u8 30,.int .u8 24,.int .u8 18,.int .u8 12,.int .u8 5,.int .u8 63,.int .u8 55,.int .u8 48,.int .u8 27,.int .u8 60,.int .u8 41,.int .u8 37,.int .u8 16,.int .u8 46,.int .u8 35,.int .u8 44,.int .u8 21,.int .u8 52,.int .u8 32,.int .u8 23,.int .u8 11,.int .u8 54,.int .u8 26,.int .u8 40,.int .u8 15,.int .u8 34,.int .u8 20,.int .u8 31,.int .u8 10,.int .u8 25,.int .u8 14,.int .u8 19,.int .u8 9,.int .u8 13,.int .u8 8,.int .u8 7,.int .u8 6] (lay 1 #[.int .u64 1,.int .u64 10,.int .u64 100,.int .u64 1000,.int .u64 10000,.int .u64 100000,.int .u64 1000000,.int .u64 10000000,.int .u64 100000000,.int .u64 1000000000,.int .u64 10000000000,.int .u64 100000000000,.int .u64 1000000000000,.int .u64 10000000000000,.int .u64 100000000000000,.int .u64 1000000000000000,.int .u64 10000000000000000,.int .u64 100000000000000000,.int .u64 1000000000000000000,.int .u64 10000000000000000000] (lay 5 #[.int .u32 1116352408,.int .u32 1899447441,.int .u32 3049323471,.int .u32 3921009573,.int .u32 961987163,.int .u32 1508970993,.int .u32 2453635748,.int .u32 2870763221,.int .u32 3624381080,.int .u32 310598401,.int .u32 607225278,.int .u32 1426881987,.int .u32 1925078388,.int .u32 2162078206,.int .u32 2614888103,.int .u32 3248222580,.int .u32 3835390401,.int .u32 4022224774,.int .u32 264347078,.int .u32 604807628,.int .u32 770255983,.int .u32 1249150122,.int .u32 1555081692,.int .u32 1996064986,.int .u32 2554220882,.int .u32 2821834349,.int .u32 2952996808,.int .u32 3210313671,.int .u32 3336571891,.int .u32 3584528711,.int .u32 113926993,.int .u32 338241895,.int .u32 666307205,.int .u32 773529912,.int .u32 1294757372,.int .u32 1396182291,.int .u32 1695183700,.int .u32 1986661051,.int .u32 2177026350,.int .u32 2456956037,.int .u32 2730485921,.int .u32 2820302411,.int .u32 3259730800,.int .u32 3345764771,.int .u32 3516065817,.int .u32 3600352804,.int .u32 4094571909,.int .u32 275423344,.int .u32 430227734,.int .u32 506948616,.int .u32 659060556,.int .u32 883997877,.int .u32 958139571,.int .u32 1322822218,.int .u32 1537002063,.int .u32 1747873779,.int .u32 1955562222,.int .u32 2024104815,.int .u32 2227730452,.int .u32 2361852424,.int .u32 2428436474,.int .u32 2756734187,.int .u32 3204031479,.int .u32 3329325298] (lay 2 #[.int .u32 1779033703,.int .u32 3144134277,.int .u32 1013904242,.int .u32 2773480762,.int .u32 1359893119,.int .u32 2600822924,.int .u32 528734635,.int .u32 1541459225] (World.holding Tryz.prog os ⟨#[],#[],[]⟩).heap))))}
end Go.Proofs.YtjcfonniipabpaaGreatDoor
namespace Go.Proofs
open Go
set_option maxRecDepth 100000
theorem aA2 {a b:Bool}(h:a=true)(k:b=true):(a&&b)=true:=by rw[h,k];rfl
theorem Tryz.gfMaps :mapsRowed Tryz.prog=true:=by kernel_rfl
theorem Tryz.gfStops :(Tryz.prog.stops == [])=true:=by kernel_rfl
theorem Tryz.gfKnobs :(Tryz.prog.stopKnobs == [])=true:=by kernel_rfl
theorem Tryz.gfHeard :Tryz.prog.stopsHeard=true:=by kernel_rfl
theorem Tryz.gfEnter :Tryz.prog.mayEnter=true:=by kernel_rfl
theorem Tryz.gfLooks :Tryz.prog.looks []=false:=by kernel_rfl
theorem Tryz.gfPlainKeys :Tryz.prog.plainKeys=false:=by kernel_rfl
set_option maxRecDepth 100000
theorem aIf {P:Program}(h:P.funcs.any Func.goes=false)(f:FuncId):P.goes f=false:=by
 unfold Program.goes
 rw[h,Bool.and_false,Bool.or_false,List.any_eq_false]
 intro g _ hg
 cases hf:P.funcs[g]? with
 |none=>rw[hf]at hg;cases hg
 |some fn=>
  rw[hf]at hg
  have hm:fn∈P.funcs:=Array.mem_of_getElem? hf
  have ht:P.funcs.any Func.goes=true:=by
   rw[Array.any_eq_true']
   exact⟨fn,hm,hg⟩
  rw[h]at ht
  cases ht
theorem aF0 {P:Program}(h:P.funcs.any Func.goes=false)(o:Option FuncId):o.any P.goes=false:=by
 cases o with
 |none=>rfl
 |some f=>rw[Option.any_some];exact aIf h f
theorem Tryz.gfGoes :Tryz.prog.funcs.any Func.goes=false:=by kernel_rfl
theorem Tryz.gfGoesOf (o:Option FuncId):o.any Tryz.prog.goes=false:=aF0 Tryz.gfGoes o
end Go.Proofs
namespace Go.Vm
open Go
def aEU (O:mC)(G:FuncId→Bool):Prop:= ∀f h args r h',G f=true→O f h args=some (r,h')→ ∃news,h'=h++news
def aAr (G:FuncId→Bool)(o:Oper):Bool:=
 rJ o || (match o.op with
  | .call c=>match c.callee with
   | .value (.func f)=>G f
   | .builtin .append=>match c.args.toList with
    | [.const (.slice none 0 0),_]=>true
    |_=>false
   |_=>false
  |_=>false)
theorem aDK {P:Program}{t t':TypeId}{k:Nat}{y r:V}{h h':Hp}(hr:fC P t t' (.row (some true) k []) y h=some (r,h')): ∃news,h'=h++news:=by
 simp only[fC]at hr
 repeat' split at hr
 all_goals first|(cases hr;done)|(simp only[aOp,aOy]at hr;exact⟨_,by rw[←hr.2,aON]⟩)
def aGP (O:mC)(F:FuncId→Bool):Prop:= ∀f h args r h',F f=true→O f h args=some (r,h')→ ∀h2,O f h2 args=some (r,h2)
def aAu (F:FuncId→Bool)(o:Oper):Bool:=
 match o.op with
 | .move _ | .assign _ | .nilCheck _ | .binOp _ _ _ _ _ | .unOp _ _ _ | .fieldAddr _ _ _ | .field _ _ _ | .indexAddr _ _ _ | .index _ _ _ | .extract _ _ | .sliceToArrayPointer _ _=>true
 | .call c=>match c.callee with
  | .value (.func f)=>F f
  |_=>false
 |_=>false
def aCt (F G:FuncId→Bool)(ops:Array Oper)(oj oi:Oper):Bool:=
 oj.apart ops oi&&(aAu F oj || aAu F oi || (mN F oj&&mN F oi) || (aAr G oj&&qL oi) || (qL oj&&aAr G oi))
section
variable {P:Program}{O O':mC}{F G:FuncId→Bool}{s:List V}{h h':Hp}{ops:Array Oper}
theorem inScope.mono {n m:Nat}(hnm:n≤m){z:V}(hz:inScope n z):inScope m z:=by
 cases z<;>first|trivial|exact Nat.lt_of_lt_of_le hz hnm
theorem Scoped.mono {n m:Nat}(hnm:n≤m){o:Oper}(hs:Scoped s o n):Scoped s o m:=fun y hy z hz=>(hs y hy z hz).mono hnm
theorem r6 {o:Oper}(hs:qL o=true): ∀(news:Hp){h:Hp},Scoped s o h.length→bA P O ops o s (h++news)=(bA P O ops o s h).map fun p=>(p.1,h++news)
 | [],h,hsc=>by
  simp only[aOI]
  cases hv:bA P O ops o s h with
  |none=>rfl
  |some p=>
   obtain⟨v,g⟩:=p
   obtain rfl:g=h:=eM (F:=fun _=>false) (fun _ _ _ _ _ hf=>by cases hf) hs hv
   rfl
 |x::news,h,hsc=>by
  have e1:h++x::news=(h++[x])++news:=by simp
  rw[e1,r6 hs news (hsc.mono (by simp)),tL hs hsc]
  cases bA P O ops o s h<;>rfl
theorem xZ (hG:aEU O G){o:Oper}(hg:aAr G o=true){r:V}(hr:bA P O ops o s h=some (r,h')): ∃news,h'=h++news:=by
 unfold bA at hr
 split at hr
 ·rename_i hw
  clear hw
  simp only[aAr,aOJ]at hg
  rcases hg with hg|hg
  ·obtain⟨B,hB⟩:=aA5 hg hr;exact⟨_,hB⟩
  obtain⟨dst,op,type,pos,after,guard⟩:=o
  cases op<;>simp only[aOg]at hg
  case call c=>
   obtain⟨callee,args,argTypes⟩:=c
   cases callee<;>simp only[aOg]at hg
   case value f=>
    cases f<;>simp only[aOg]at hg
    case func f=>
     simp only[aQ,lD]at hr
     split at hr
     ·cases hr
     exact hG _ _ _ _ _ hg hr
   case builtin b=>
    cases b<;>simp only[aOg]at hg
    case append=>
     split at hg
     ·rename_i y he
      simp only[aQ,lD,he]at hr
      cases hy:ev s y with
      |none=>
       have h2:nH s [.const (.slice none 0 0),y]=none:=by simp only[nH,aOZ,List.mapM_nil,hy,show ev s (.const (.slice none 0 0))=some (.row (some true) 1 [])from rfl];rfl
       rw[h2]at hr
       cases hr
      |some z=>
       have h2:nH s [.const (.slice none 0 0),y]=some [.row (some true) 1 [],z]:=by simp only[nH,aOZ,List.mapM_nil,hy,show ev s (.const (.slice none 0 0))=some (.row (some true) 1 [])from rfl];rfl
       rw[h2]at hr
       revert hr
       rcases argTypes.toList with _|⟨t,_|⟨t',_|⟨t'',l⟩⟩⟩<;>intro hr
       ·cases hr
       ·cases hr
       ·exact aDK hr
       cases hr
     cases hg
 ·simp only[aOp,aOy]at hr;exact⟨[],by simp[hr.2]⟩
 cases hr
theorem aDs (hF:nE O F)(hU:aGP O F){o:Oper}(hf:aAu F o=true){r:V}(hr:bA P O ops o s h=some (r,h')):h'=h∧ ∀h2,bA P O ops o s h2=some (r,h2):=by
 unfold bA at hr⊢
 cases hw:eC ops o s with
 |none=>rw[hw]at hr;cases hr
 |some b=>
  rw[hw]at hr
  cases b with
  |false=>
   simp only[aOp,aOy]at hr⊢
   exact⟨hr.2.symm,fun h2=>⟨hr.1,trivial⟩⟩
  |true=>
   simp only at hr⊢
   clear hw
   obtain⟨dst,op,type,pos,after,guard⟩:=o
   cases op<;>simp only[aAu,aOg]at hf
   case call c=>
    obtain⟨callee,args,argTypes⟩:=c
    cases callee<;>simp only[aOg]at hf
    case value f=>
     cases f<;>simp only[aOg]at hf
     case func f=>
      simp only[aQ,lD]at hr⊢
      cases hx:nH s args.toList with
      |none=>rw[hx]at hr;cases hr
      |some xs=>
       rw[hx]at hr
       simp only at hr⊢
       exact⟨hF _ _ _ _ _ hf hr,hU _ _ _ _ _ hf hr⟩
   all_goals
    simp only[aQ,aOO,aOl,aOy]at hr
    first
     |(obtain⟨a,ha,rfl,rfl⟩:=hr;exact⟨rfl,fun h2=>by simp[aQ,ha]⟩)
     |(obtain⟨a,ha,b,hb,rfl,rfl⟩:=hr;exact⟨rfl,fun h2=>by simp[aQ,ha,hb]⟩)
     |(obtain⟨a,ha,b,hb,c,hc,rfl,rfl⟩:=hr;exact⟨rfl,fun h2=>by simp[aQ,ha,hb,hc]⟩)
def StepR (P:Program)(F G:FuncId→Bool)(ops:Array Oper)(o:Oper)(s:List V)(h:Hp)(s1:List V)(h1:Hp):Prop:=
 ∃O,mL P O∧nE O F∧aEU O G∧aGP O F∧jG P O ops o s h=some (s1,h1)
theorem StepR.comm {oj oi:Oper}(hp:aCt F G ops oj oi=true)(hsi:Scoped s oi h.length)(hsj:Scoped s oj h.length){s1 s2:List V}{h1 h2:Hp}
  (e1:StepR P F G ops oj s h s1 h1) (e2:StepR P F G ops oi s1 h1 s2 h2): ∃s3 h3,StepR P F G ops oi s h s3 h3∧StepR P F G ops oj s3 h3 s2 h2:=by
 obtain⟨O1,ok1,hF1,hG1,hU1,e1⟩:=e1
 obtain⟨O2,ok2,hF2,hG2,hU2,e2⟩:=e2
 simp only[aCt,aOm,aOJ]at hp
 obtain⟨hap,hp⟩:=hp
 obtain⟨a1,a2,a3⟩:=Oper.apart_spec hap
 rw[a6]at e1 e2
 simp only[aOl,aOy]at e1 e2
 obtain⟨⟨v1,g1⟩,f1,rfl,rfl⟩:=e1
 obtain⟨⟨v2,g2⟩,f2,rfl,rfl⟩:=e2
 simp only at f1 f2⊢
 rw[d6 oi _ _ a1]at f2
 rcases hp with(((hj|hi)|⟨hj,hi⟩)|⟨hj,hi⟩)|⟨hj,hi⟩
 ·obtain⟨rfl,hall⟩:=aDs hF1 hU1 hj f1
  refine⟨c9 s oi.dst v2,g2,⟨O2,ok2,hF2,hG2,hU2,by rw[a6,f2];rfl⟩,O1,ok1,hF1,hG1,hU1, ?_⟩
  rw[a6,d6 oj _ _ a3,hall g2]
  simp only[aOo]
  rw[iM s v1 v2 a2]
 ·obtain⟨rfl,hall⟩:=aDs hF2 hU2 hi f2
  refine⟨c9 s oi.dst v2,h,⟨O2,ok2,hF2,hG2,hU2,by rw[a6,hall h];rfl⟩,O1,ok1,hF1,hG1,hU1, ?_⟩
  rw[a6,d6 oj _ _ a3,f1]
  simp only[aOo]
  rw[iM s v1 v2 a2]
 ·obtain rfl:=eM hF1 hj f1
  obtain rfl:=eM hF2 hi f2
  refine⟨c9 s oi.dst v2,_,⟨O2,ok2,hF2,hG2,hU2,by rw[a6,f2];rfl⟩,O1,ok1,hF1,hG1,hU1, ?_⟩
  rw[a6,d6 oj _ _ a3,f1]
  simp only[aOo]
  rw[iM s v1 v2 a2]
 ·obtain⟨news,rfl⟩:=xZ hG1 hj f1
  rw[r6 hi news hsi]at f2
  simp only[aOl,aOy]at f2
  obtain⟨⟨v3,g3⟩,f3,rfl,rfl⟩:=f2
  obtain rfl:g3=h:=eM (F:=fun _=>false) (fun _ _ _ _ _ hf=>by cases hf) hi f3
  refine⟨c9 s oi.dst v3,g3,⟨O2,ok2,hF2,hG2,hU2,by rw[a6,f3];rfl⟩,O1,ok1,hF1,hG1,hU1, ?_⟩
  rw[a6,d6 oj _ _ a3,f1]
  simp only[aOo]
  rw[iM s v1 v3 a2]
 obtain rfl:g1=h:=eM (F:=fun _=>false) (fun _ _ _ _ _ hf=>by cases hf) hj f1
 refine⟨c9 s oi.dst v2,g2,⟨O2,ok2,hF2,hG2,hU2,by rw[a6,f2];rfl⟩,O1,ok1,hF1,hG1,hU1, ?_⟩
 obtain⟨news,rfl⟩:=xZ hG2 hi f2
 rw[a6,d6 oj _ _ a3,r6 hj news hsj,f1]
 simp only[aOo]
 rw[iM s v1 v2 a2]
def aEI (s:List V)(h:Hp):Prop:= ∃A M a w,Rel A M s h a w
theorem StepR.real {i:Nat}{o:Oper}(hi:ops[i]? =some o){s1:List V}{h1:Hp}(hr:aEI s h)(e:StepR P F G ops o s h s1 h1):aEI s1 h1:=by
 obtain⟨A,M,a,w,R⟩:=hr
 obtain⟨O,ok,_,_,_,e⟩:=e
 obtain⟨a',w',M',R'⟩:=zM (mM (Q:=fun _ _ _=>False) ok R hi e (K:=fun a' w'=> ∃M',Rel A M' s1 h1 a' w') fun a' w' M' _ R'=>⟨M',R'⟩)
 exact⟨A,M',a',w',R'⟩
def aLZ (P:Program)(N:Nat)(ops:Array Oper)(m:Nat)(listed:Array Bool)(s:List V)(h:Hp)(K:List V→Hp→Prop):Prop:=
 ∀(A:Nat→Prop)(M0 M:List (Option Nat))(h0:Hp)(w0:World)(a:Act)(w:World)(Q:Exit→Act→World→Prop),h0.length=N→M0.length=N→Grow A M0 h0 w0 M h w→Rel A M s h a w→
  (∀s' h' M' a' w',K s' h'→Grow A M0 h0 w0 M' h' w'→Rel A M' s' h' a' w'→Q .normal a' w')→wpAny P .any ops Q m listed a w
def aCF (ops:Array Oper)(listed:Array Bool):Bool:=
 (aOF ops.size).all fun j=>listed.getD j true || (aOF ops.size).all fun i=> !(listed.getD i false) || (aC2 ops j j [j]).contains i
def Good (P:Program)(N:Nat)(F G:FuncId→Bool)(ops:Array Oper)(K:List V→Hp→Prop):Nat→Array Bool→List V→Hp→Prop
 |0,listed,s,h=>c8 ops.size listed=[]∧K s h
 |n+1,listed,s,h=>(aCF ops listed=true∧aLZ P N ops (n+1) listed s h K)∨(aEI s h→Region.ready .any ops listed≠ []∧ ∀i∈Region.ready .any ops listed,∃o s1 h1,ops[i]? =some o∧StepR P F G ops o s h s1 h1∧Good P N F G ops K n (listed.setIfInBounds i true) s1 h1)
theorem aF1 {listed:Array Bool}{i:Nat}(hi:i∈Region.ready .any ops listed):i∈c8 ops.size listed:=by
 obtain⟨h1,o,ho,_⟩:=mem_ready.1 hi
 simp only[c8,aPd,List.mem_range]
 exact⟨(aOj.1 ho).1,by simp[h1]⟩
theorem Good.sound {N:Nat}{A:Nat→Prop}{M0:List (Option Nat)}{h0:Hp}(hN:h0.length=N)(hM:M0.length=N){w0:World}{K:List V→Hp→Prop}{Q:Exit→Act→World→Prop}:
  ∀(n:Nat)(listed:Array Bool){M:List (Option Nat)}{s:List V}{h:Hp}{a:Act}{w:World},Good P N F G ops K n listed s h→Grow A M0 h0 w0 M h w→Rel A M s h a w→
  (∀s' h' M' a' w',K s' h'→Grow A M0 h0 w0 M' h' w'→Rel A M' s' h' a' w'→Q .normal a' w')→wpAny P .any ops Q n listed a w
 |0,listed,M,s,h,a,w,hg,Gr,R,hQ=>by
  obtain⟨hnil,hk⟩:=hg
  refine⟨?_,hQ s h M a w hk Gr R⟩
  apply List.eq_nil_iff_forall_not_mem.2
  intro i hi
  have:=aF1 hi
  rw[hnil]at this
  cases this
 |n+1,listed,M,s,h,a,w,hg,Gr,R,hQ=>by
  rcases hg with⟨_,hg⟩|hg
  ·exact hg A M0 M h0 w0 a w Q hN hM Gr R hQ
  obtain⟨hne,hall⟩:=hg ⟨A,M,a,w,R⟩
  refine⟨fun hn=>absurd hn hne,fun i hi=> ?_⟩
  obtain⟨o,s1,h1,ho,⟨O,ok,_,_,_,e⟩,hg'⟩:=hall i hi
  refine mM ok R ho e fun a' w' M' G' R'=> ?_
  exact Good.sound hN hM n _ hg' (Gr.trans G') R' hQ
def uD (F G:FuncId→Bool)(ops:Array Oper)(listed:Array Bool)(i:Nat):Bool:=
 (Region.ready .any ops listed).contains i&&(match ops[i]? with
  |none=>false
  |some oi=>(aOF ops.size).all fun j=>(j == i) || listed.getD j true || (match ops[j]? with
   |none=>true
   |some oj=>aCt F G ops oi oj || (aC2 ops j j [j]).contains i))
theorem wB {listed:Array Bool}{i:Nat}(d:Bool)(hi:i<listed.size):(listed.setIfInBounds i true).getD i d=true:=by simp[hi]
theorem aCh (listed:Array Bool)(i j:Nat):(listed.setIfInBounds i true).setIfInBounds j true=(listed.setIfInBounds j true).setIfInBounds i true:=by
 by_cases hij:i=j
 ·subst hij;rfl
 apply Array.ext'
 apply aO8
 intro k
 simp only[Array.getElem?_toList,Array.getElem?_setIfInBounds]
 by_cases h1:i=k<;>by_cases h2:j=k<;>simp_all
theorem aFg {listed:Array Bool}{i j:Nat}{oj:Oper}(hi:i<ops.size)(hc:uL ops listed)(hsz:listed.size=ops.size)(hcut:aCF ops (listed.setIfInBounds i true)=true)(hij:i≠j)(huni:listed.getD i true=false)(hunj:listed.getD j true=false)(hoj:ops[j]? =some oj)(hprej: ∀e∈oj.after,Region.binds .any e=true→listed.getD e.on false=true):False:=by
 have hjn:j<ops.size:=(aOj.1 hoj).1
 have h1:=aOi.1 hcut j (by simpa using hjn)
 rw[getD_set_ne true hij,hunj]at h1
 simp only[aO5]at h1
 have h2:=aOi.1 h1 i (by simpa using hi)
 rw[wB false (by rw[hsz];exact hi)]at h2
 simp only[Bool.not_true,aO5]at h2
 rcases p8 hc hoj hprej j [j] (by simp) i (by simpa using h2)with h4|h4
 ·exact hij h4
 have:=getD_both huni
 rw[h4]at this;cases this
theorem Good.pick {N:Nat}{K:List V→Hp→Prop}: ∀(n:Nat){listed:Array Bool}{s:List V}{h:Hp}{i:Nat}{oi:Oper}{s1:List V}{h1:Hp},listed.size=ops.size→uL ops listed→uD F G ops listed i=true→ops[i]? =some oi→StepR P F G ops oi s h s1 h1→
  Good P N F G ops K n (listed.setIfInBounds i true) s1 h1→Good P N F G ops K (n+1) listed s h
 |0,listed,s,h,i,oi,s1,h1,hsz,hc,hp,hoi,e,hg=>by
  refine .inr fun hr=> ?_
  simp only[uD,aOm]at hp
  have hi:i∈Region.ready .any ops listed:=by simpa using hp.1
  refine⟨(fun hn=>by rw[hn]at hi;cases hi),fun j hj=> ?_⟩
  by_cases hij:i=j
  ·subst hij;exact⟨oi,s1,h1,hoi,e,hg⟩
  exfalso
  obtain⟨hun,oj,hoj,_⟩:=mem_ready.1 hj
  have:j∈c8 ops.size (listed.setIfInBounds i true):=by
   simp only[c8,aPd,List.mem_range]
   exact⟨(aOj.1 hoj).1,by rw[getD_set_ne true hij,hun];rfl⟩
  rw[hg.1]at this
  cases this
 |n+1,listed,s,h,i,oi,s1,h1,hsz,hc,hp,hoi,e,hg=>by
  refine .inr fun hr=> ?_
  have hp0:=hp
  simp only[uD,aOm]at hp
  have hi:i∈Region.ready .any ops listed:=by simpa using hp.1
  obtain⟨huni,_,hoi',hprei⟩:=mem_ready.1 hi
  obtain rfl:oi=_:=aOv (hoi.symm.trans hoi')
  refine⟨(fun hn=>by rw[hn]at hi;cases hi),fun j hj=> ?_⟩
  by_cases hij:i=j
  ·subst hij;exact⟨oi,s1,h1,hoi,e,hg⟩
  obtain⟨hunj,oj,hoj,hprej⟩:=mem_ready.1 hj
  have hjn:j<ops.size:=(aOj.1 hoj).1
  have hin:i<ops.size:=(aOj.1 hoi).1
  have hj':j∈Region.ready .any ops (listed.setIfInBounds i true):=mem_ready.2 ⟨by rw[getD_set_ne true hij];exact hunj,oj,hoj,fun ed he hb=>getD_set_true (hprej ed he hb)⟩
  have hr1:aEI s1 h1:=e.real hoi hr
  rcases hg with⟨hcut,_⟩|hg
  ·exact(aFg hin hc hsz hcut hij huni hunj hoj hprej).elim
  obtain⟨_,hall⟩:=hg hr1
  obtain⟨oj',s2,h2,hoj',e2,hg2⟩:=hall j hj'
  obtain rfl:oj=oj':=aOv (hoj.symm.trans hoj')
  have hpair:aCt F G ops oi oj=true:=by
   rw[hoi]at hp
   have h3:=aOi.1 hp.2 j (by simpa using hjn)
   simp only[hoj,aOJ,beq_iff_eq]at h3
   rcases h3 with(h3|h3)|(h3|h3)
   ·exact absurd h3.symm hij
   ·rw[hunj]at h3;cases h3
   ·exact h3
   exfalso
   rcases p8 hc hoj hprej j [j] (by simp) i (by simpa using h3)with h4|h4
   ·exact hij h4
   have:=getD_both huni
   rw[h4]at this;cases this
  obtain⟨A,M,a,w,R⟩:=hr
  have hsc:=R.scopeOk
  obtain⟨s3,h3,f1,f2⟩:=StepR.comm hpair (hsc.op oj) (hsc.op oi) e e2
  refine⟨oj,s3,h3,hoj,f1, ?_⟩
  have hc':uL ops (listed.setIfInBounds j true):=by
   intro k ok hk hl ed he hb
   by_cases hjk:j=k
   ·subst hjk
    obtain rfl:ok=oj:=aOv (hk.symm.trans hoj)
    exact getD_set_true (hprej ed he hb)
   rw[getD_set_ne false hjk]at hl
   exact getD_set_true (hc k ok hk hl ed he hb)
  have hp':uD F G ops (listed.setIfInBounds j true) i=true:=by
   have hi2:i∈Region.ready .any ops (listed.setIfInBounds j true):=mem_ready.2 ⟨by rw[getD_set_ne true (Ne.symm hij)];exact huni,oi,hoi,fun ed he hb=>getD_set_true (hprei ed he hb)⟩
   simp only[uD,aOm,hoi]
   refine⟨by simpa using hi2,aOi.2 fun k hk=> ?_⟩
   rw[hoi]at hp
   have h3:=aOi.1 hp.2 k hk
   simp only[aOJ]at h3⊢
   rcases h3 with(h3|h3)|h3
   ·exact .inl (.inl h3)
   ·refine .inl (.inr ?_)
    by_cases hjk:j=k
    ·subst hjk;exact wB true (by rw[hsz];exact hjn)
    rw[getD_set_ne true hjk];exact h3
   exact .inr h3
  refine Good.pick n (by simpa using hsz) hc' hp' hoi f2 ?_
  rw[aCh]
  exact hg2
def DrawG (P:Program)(N:Nat)(F G:FuncId→Bool)(ops:Array Oper)(n:Nat)(listed:Array Bool)(s:List V)(h:Hp)(K:List V→Hp→Prop):Prop:=Good P N F G ops K n listed s h
def aEm (ops:Array Oper)(listed:Array Bool):Bool:=
 (aOF ops.size).all fun j=>match ops[j]? with
  |none=>true
  |some oj=> !(listed.getD j false) || oj.after.all fun e=> !(Region.binds .any e) || listed.getD e.on false
theorem aCZ {listed:Array Bool}(hb:aEm ops listed=true):uL ops listed:=by
 intro j oj hj hl e he hbi
 have hjn:j<ops.size:=(aOj.1 hj).1
 have h1:=aOi.1 hb j (by simpa using hjn)
 simp only[hj,hl,Bool.not_true,aO5]at h1
 have h2:=Array.all_eq_true_iff_forall_mem.1 h1 e he
 simpa[hbi]using h2
variable {N n m t:Nat}{fr:List (Nat×V)}{K:List V→Hp→Prop}{op:Op}{ty:TypeId}{pos:String}{aft:Array Edge}{v:V}{gd:Option (Nat×Bool)}{listed:Array Bool}{i:Nat}
theorem DrawG.nil (hr:c8 ops.size listed=[])(hk:K s h):DrawG P N F G ops 0 listed s h K:=⟨hr,hk⟩
def y5 (F G:FuncId→Bool)(ops:Array Oper)(listed:Array Bool)(i:Nat):Bool:=(listed.size == ops.size)&&aEm ops listed&&uD F G ops listed i
theorem DrawG.pick {o:Oper}{s1:List V}{h1:Hp}(hp:y5 F G ops listed i=true)(ho:ops[i]? =some o)(e:StepR P F G ops o s h s1 h1)(k:DrawG P N F G ops n (listed.setIfInBounds i true) s1 h1 K):DrawG P N F G ops (n+1) listed s h K:=by
 simp only[y5,aOm,beq_iff_eq]at hp
 exact Good.pick n hp.1.1 (aCZ hp.1.2) hp.2 ho e k
def Fork (P:Program)(N:Nat)(F G:FuncId→Bool)(ops:Array Oper)(n:Nat)(listed:Array Bool)(s:List V)(h:Hp)(K:List V→Hp→Prop):List Nat→Prop
 | []=>True
 |i::l=>(∃o s1 h1,ops[i]? =some o∧StepR P F G ops o s h s1 h1∧DrawG P N F G ops n (listed.setIfInBounds i true) s1 h1 K)∧Fork P N F G ops n listed s h K l
theorem Fork.all : ∀{l:List Nat},Fork P N F G ops n listed s h K l→ ∀i∈l,∃o s1 h1,ops[i]? =some o∧StepR P F G ops o s h s1 h1∧Good P N F G ops K n (listed.setIfInBounds i true) s1 h1
 | [],_,i,hi=>by cases hi
 |j::l,hf,i,hi=>by
  rcases List.mem_cons.1 hi with rfl|hi
  ·exact hf.1
  exact Fork.all hf.2 i hi
theorem DrawG.fork (l:List Nat)(hl:Region.ready .any ops listed=l)(hne:l≠ [])(hf:Fork P N F G ops n listed s h K l):DrawG P N F G ops (n+1) listed s h K:=by
 refine .inr fun _=> ?_
 rw[hl]
 exact⟨hne,hf.all⟩
theorem DrawG.gh {s':List V}(hc:aCF ops listed=true)(hg:Ghost N s h s' h')(k:DrawG P N F G ops (n+1) listed s' h' K):DrawG P N F G ops (n+1) listed s h K:=by
 refine .inl ⟨hc,fun A M0 M h0 w0 a w Q hN hM Gr R hQ=> ?_⟩
 obtain⟨t,ht⟩:=Gr.pre
 have hle:N≤M.length:=by rw[←ht];simp[hM]
 obtain⟨M',h1,h2,h3⟩:=hg A M a w hle R
 refine Good.sound hN hM _ _ k ⟨?_,h2.hr,Gr.ext,fun g hg hl=>Gr.live g hg (h3 g hl)⟩ h2 hQ
 have:M0=M'.take N:=by rw[h1,←ht,←hM];simp
 rw[this]
 exact List.take_prefix _ _
theorem Fork.nil :Fork P N F G ops n listed s h K []:=trivial
theorem Fork.cons {l:List Nat}{o:Oper}{s1:List V}{h1:Hp}(ho:ops[i]? =some o)(e:StepR P F G ops o s h s1 h1)(k:DrawG P N F G ops n (listed.setIfInBounds i true) s1 h1 K)(r:Fork P N F G ops n listed s h K l):Fork P N F G ops n listed s h K (i::l):=⟨⟨o,s1,h1,ho,e,k⟩,r⟩
def lst (l:List Nat)(n:Nat):Array Bool:=l.foldl (fun a i=>a.setIfInBounds i true) (aPe n false)
theorem DrawG.jn {L:Array Bool}{m:Nat}{s1:List V}{h1:Hp}(k:DrawG P N F G ops m L s1 h1 K)(q:DrawG P N F G ops m L s1 h1 K→DrawG P N F G ops n listed s h K):DrawG P N F G ops n listed s h K:=q k
theorem DrawG.jg {L:Array Bool}{s':List V}(hL:listed=L)(hc:aCF ops L=true)(hg:Ghost N s h s' h')(k:DrawG P N F G ops (n+1) L s' h' K):DrawG P N F G ops (n+1) listed s h K:=by
 subst hL
 exact DrawG.gh hc hg k
theorem yN :nE O0 F:=fun _ _ _ _ _ _ hh=>by cases hh
theorem aAq :aEU O0 G:=fun _ _ _ _ _ _ hh=>by cases hh
theorem aCq :aGP O0 F:=fun _ _ _ _ _ _ hh=>by cases hh
theorem gS (hs:bA P O0 ops ⟨some t,op,ty,pos,aft,gd⟩ (aE m fr) h=some (v,h')):StepR P F G ops ⟨some t,op,ty,pos,aft,gd⟩ (aE m fr) h (aE m ((t,v)::fr)) h':=
 ⟨O0,yM,yN,aAq,aCq,by rw[a6,hs];simp only[aOo];rw[aAe]⟩
theorem gN (hs:bA P O0 ops ⟨none,op,ty,pos,aft,gd⟩ (aE m fr) h=some (v,h')):StepR P F G ops ⟨none,op,ty,pos,aft,gd⟩ (aE m fr) h (aE m fr) h':=
 ⟨O0,yM,yN,aAq,aCq,by rw[a6,hs];rfl⟩
open Classical in
noncomputable def u4 (f:FuncId)(xs:List V)(r:V):mC:=fun k h1 xs1=>if k=f∧xs1=xs then some (r,h1)else none
theorem iS {f:FuncId}{xs:List V}{r:V}:u4 f xs r f h xs=some (r,h):=by simp[u4]
theorem gU {f:FuncId}{xs:List V}(hc: ∀h,Fn P f h xs v h)(hG:G f=false)(hs:bA P (u4 f xs v) ops ⟨some t,op,ty,pos,aft,gd⟩ (aE m fr) h=some (v,h)):
  StepR P F G ops ⟨some t,op,ty,pos,aft,gd⟩ (aE m fr) h (aE m ((t,v)::fr)) h:=by
 have key: ∀{k h1 args r1 h2},u4 f xs v k h1 args=some (r1,h2)→k=f∧args=xs∧r1=v∧h2=h1:=by
  intro k h1 args r1 h2 hh
  unfold u4 at hh
  split at hh
  ·rename_i he
   simp only[aOp,aOy]at hh
   exact⟨he.1,he.2,hh.1.symm,hh.2.symm⟩
  cases hh
 refine⟨u4 f xs v, ?_, ?_, ?_, ?_,by rw[a6,hs];simp only[aOo];rw[aAe]⟩
 ·intro k h1 args r1 h2 hh
  obtain⟨rfl,rfl,rfl,rfl⟩:=key hh
  exact hc _
 ·intro k h1 args r1 h2 _ hh
  exact(key hh).2.2.2
 ·intro k h1 args r1 h2 hk hh
  rw[(key hh).1,hG]at hk;cases hk
 intro k h1 args r1 h2 _ hh h3
 obtain⟨rfl,rfl,rfl,_⟩:=key hh
 exact iS
def eN (l:List Nat):FuncId→Bool:=fun f=>l.elem f
end
theorem AB.rd {P:Program}{N:Nat}{Q:Ex→List V→Hp→Prop}{s:List V}{h:Hp}(F G:FuncId→Bool)(hm:P.follows .mixedOrders=true){id:Nat}{l:List Oper}(hr:DrawG P N F G l.toArray l.toArray.size (aPe l.toArray.size false) s h (Q .normal)):AB P N (.region id l.toArray true) Q s h:=by
 intro A M0 M h0 w0 a w hN hM Gr R
 refine wp_region_any hm ?_
 have R':Rel A M s h a w.drew:=⟨R.hr.drew,SR.keep (Grow.drew R.hr) R.sr,R.defers⟩
 exact Good.sound hN hM _ _ hr (Gr.trans (Grow.drew R.hr)) R' (fun s' h' M' a' w' hk G' R''=>⟨.normal,s',h',M',rfl,hk,G',R''⟩)
def Conv (h h':Hp)(x y:V):Prop:= ∀(A:Nat→Prop)(M:List (Option Nat))(w:World)(v:Value),HR A M h w→VR (Xs A M h) M w x v→VR (Xs A M h') M w y v
def Convs (h h':Hp):List V→List V→Prop
 | [],[]=>True
 |x::xs,y::ys=>Conv h h' x y∧Convs h h' xs ys
 |_,_=>False
def Sub (h h':Hp):Prop:= ∀(b:Nat)(B':Blk),h'[b]? =some (some B')→ ∃B,h[b]? =some (some B)
theorem Sub.live {h h':Hp}(hs:Sub h h'){M:List (Option Nat)}{g:Nat}(hl:bN M h' g):bN M h g:=by
 obtain⟨b,B,hb,hm⟩:=hl
 obtain⟨C,hc⟩:=hs b B hb
 exact⟨b,C,hc,hm⟩
theorem Sub.xs {h h':Hp}(hs:Sub h h'){A:Nat→Prop}{M:List (Option Nat)}{g:Nat}(hl:Xs A M h' g):Xs A M h g:=hl.elim .inl (fun k=> .inr (hs.live k))
theorem Conv.same {h h':Hp}(hs:Sub h h'){x:V}:Conv h h' x x:=fun _ _ _ _ _ hv=>hv.avoid (fun _ _ hx=>hs.xs hx)
theorem Conv.any {h h':Hp}{x:V}:Conv h h' x .any:=fun _ _ _ _ _ _=>by unfold VR;trivial
theorem Convs.len {h h':Hp}: ∀{xs ys:List V},Convs h h' xs ys→xs.length=ys.length
 | [],[],_=>rfl
 |_::_,_::_,k=>by simp[Convs.len k.2]
 | [],_::_,k=>k.elim
 |_::_,[],k=>k.elim
theorem Convs.sound {h h':Hp}{A:Nat→Prop}{M:List (Option Nat)}{w:World}(H:HR A M h w): ∀{xs ys:List V}{vs:List Value},Convs h h' xs ys→VCells (Xs A M h) M w xs vs→VCells (Xs A M h') M w ys vs
 | [],[],vs,_,hv=>by unfold VCells at *; exact hv
 |x::xs,y::ys,vs,k,hv=>by
  unfold VCells at *
  obtain⟨v,rest,e1,e2,e3⟩:=hv
  exact⟨v,rest,e1,k.1 A M w v H e2,Convs.sound H k.2 e3⟩
 | [],_::_,_,k,_=>k.elim
 |_::_,[],_,k,_=>k.elim
theorem Convs.same {h h':Hp}(hs:Sub h h'): ∀{xs:List V},Convs h h' xs xs
 | []=>trivial
 |_::_=>⟨Conv.same hs,Convs.same hs⟩
theorem Convs.nil {h h':Hp}:Convs h h' [] []:=trivial
theorem Convs.cons {h h':Hp}{x y:V}{xs ys:List V}(a:Conv h h' x y)(k:Convs h h' xs ys):Convs h h' (x::xs) (y::ys):=⟨a,k⟩
theorem Conv.agg {h h':Hp}{xs ys:List V}(k:Convs h h' xs ys):Conv h h' (.agg xs) (.agg ys):=fun A M w v H hv=>by
 unfold VR at *
 obtain⟨vs,e,hc⟩:=hv
 exact⟨vs,e,Convs.sound H k hc⟩
theorem Conv.tup {h h':Hp}{xs ys:List V}(k:Convs h h' xs ys):Conv h h' (.tup xs) (.tup ys):=fun A M w v H hv=>by
 unfold VR at *
 obtain⟨vs,e,hc⟩:=hv
 exact⟨vs,e,Convs.sound H k hc⟩
def V.shut :V→Bool
 | .sc _ | .row _ _ _ | .eptr _ _ _=>true
 |_=>false
theorem VR.shut {X:Nat→Prop}{M:List (Option Nat)}{w:World}{x:V}{v:Value}(hx:x.shut=true)(h:VR X M w x v):VR X [] w x v:=by
 cases x<;>first|(unfold VR at *; exact h)|(simp[V.shut]at hx)
theorem aF4 {α:Type}{p:V→Bool}{E:α→V}{l:List α}(h: ∀x,p (E x)=true):(l.map E).all p=true:=by
 rw[aOi];intro y hy
 simp only[aO9]at hy
 obtain⟨x,_,rfl⟩:=hy
 exact h x
theorem aET {x:V}(h:x.one=true):x.okElem 1=true:=by
 have hc:x.cells=[x]:=by cases x<;>first|rfl|simp[V.one]at h
 simp[V.okElem,V.flatOk,hc,h]
theorem aAD {X:Nat→Prop}{w:World}{g:Nat}{cs:Array Value}{e:TypeId}{f:Nat×Nat}(hw:w.heap[g]? =some (.cells cs e f)): ∀(xs:List V)(i:Nat),(∀c∈xs,c.one=true∧c.shut=true)→VCells X [] w xs ((cs.toList.drop i).take xs.length)→VRow X [] w 1 xs ⟨g,i,none⟩
 | [],i,_,_=>by unfold VRow;trivial
 |x::xs,i,ho,hv=>by
  unfold VCells at hv
  obtain⟨v,rest,e1,e2,e3⟩:=hv
  have hi:i<cs.toList.length:=by
   rcases Nat.lt_or_ge i cs.toList.length with hl|hl
   ·exact hl
   rw[aOr hl]at e1;simp at e1
  rw[aOz hi]at e1
  simp only[aOC,aO2,List.cons.injEq]at e1
  obtain⟨ev,er⟩:=e1
  have h1:=(ho x (by simp)).1
  have hcell:v.cells= #[v]:=b9 (e2.oneCell h1)
  unfold VRow
  refine⟨⟨v,e2,by rw[hcell];rfl, ?_⟩, ?_⟩
  ·rw[hcell]
   intro j u hu
   have hj:j=0:=by have:=(aOj.1 hu).1;simp at this;exact this
   subst hj
   simp at hu
   subst hu
   simp only[Addr.add,if_true]
   unfold World.cell?
   rw[hw]
   subst ev
   simp at hi
   simp[hi]
  have:(⟨g,i,none⟩:Addr).add 1=⟨g,i+1,none⟩:=by simp[Addr.add]
  rw[this]
  exact aAD hw xs (i+1) (fun c hc=>ho c (by simp[hc])) (by rw[er];exact e3)
theorem Conv.row {h h':Hp}(hs:Sub h h'){b n:Nat}{e:TypeId}{cs:List V}{ag:Bool}(hb:h[b]? =some (some ⟨e,cs⟩))(hb':h'[b]? =some none)(hsh:cs.all V.shut=true)(hn:n=cs.length):Conv h h' (.sl b 0 n 1 ag) (.row none 1 cs):=by
 intro A M w v H hv
 obtain⟨hone,hcase⟩:=H.blk b _ hb
 unfold VR at hv⊢
 rcases hv with⟨hm,rfl,h0,_⟩|⟨g,cap,e',sz,hm,rfl,h1,_,h3,hshp,_⟩
 ·have:cs=[]:=aOk (by omega)
  subst this
  exact⟨none,0,rfl,aOt _,fun _=>rfl,(fun b hb=>by cases hb),by simp,fun hne=>absurd rfl hne⟩
 rcases hcase with⟨hm',_⟩|⟨g',bY,hm',hA,hw,hle,hcs⟩
 ·rw[hm]at hm';cases hm'
 rw[hm]at hm'
 injection hm' with hm'
 injection hm' with hm'
 subst hm'
 obtain⟨f,_,hw⟩:=hw.inCells hshp
 refine⟨some ⟨g,0,none⟩,cap,by rw[hn],by omega,fun hh=>(by cases hh),(fun b hb=>by cases hb),fun c hc=>aET (hone c hc),fun _=>⟨⟨g,0,none⟩,rfl,h3, ?_,rfl, ?_⟩⟩
 ·rintro(ha|⟨c,C,hc,hmc⟩)
  ·exact hA ha
  obtain⟨C',hc'⟩:=hs c C hc
  have:=H.inj c b C' _ g hc' hb hmc hm
  subst this
  rw[hb']at hc;cases hc
 refine aAD hw cs 0 (fun c hc=>⟨hone c hc,aOi.1 hsh c hc⟩) ?_
 rw[aOA]
 refine VCells.mk (by rw[aOu];simp only[Array.length_toList];dsimp only at hle;omega) (fun i c u hc hu=> ?_)
 obtain⟨u',hu',hr⟩:=hcs.get hc
 dsimp only at hu'
 rw[hu]at hu'
 injection hu' with hu'
 subst hu'
 exact(hr.shut (aOi.1 hsh c (aOY hc))).avoid (fun _ _ hx=>hs.xs hx)
def FCv (h h':Hp)(fr:List (Nat×V)):List (Nat×V)→Prop
 | []=>True
 |(t,y)::r=>(∃x,look fr t=some x∧Conv h h' x y)∧FCv h h' fr r
theorem FCv.nil {h h':Hp}{fr:List (Nat×V)}:FCv h h' fr []:=trivial
theorem FCv.cons {h h':Hp}{fr r:List (Nat×V)}{t:Nat}{x y:V}(hl:look fr t=some x)(hc:Conv h h' x y)(k:FCv h h' fr r):FCv h h' fr ((t,y)::r):=⟨⟨x,hl,hc⟩,k⟩
theorem FCv.get {h h':Hp}{fr:List (Nat×V)}: ∀{fr':List (Nat×V)},FCv h h' fr fr'→ ∀{t:Nat}{y:V},look fr' t=some y→ ∃x,look fr t=some x∧Conv h h' x y
 | [],_,t,y,hy=>by cases hy
 |(u,z)::r,k,t,y,hy=>by
  simp only[look]at hy
  cases hb:Nat.beq u t with
  |true=>
   rw[hb]at hy
   have:=Nat.eq_of_beq_eq_true hb
   subst this
   simp only[cond_true,aOp]at hy
   subst hy
   exact k.1
  |false=>rw[hb]at hy;exact k.2.get hy
def HCv (H H':Hp):Hp→Hp→Prop
 | [],[]=>True
 |_::h,none::h'=>HCv H H' h h'
 |some B::h,some B'::h'=>(B.e=B'.e∧Convs H H' B.cells B'.cells∧B'.cells.all V.one=true)∧HCv H H' h h'
 |_,_=>False
theorem HCv.get {H H':Hp}: ∀{h h':Hp},HCv H H' h h'→ ∀{j:Nat}{B':Blk},h'[j]? =some (some B')→ ∃B,h[j]? =some (some B)∧B.e=B'.e∧Convs H H' B.cells B'.cells∧B'.cells.all V.one=true
 | [],[],_,j,B',hj=>by simp at hj
 |_::h,none::h',hh,j,B',hj=>by
  cases j with
  |zero=>simp at hj
  |succ j=>simp only[aOP]at hj ⊢; exact HCv.get (h:=h) hh hj
 |some B::h,some C::h',hh,j,B',hj=>by
  cases j with
  |zero=>
   simp only[aOQ,aOp]at hj
   subst hj
   exact⟨B,rfl,hh.1.1,hh.1.2.1,hh.1.2.2⟩
  |succ j=>simp only[aOP]at hj ⊢; exact HCv.get (h:=h) hh.2 hj
 | [],_::_,hh,_,_,_=>hh.elim
 |_::_,[],hh,_,_,_=>by unfold HCv at hh;exact hh.elim
 |none::_,some _::_,hh,_,_,_=>hh.elim
theorem HCv.len {H H':Hp}: ∀{h h':Hp},HCv H H' h h'→h.length=h'.length
 | [],[],_=>rfl
 |_::h,none::h',hh=>by simp[HCv.len (h:=h) hh]
 |some B::h,some C::h',hh=>by simp[HCv.len (h:=h) hh.2]
 | [],_::_,hh=>hh.elim
 |_::_,[],hh=>by unfold HCv at hh;exact hh.elim
 |none::_,some _::_,hh=>hh.elim
theorem HCv.nil {H H':Hp}:HCv H H' [] []:=trivial
theorem HCv.dead {H H' h h':Hp}{o:Option Blk}(k:HCv H H' h h'):HCv H H' (o::h) (none::h'):=by cases o<;>exact k
theorem HCv.live {H H' h h':Hp}{e:TypeId}{cs cs':List V}(hc:Convs H H' cs cs')(ho:cs'.all V.one=true)(k:HCv H H' h h'):HCv H H' (some ⟨e,cs⟩::h) (some ⟨e,cs'⟩::h'):=⟨⟨rfl,hc,ho⟩,k⟩
theorem Ghost.conv {N n:Nat}{fr fr':List (Nat×V)}{h h':Hp}(hf:FCv h h' fr fr')(hh:HCv h h' h h'):Ghost N (aE n fr) h (aE n fr') h':=by
 intro A M a w hN R
 have hs:Sub h h':=fun b B' hb=>by obtain⟨B,hB,_⟩:=hh.get hb;exact⟨B,hB⟩
 refine⟨M,rfl,⟨⟨by rw[←hh.len];exact R.hr.len,R.hr.alt, ?_, ?_,R.hr.glob.avoid fun g _ hx=>hx.elim .inl (fun hl=> .inr (hs.live hl))⟩, ?_,R.defers⟩,fun g hl=>hs.live hl⟩
 ·intro b B' hb
  obtain⟨B,hB,he,hc,ho⟩:=hh.get hb
  refine⟨aOi.1 ho, ?_⟩
  have hl:=hc.len
  rcases(R.hr.blk b B hB).2 with⟨hn,hc0⟩|⟨g,cs,hg,hA,hw,hle,hcs⟩
  ·exact .inl ⟨hn,aOk (by rw[←hl,hc0];rfl)⟩
  refine .inr ⟨g,cs,hg,hA,by rw[←he,←hl];exact hw,by rw[←hl];exact hle, ?_⟩
  rw[←hl]
  exact Convs.sound R.hr hc hcs
 ·intro b b' B B' g hb hb' hm hm'
  obtain⟨C,hC,_⟩:=hh.get hb
  obtain⟨C',hC',_⟩:=hh.get hb'
  exact R.hr.inj b b' C C' g hC hC' hm hm'
 exact uB R.sr (fun t y hy=>by
  obtain⟨x,hx,hl⟩:=hf.get hy
  exact⟨x,hx,fun v hv=>hl A M w v R.hr hv⟩)
def iN (s:ByteArray):List Int:=s.data.toList.map fun b=>(b.toNat:Int)
def stb (s:ByteArray):Option (List Int):=if s.size≤gX then some (iN s)else none
theorem nJ (s:ByteArray):(iN s).length=s.size:=by unfold iN;rw[aOw];rfl
def m8 (s:ByteArray)(i:Int):Option Int:=if 0≤i then(s[i.toNat]?).map (fun b=>(b.toNat:Int))else none
section
variable {P:Program}{N n:Nat}{ops:Array Oper}{l:List Oper}{fr:List (Nat×V)}{h h':Hp}{K:List V→Hp→Prop}
theorem sM {t:TypeId}{s:ByteArray}{k:IntKind}{j v:Int}{sz by_:Nat}{z:Value}(ht:aD P t=some ⟨.string,sz,by_,z⟩)(hx:m8 s j=some v):oV P t (.sc (.string s)) (.sc (.int k j))=some (.sc (.int .u8 v)):=by
 unfold m8 at hx
 split at hx
 ·rename_i h0
  simp only[aOl]at hx
  obtain⟨b,hb,rfl⟩:=hx
  simp[oV,ht,kI,h0,hb]
 cases hx
theorem OpsW.does {o:Oper}{v:V}{s:List V}(hw:eC ops o s=some true)(hD: ∀(A:Nat→Prop) (M:List (Option Nat)) (a:Act) (w:World),HR A M h w→SR (Xs A M h) M w s a→Does P o a w A M h v h')
  (hk:OpsW P N ops l (c9 s o.dst v) h' K):OpsW P N ops (o::l) s h K:=fun k hl A M0 M h0 w0 a w Q hN hM G R hQ=>by
 have h0':ops[k]? =some o:=by simpa using (hl 0).symm
 simp only[aOC,aOT]
 rw[wpOps_cons]
 unfold wpOp
 rw[h0']
 simp only
 rw[r9 R.sr hw,if_pos rfl]
 refine .inl (hD A M a w R.hr R.sr _ _ fun v' w' M' G' hv=> ?_)
 exact hk (k+1) (fun j=>by have:=hl (j+1);simpa[Nat.add_assoc,Nat.add_comm 1 j]using this) A M0 M' h0 w0 _ w' Q hN hM (G.trans G') ⟨G'.hr,(SR.keep G' R.sr).put o.dst hv,by rw[uS];exact R.defers⟩ hQ
theorem aCb {X:Nat→Prop}{M:List (Option Nat)}{w:World}(s:ByteArray):VCells X M w ((iN s).map (eI .u8)) (s.data.toList.map fun b=>Value.int .u8 b.toNat):=by
 refine VCells.mk (by simp[iN]) (fun i c v hc hv=> ?_)
 simp only[iN,List.map_map,aOE,aOl]at hc hv
 obtain⟨b,hb,rfl⟩:=hc
 obtain⟨b',hb',rfl⟩:=hv
 rw[hb]at hb'
 injection hb' with hb'
 subst hb'
 unfold VR;rfl
theorem aMZ {t:Nat}{a b e:TypeId}{x:Operand}{s:ByteArray}{r:List Int}{i s1 b1 s2 b2 s3 b3:Nat}{z1 z2 z3:Value}{ty:TypeId}{pos:String}{aft:Array Edge}(hx:aU n fr x=some (.sc (.string s)))
  (ha:aD P a=some ⟨.string,s1,b1,z1⟩) (hb:aD P b=some ⟨.slice e,s2,b2,z2⟩) (he:aD P e=some ⟨.int .u8,s3,b3,z3⟩) (hs:stb s=some r) (hl:h.length=i) (hh:h++[some ⟨e,r.map (eI .u8)⟩]=h')
  (k:OpsW P N ops l (aE n ((t,.sl i 0 r.length 1 false)::fr)) h' K):OpsW P N ops (⟨some t,.convert a b x,ty,pos,aft,none⟩::l) (aE n fr) h K:=by
 subst hl hh
 unfold stb at hs
 split at hs
 ·rename_i hsz
  injection hs with hs
  subst hs
  refine OpsW.does (v:= .sl h.length 0 (iN s).length 1 false) rfl ?_ (by dsimp only;rw[aAe];exact k)
  intro A M ac w H S
  have hev:ac.eval x= .string s:=by have:=aW H.glob S (bQ hx);unfold VR at this;exact this
  have hge:=grownCap_ge w s.size 0 e
  have hcm:grownCap w s.size 0 e≤maxLen:=grownCap_le_maxLen w s.size 0 e (by unfold gX at hsz;simp only[maxLen];omega)
  have hrow:(bytesRow s (grownCap w s.size 0 e)).size=grownCap w s.size 0 e:=by
   simp only[bytesRow,Array.size_append,Array.size_map,Array.size_replicate]
   show s.size+_=_
   omega
  have Gd:=Grow.drew H
  have G:=Gd.trans (Grow.allocF Gd.hr e ((iN s).map (eI .u8)) (bytesRow s (grownCap w s.size 0 e)) (by rw[hrow,List.length_map,nJ];exact hge) (by
   have:(bytesRow s (grownCap w s.size 0 e)).toList.take ((iN s).map (eI .u8)).length=s.data.toList.map fun b=>Value.int .u8 b.toNat:=by
    simp only[bytesRow,Array.toList_append,Array.toList_map]
    rw[show((iN s).map (eI .u8)).length=(s.data.toList.map fun b=>Value.int .u8 b.toNat).length by simp[iN]]
    exact List.take_left
   rw[this]
   exact aCb s) (fun c hc=>by
    simp only[List.mem_map]at hc
    obtain⟨y,_,rfl⟩:=hc
    rfl) _ (.inr rfl))
  refine Does.value (sem:=convert a b (.string s)) (by simp[execOp,hev]) ⟨_,_,_,run_bytes_of_string w a b e s (bF ha).1 (bF hb).1 (bF he).1,G, ?_⟩
  unfold VR
  refine .inr ⟨w.heap.size,grownCap w s.size 0 e,e,grownCap w s.size 0 e,by rw[←H.len];simp,by rw[nJ],by rw[nJ];exact hge,hcm,by omega, ?_,by omega⟩
  unfold World.shape?
  rw[show(w.drew.alloc (.cells (bytesRow s (grownCap w s.size 0 e)) e ((bytesRow s (grownCap w s.size 0 e)).size,(bytesRow s (grownCap w s.size 0 e)).size+1))).heap[w.heap.size]? =some (.cells (bytesRow s (grownCap w s.size 0 e)) e ((bytesRow s (grownCap w s.size 0 e)).size,(bytesRow s (grownCap w s.size 0 e)).size+1))from heap_alloc_new w.drew _]
  simp only[hrow]
 cases hs
end
def bY {α:Type}(n:Nat)(l:List α):Option (List α):=if l.length=n then some l else none
def bZ {α:Type}(n:Nat)(l:List α)(i:Int):Option α:=if i<n then eG l i else none
def arp {α:Type}(n:Nat)(l:List α):Option (List α):=if n≤l.length then some (l.take n)else none
def qM (a b:ByteArray):Option ByteArray:=if a.size+b.size≤gX then some (a++b)else none
def o3 (s:ByteArray)(a b:Int):Option ByteArray:=if 0≤a∧a≤b∧b≤s.size then some (s.extract a.toNat b.toNat)else none
theorem aO {α:Type}{n:Nat}{l m:List α}(h:bY n l=some m):l.length=n:=by
 unfold bY at h;split at h
 ·assumption
 cases h
theorem aHI {α:Type}{n:Nat}{l m:List α}(h:bY n l=some m)(hn:Nat.ble 1 n=true):Nat.ble 1 l.length=true:=by rw[aO h];exact hn
theorem bU {α:Type}{n:Nat}{l m:List α}(h:arp n l=some m):m.length=n:=by
 unfold arp at h;split at h
 ·injection h with h;subst h;simp;omega
 cases h
theorem aIl {α:Type}{n:Nat}{l m:List α}(h:arp n l=some m)(hn:Nat.ble 1 n=true):Nat.ble 1 m.length=true:=by rw[bU h];exact hn
theorem kV {α:Type}{n:Nat}{l:List α}{i:Int}{y:α}(h:bZ n l i=some y):eG l i=some y:=by
 unfold bZ at h;split at h
 ·exact h
 cases h
theorem aFD {α:Type}{n:Nat}{l:List α}{i:Int}{y:α}(h:bZ n l i=some y):i<n:=by
 unfold bZ at h;split at h
 ·assumption
 cases h
section
variable {P:Program}{h h':Hp}{t e:TypeId}{ti:TI}{i off b N:Nat}{v:V}{α:Type}{E:α→V}{l m:List α}{y:α}{k:IntKind}{j:Int}{sz by_:Nat}{z:Value}{ag:Bool}
theorem iaB (ht:aD P t=some ⟨.array N e,sz,by_,z⟩)(he:aD P e=some ti)(h1:ti.size=1)(hx:bZ N l j=some y):fX P t (.ptr b 0) (.sc (.int k j))=some (.ptr b j.toNat):=by
 obtain⟨h2,h3,_⟩:=mB (kV hx)
 simp[fX,ht,kI,he,h1,h2,aFD hx]
theorem ixA (ht:aD P t=some ⟨.array N e,sz,by_,z⟩)(he:aD P e=some ti)(h1:ti.size=1)(hd:a7 ti.desc=false)(hx:bZ N l j=some y):oV P t (.agg (l.map E)) (.sc (.int k j))=some (E y):=by
 obtain⟨h2,h3,h4⟩:=mB (kV hx)
 simp[oV,ht,kI,he,h1,h2,aFD hx,iG,hd,h4]
theorem tB (ht:aD P t=some ⟨.array N e,sz,by_,z⟩)(hsz:sz=N)(hb:h[b]? =some (some ⟨i,l.map E⟩))(hl:l.length=N):e9 P t h (.ptr b 0)=some (.agg (l.map E)):=by
 subst hsz
 simp only[e9,hb,iG,ht,a7,if_true,aOA,aOw]
 rw[if_pos (by omega),aOh (by simp;omega)]
theorem mQ (ht:aD P t=some ⟨.array N e,sz,by_,z⟩)(hsz:sz=N)(hb:h[b]? =some (some ⟨i,l.map E⟩))(hE: ∀x,(E x).one=true)(hl:l.length=N)(hm:m.length=N)(hh:h.set b (some ⟨i,m.map E⟩)=h'):nC P t h (.ptr b 0) (.agg (m.map E))=some h':=by
 subst hh hsz
 simp only[nC,ht,hb]
 rw[if_pos ⟨by simp[V.flatOk,V.cells,hE],by simp[V.cells,hm],by simp[hl]⟩]
 congr 4
 unfold splice
 simp only[V.cells,List.take_zero,aPf,Nat.zero_add,aOw]
 rw[aOr (by simp;omega),aOI]
theorem slA (ht:aD P t=some ⟨.array N e,sz,by_,z⟩)(he:aD P e=some ti)(h1:ti.size=1)(hag:a7 ti.desc=ag)(hb:h[b]? =some (some ⟨i,l.map E⟩))(hl:l.length=N)(hN:0<N∧N≤gX):g8 P t h (.ptr b 0) none none=some (.sl b 0 N 1 ag):=by
 subst hag
 simp only[g8,ht,he,i8,oB,hb]
 rw[if_pos ⟨by omega,hN.2,aO3 _,by omega,aO3 _,by simp[h1,hl]⟩]
 simp[h1]
theorem slE (ht:aD P t=some ⟨.array N e,sz,by_,z⟩)(he:aD P e=some ti)(h1:ti.size=1)(hag:a7 ti.desc=false)(hl:l.length=N)(hN:0<N):g8 P t h (.eptr [.agg (l.map E)] 0 0) none none=some (.row none 1 (l.map E)):=by
 simp only[g8,ht,he,i8,oB,aOQ]
 rw[if_pos ⟨h1,hag,aO3 _,by omega,aO3 _,by simp[V.cells,hl]⟩]
 simp[V.cells,hl,aOh]
theorem slT {s r:ByteArray}{lo hi:Option V}{a c:Int}(ht:aD P t=some ⟨.string,sz,by_,z⟩)(h1:i8 lo=some a)(h2:oB hi s.size=some c)(hs:o3 s a c=some r):g8 P t h (.sc (.string s)) lo hi=some (.sc (.string r)):=by
 unfold o3 at hs
 split at hs
 ·rename_i hc
  injection hs with hs
  subst hs
  simp only[g8,ht,h1,h2]
  rw[if_pos hc]
 cases hs
end
theorem V.le_arr {α:Type}{E:α→V}{f:Nat→Nat}{vn:Nat→Bool}{l:List α}(hE: ∀x,(E x).rn f=E x):V.le vn (.agg (l.map E)) ((V.agg (l.map E)).rn f):=by
 have:(V.agg (l.map E)).rn f=V.agg (l.map E):=by simp only[V.rn,kZ hE]
 rw[this];exact V.le_refl _ _
theorem aIQ {k:IntKind}(l:List Int):V.rfs (l.map (eI k))=true:=yW (fun _=>rfl) l
theorem aJ1 (l:List Bool):V.rfs (l.map eB)=true:=yW (fun _=>rfl) l
theorem aMm {α:Type}{E:α→V}{l:List α}(h: ∀x,(E x).one=true):(V.agg (l.map E)).flatOk=true:=by simp[V.flatOk,V.cells,h]
section
variable {P:Program}(t:TypeId)(xo yo:Operand)
theorem pJ {a b r:ByteArray}(h:qM a b=some r):b4 P .add t xo yo (.sc (.string a)) (.sc (.string b))=some (.sc (.string r)):=by
 unfold qM at h
 split at h
 ·rename_i hl
  injection h with h
  subst h
  have hm: ¬(((a.size+b.size:Nat):Int)>IntKind.i64.max):=by
   unfold gX at hl
   have:IntKind.i64.max=9223372036854775807:=by decide
   rw[this];omega
  simp only[b4,cW,b6,pureV]
  have:aG P (do eqGuard .add t xo yo (.string a) (.string b);binOp .add t (.string a) (.string b))=some (.string (a++b)):=by
   show aG P (Op.stringOp .add a b)=_
   unfold Op.stringOp
   simp only
   rw[if_neg hm]
   rfl
  exact congrArg (Option.map ofValue) this
 cases h
theorem aK {α β:Type}(s:Sem α)(f:α→Sem β){a:α}(h:aG P s=some a):aG P (s >>= f)=aG P (f a):=by
 show aG P (Sem.bind s f)=_
 induction s with
 |pure x=>simp only[aG,aOp]at h;subst h;rfl
 |program k ih=>exact ih P h
 |mark m k ih=>exact ih h
 |_=>simp[aG]at h
theorem bG {t:TypeId}{ti:TI}(ht:aD P t=some ti):aG P (underlying t)=some ti.desc:=by
 have h1:=(bF ht).1
 show aG P (match P.underlying t with|some d=>pure d|none=>stuck "no such type")=_
 rw[h1];rfl
end
section
variable {P:Program}
theorem lF {t:TypeId}{ti:TI}(ht:aD P t=some ti):aG P (sizeOf t)=some ti.size:=by
 obtain⟨_,i,h1,h2,_⟩:=bF ht
 have:aG P (typeInfo t)=some i:=by
  show aG P (match P.info? t with|some i=>pure i|none=>stuck "no such type")=_
  rw[h1];rfl
 unfold sizeOf
 rw[aK _ _ this,←h2];rfl
theorem qY {t:TypeId}{ti:TI}(ht:aD P t=some ti)(hd:a7 ti.desc=false){cs:Array Value}{off:Nat}{v:Value}(hv:cs[off]? =some v):aG P (part t cs off)=some v:=by
 unfold part
 have hu:=bG ht
 have h1:aG P (isAgg t)=some false:=by
  unfold isAgg
  rw[aK _ _ hu]
  cases hh:ti.desc<;>first|rfl|(rw[hh]at hd;simp[a7]at hd)
 rw[aK _ _ h1]
 simp only[aOg,if_false,hv]
 rfl
theorem aBC {t:TypeId}{k k':IntKind}{sz by_:Nat}{z:Value}(ht:aD P t=some ⟨.int k',sz,by_,z⟩)(d:Nat)(a b:Int):aG P (Op.equalIn (d+1) t (.int k a) (.int k b))=some (a == b):=by
 rw[Op.equalIn,aK _ _ (bG ht)]
 simp only[if_true]
 rfl
theorem aBX {t e:TypeId}{k k':IntKind}{N sz by_ sz' by':Nat}{z z':Value}(ht:aD P t=some ⟨.array N e,sz,by_,z⟩)(he:aD P e=some ⟨.int k',sz',by',z'⟩)(h1:sz'=1){l m:List Int}(hl:l.length=N)(hm:m.length=N)(d:Nat):
  aG P (Op.equalIn (d+2) t (.agg (l.map (Value.int k)).toArray) (.agg (m.map (Value.int k)).toArray))=some (l == m):=by
 subst h1
 rw[Op.equalIn,aK _ _ (bG ht)]
 simp only
 rw[aK _ _ (lF he)]
 simp only[Std.Legacy.Range.forIn_eq_forIn_range',Std.Legacy.Range.size,aPa,aOK,aPg]
 have key: ∀(c i:Nat),i+c=N→l.take i=m.take i→aG P (do
   let r←forIn (List.range' i c 1) ((none,()):Option Bool×Unit) fun i r=>do
    let a←part e (l.map (Value.int k)).toArray (i*1)
    let b←part e (m.map (Value.int k)).toArray (i*1)
    let q←Op.equalIn (d+1) e a b
    if(!q)=true then pure (ForInStep.done (some false,()))else pure (ForInStep.yield (none,()))
   match r.fst with
   |some a=>pure a
   |none=>pure true)=some (l == m):=by
  intro c
  induction c with
  |zero=>
   intro i hi hp
   have:l=m:=by
    rw[aOh (by omega),aOh (by omega)]at hp
    exact hp
   subst this
   simp only[List.range'_zero,aO0]
   show some true=_
   simp
  |succ c ih=>
   intro i hi hp
   have hil:i<l.length:=by omega
   have him:i<m.length:=by omega
   simp only[aOT,aOV,bind_assoc]
   rw[aK _ _ (qY he rfl (v:= .int k l[i]) (by simp[hil])),aK _ _ (qY he rfl (v:= .int k m[i]) (by simp[him])),aK _ _ (aBC he d _ _)]
   by_cases hq:l[i]=m[i]
   ·have:=ih (i+1) (by omega) (by rw[aOD hil,aOD him,hp,hq])
    simpa[hq]using this
   have hne:l≠m:=by rintro rfl;exact hq rfl
   have:(l == m)=false:=by simpa using hne
   rw[this]
   have hq':(l[i] == m[i])=false:=by simpa using hq
   rw[hq']
   rfl
 refine Eq.trans (congrArg (aG P) ?_) (key N 0 (by omega) (by simp))
 refine congr (congrArg bind ?_) (funext fun r=> ?_)
 ·rfl
 obtain⟨r,_⟩:=r
 cases r<;>rfl
variable (t:TypeId)(xo yo:Operand)
theorem aAJ (k:IntKind)(l:List Int):cW (.agg (l.map (eI k)))=some (.agg (l.map (Value.int k)).toArray):=by
 have:(l.map (eI k)).mapM b6=some (l.map (Value.int k)):=by
  induction l with
  |nil=>rfl
  |cons x l ih=>simp only[List.map_cons,aOZ,ih];rfl
 simp only[cW,this,aOo]
theorem aBy {e:TypeId}{k':IntKind}{N sz by_ sz' by':Nat}{z z':Value}{t:TypeId}(ht:aD P t=some ⟨.array N e,sz,by_,z⟩)(he:aD P e=some ⟨.int k',sz',by',z'⟩)(hd:2≤P.depth){bo:BinOp}(hbo:bo= .eql∨bo= .neq)(a b:Array Value):aG P (eqGuard bo t xo yo (.agg a) (.agg b))=some ():=by
 unfold eqGuard
 have hg:P.eqGuardType P.depth t=false:=by
  obtain⟨q,hq⟩: ∃q,P.depth=q+2:=⟨P.depth-2,by omega⟩
  rw[hq]
  simp only[Program.eqGuardType,(bF ht).1,(bF he).1]
 rcases hbo with rfl|rfl<;>
 ·show aG P (if(!P.eqGuardType P.depth t)=true then pure ()else _)=some ()
  rw[hg];rfl
theorem aHe {e:TypeId}{k k':IntKind}{N sz by_ sz' by':Nat}{z z':Value}{t:TypeId}(ht:aD P t=some ⟨.array N e,sz,by_,z⟩)(he:aD P e=some ⟨.int k',sz',by',z'⟩)(h1:sz'=1)(hd:2≤P.depth){l m:List Int}(hl:l.length=N)(hm:m.length=N):
  b4 P .eql t xo yo (.agg (l.map (eI k))) (.agg (m.map (eI k)))=some (.sc (.bool (l == m))):=by
 simp only[b4,aAJ,pureV]
 rw[aK _ _ (aBy xo yo ht he hd (.inl rfl) _ _)]
 have:aG P (binOp .eql t (.agg (l.map (Value.int k)).toArray) (.agg (m.map (Value.int k)).toArray))=some (.bool (l == m)):=rZ _ _ (aBX ht he h1 hl hm 9998)
 rw[this];rfl
theorem aG9 {e:TypeId}{k k':IntKind}{N sz by_ sz' by':Nat}{z z':Value}{t:TypeId}(ht:aD P t=some ⟨.array N e,sz,by_,z⟩)(he:aD P e=some ⟨.int k',sz',by',z'⟩)(h1:sz'=1)(hd:2≤P.depth){l m:List Int}(hl:l.length=N)(hm:m.length=N):
  b4 P .neq t xo yo (.agg (l.map (eI k))) (.agg (m.map (eI k)))=some (.sc (.bool (!(l == m)))):=by
 simp only[b4,aAJ,pureV]
 rw[aK _ _ (aBy xo yo ht he hd (.inr rfl) _ _)]
 have:aG P (binOp .neq t (.agg (l.map (Value.int k)).toArray) (.agg (m.map (Value.int k)).toArray))=some (.bool (!(l == m))):=rZ _ (fun b=>Value.bool !b) (aBX ht he h1 hl hm 9998)
 rw[this];rfl
end
theorem aC6 {P:Program} {f:FuncId} {fn:Func} {args:List V} {r:V} {h:Hp} {e:Array Value→Sem Value} (hf:P.funcs[f]? =some fn) (hn:(fn.name == "runtime.NumGoroutine")=false) (hb:fn.body.isNone=true) (h1:Extern.findNext fn=none) (h2:Extern.find fn=some e)
  (he: ∀(X:Nat→Prop)(M:List (Option Nat))(w:World)(vs:List Value),VCells X M w args vs→ ∃v,(e vs.toArray).run P w= .ok v w∧VR X M w r v):Fn P f h args r h:=by
 intro A M w vs H hargs
 obtain⟨v,hv,hr⟩:=he _ _ _ _ hargs
 refine .inr ⟨v,w, ?_,M,Grow.refl H,hr⟩
 have e1:(callFunc f vs.toArray).run P w=((e vs.toArray).run P w).andThen fun v w=> .ok (.value v) w:=by
  unfold callFunc
  show Sem.run P (match P.funcs[f]? with|none=>_|some fn=>_) w=_
  rw[hf]
  simp only[hn,aOg,if_false,hb,if_true,h1,h2]
  show Sem.run P (Sem.bind (e vs.toArray) _) w=_
  exact Sem.run_bind ..
 rw[e1,hv]
 rfl
def ixb (s:ByteArray)(c:Int):Int:=match(aOF s.size).find? (fun i=>s[i]! == c.toNat.toUInt8) with
 |some i=>i
 |none=> -1
theorem aJ2 {P:Program} {f:FuncId} {fn:Func} (hf:P.funcs[f]? =some fn) (hn:(fn.name == "runtime.NumGoroutine")=false) (hb:fn.body.isNone=true) (h1:Extern.findNext fn=none) (h2:Extern.find fn=some Extern.BytealgIndexByte.indexByte) (s:ByteArray) (c:Int):Fn P f [] [eS s,eI .u8 c] (eI .i64 (ixb s c)) []:=by
 refine aC6 hf hn hb h1 h2 fun X M w vs hv=> ?_
 unfold VCells at hv
 obtain⟨v,rest,rfl,hv,hr⟩:=hv
 unfold VCells at hr
 obtain⟨u,rest,rfl,hu,hr⟩:=hr
 unfold VCells at hr
 subst hr
 unfold VR at hv hu
 subst hv hu
 refine⟨.int .i64 (ixb s c), ?_,by unfold VR;rfl⟩
 show Sem.run P (match(aOF s.size).find? (fun i=>s[i]! == c.toNat.toUInt8)with|some i=>pure (goInt i)|none=>pure (goInt (-1))) w=_
 unfold ixb
 cases (aOF s.size).find? (fun i=>s[i]! == c.toNat.toUInt8)<;>rfl
section
variable {α:Type}{C:α→List V}{K:Nat}
theorem kF (hC: ∀x,(C x).length=K): ∀l:List α,(l.flatMap C).length=l.length*K
 | []=>by simp
 |x::l=>by simp only[aOq,aO6,hC,kF hC l,aOC,aOs,aOG];omega
theorem aBB (hC: ∀x,(C x).length=K): ∀(l:List α)(i:Nat),(l.flatMap C).drop (i*K)=(l.drop i).flatMap C
 |l,0=>by simp
 | [],i+1=>by simp
 |x::l,i+1=>by
  rw[aOq,aO4,←aBB hC l i,aOs,aOG,List.drop_append,aOr (by rw[hC];omega),aPf,hC]
  congr 1;omega
theorem zT (hC: ∀x,(C x).length=K)(l:List α):mE true K l.length (l.flatMap C)=l.map fun x=>V.agg (C x):=by
 unfold mE
 rw[if_pos rfl]
 apply List.ext_getElem
 ·simp
 intro i h1 h2
 simp only[aOw]at h2
 simp only[List.getElem_map,List.getElem_range]
 rw[aBB hC,aOz h2,aOq,aPb,aOh (by rw[hC];exact aOt _),hC,Nat.sub_self,List.take_zero,aOI]
theorem n7 {p:V→Bool}(h: ∀x,(C x).all p=true)(l:List α):(l.flatMap C).all p=true:=by
 rw[aOi];intro y hy
 simp only[List.mem_flatMap]at hy
 obtain⟨x,_,hy⟩:=hy
 exact aOi.1 (h x) y hy
theorem aEi {f:Nat→Nat}: ∀(a b:List V),V.rns f (a++b)=V.rns f a++V.rns f b
 | [],b=>by simp[V.rns]
 |x::a,b=>by simp[V.rns,aEi a b]
theorem lZ {f:Nat→Nat}(h: ∀x,V.rns f (C x)=C x): ∀l:List α,V.rns f (l.flatMap C)=l.flatMap C
 | []=>by simp[V.rns]
 |x::l=>by rw[aOq,aEi,h,lZ h l]
theorem r4 {f:Nat→Nat}{vn:Nat→Bool}(h: ∀x,V.rns f (C x)=C x)(l:List α):V.les vn (l.flatMap C) (V.rns f (l.flatMap C)):=by rw[lZ h];exact V.les_refl _ _
theorem aEg : ∀(a b:List V),V.rfs (a++b)=(V.rfs a&&V.rfs b)
 | [],b=>by simp[V.rfs]
 |x::a,b=>by simp[V.rfs,aEg a b,Bool.and_assoc]
theorem aDB (h: ∀x,V.rfs (C x)=true): ∀l:List α,V.rfs (l.flatMap C)=true
 | []=>by simp[V.rfs]
 |x::l=>by rw[aOq,aEg,h,aDB h l];rfl
theorem aGd {F:V→Option V}{a b a' b':List V}(h1:a.mapM F=some a')(h2:b.mapM F=some b'):(a++b).mapM F=some (a'++b'):=by
 rw[List.mapM_append,h1,h2];rfl
theorem aBE {F:V→Option V}(h: ∀x,(C x).mapM F=some (C x)): ∀l:List α,(l.flatMap C).mapM F=some (l.flatMap C)
 | []=>rfl
 |x::l=>by rw[aOq];exact aGd (h x) (aBE h l)
variable {P:Program}{h h':Hp}{t e:TypeId}{ti:TI}{b i off:Nat}{l m:List α}{y:α}{kk:IntKind}{j:Int}{nl:Option Bool}{sz by_:Nat}{z:Value}{v:V}
theorem aIp {hE:Hp}{q d:Nat}(hC: ∀x,(C x).length=K)(hK:0<K)(hn:l.length=q)(hb:hE[b]? =some (some ⟨e,l.flatMap C⟩))(hx: ∀x,(C x).mapM (cQ hE d)=some (C x)):cQ hE (d+1) (.sl b 0 q K true)=some (.row none K (l.map fun x=>V.agg (C x))):=by
 subst hn
 simp only[cQ,hb]
 rw[if_pos ⟨by rw[kF hC];omega,hK,.inl trivial⟩]
 simp only[aOA]
 rw[aOh (by rw[kF hC];exact aOt _),aBE hx]
 simp only[aOo,zT hC]
theorem n8 {hE:Hp}{q:Nat}(hC: ∀x,(C x).length=K)(hK:0<K)(hn:l.length=q)(hb:hE[b]? =some (some ⟨e,l.flatMap C⟩))(hx: ∀x,(C x).mapM (cQ hE 3)=some (C x)):qG hE (.sl b 0 q K true)=some (.row none K (l.map fun x=>V.agg (C x))):=aIp hC hK hn hb hx
theorem aLw :dY h K (.row nl K (m.map fun x=>V.agg (C x)))=some (m.flatMap C,m.length):=by
 have:(m.map fun x=>V.agg (C x)).flatMap V.cells=m.flatMap C:=by rw[List.flatMap_map];rfl
 simp only[dY]
 rw[if_pos (.inl trivial),this];simp
theorem aKn {q:Nat}(hC: ∀x,(C x).length=K)(hn:m.length=q)(hb:h[b]? =some (some ⟨e,m.flatMap C⟩)):dY h K (.sl b 0 q K true)=some (m.flatMap C,m.length):=by
 subst hn
 simp only[dY,hb]
 rw[if_pos ⟨trivial,by rw[kF hC];omega⟩,aOA,aOh (by rw[kF hC];exact aOt _)]
theorem aKA {k:Nat}:dY h K (.row nl k [])=some (([]:List α).flatMap C,([]:List α).length):=by simp[dY]
theorem aLp {q:Nat}(hC: ∀x,(C x).length=K)(hn:l.length=q)(ht:aD P t=some ⟨.slice e,sz,by_,z⟩)(he:aD P e=some ti)(h1:ti.zero.cells.size=K∧ti.size=K∧1≤ti.bytes∧0<K)(hb:h[b]? =some (some ⟨e,l.flatMap C⟩)){s:V}(hs:dY h K s=some (m.flatMap C,m.length))
  {r:List α} (ha:gM ti.bytes l m=some r) (hl:h.length=i) (hh:h.set b none++[some ⟨e,r.flatMap C⟩]=h'):fC P t t (.sl b 0 q K true) s h=some (.sl i 0 r.length K true,h'):=by
 obtain⟨h2,h3,h4,h5⟩:=h1
 subst hn
 unfold gM at ha
 split at ha
 ·rename_i hlim
  injection ha with ha
  subst ha hl hh
  have hx:dY h ti.size s=some (m.flatMap C,m.length):=by rw[h3];exact hs
  simp only[fC,ne_eq,not_true,if_false,ht,he]
  rw[if_pos ⟨by rw[h2,h3],by omega,h4⟩]
  simp only[hx,hb]
  rw[if_pos ⟨h3.symm,trivial,by rw[kF hC];exact aOt _,hlim⟩,aOh (by rw[kF hC];exact aOt _)]
  simp
 cases ha
theorem aKq (ht:aD P t=some ⟨.slice e,sz,by_,z⟩)(he:aD P e=some ti)(h1:ti.zero.cells.size=K∧ti.size=K∧1≤ti.bytes∧0<K){s:V}(hs:dY h K s=some (m.flatMap C,m.length))(hag:a7 ti.desc=true){k:Nat}
  {r:List α} (ha:gM ti.bytes [] m=some r) (hl:h.length+1=i) (hh:h++[none]++[some ⟨e,r.flatMap C⟩]=h'):fC P t t (.row (some true) k []) s h=some (.sl i 0 r.length K true,h'):=by
 obtain⟨h2,h3,h4,h5⟩:=h1
 unfold gM at ha
 split at ha
 ·rename_i hlim
  injection ha with ha
  subst ha hl hh
  have hx:dY h ti.size s=some (m.flatMap C,m.length):=by rw[h3];exact hs
  simp only[fC,ne_eq,not_true,if_false,ht,he]
  rw[if_pos ⟨by rw[h2,h3],by omega,h4⟩]
  simp only[hx]
  rw[if_pos (by simpa using hlim)]
  simp[h3,hag]
 cases ha
theorem aMS {q:Nat}(hn:l.length=q)(ht:aD P t=some ⟨.slice e,sz,by_,z⟩)(he:aD P e=some ti)(h1:ti.size=K)(hx:eG l j=some y):fX P t (.sl b 0 q K true) (.sc (.int kk j))=some (.ptr b (0+j.toNat*K)):=by
 obtain⟨h2,h3,_⟩:=mB hx
 subst hn
 simp[fX,ht,kI,he,h1,h2,h3]
theorem Conv.rowK (hC: ∀x,(C x).length=K)(h1K: ∀x,(C x).all V.one=true)(hsh: ∀x,(C x).all V.shut=true){h h':Hp}(hs:Sub h h'){b n:Nat}{e:TypeId}(hb:h[b]? =some (some ⟨e,l.flatMap C⟩))(hb':h'[b]? =some none)(hn:n=l.length):Conv h h' (.sl b 0 n K true) (.row none K (l.map fun x=>V.agg (C x))):=by
 intro A M w v H hv
 obtain⟨hone,hcase⟩:=H.blk b _ hb
 have hok: ∀e∈l.map (fun x=>V.agg (C x)),e.okElem K=true:=by
  intro e he
  simp only[aO9]at he
  obtain⟨x,_,rfl⟩:=he
  simp only[V.okElem,V.flatOk,V.cells,h1K x,hC x,beq_self_eq_true,Bool.and_self]
 unfold VR at hv⊢
 rcases hv with⟨hm,rfl,h0,_⟩|⟨g,cap,e',sz,hm,rfl,h1,_,h3,hshp,_⟩
 ·have:l=[]:=aOk (by omega)
  subst this
  exact⟨none,0,rfl,aOt _,fun _=>rfl,(fun b hb=>by cases hb),by simp,fun hne=>absurd rfl hne⟩
 rcases hcase with⟨hm',_⟩|⟨g',bY,hm',hA,hw,hle,hcs⟩
 ·rw[hm]at hm';cases hm'
 rw[hm]at hm'
 injection hm' with hm'
 injection hm' with hm'
 subst hm'
 refine⟨some ⟨g,0,none⟩,cap,by rw[aOw,hn],by rw[aOw];omega,fun hh=>(by cases hh),(fun b hb=>by cases hb),hok,fun _=>⟨⟨g,0,none⟩,rfl,h3, ?_,rfl, ?_⟩⟩
 ·rintro(ha|⟨c,C',hc,hmc⟩)
  ·exact hA ha
  obtain⟨C'',hc'⟩:=hs c C' hc
  have:=H.inj c b C'' _ g hc' hb hmc hm
  subst this
  rw[hb']at hc;cases hc
 rw[←zT hC l]
 unfold mE
 rw[if_pos rfl]
 dsimp only at hle hcs
 have hall:=n7 hsh l
 refine tV h3 l.length (vs:=bY.toList.take (l.flatMap C).length) (kF hC l) (VCells.mk hcs.len (fun i c u hc hu=> ?_)) ?_
 ·obtain⟨u',hu',hr⟩:=hcs.get hc
  rw[hu]at hu'
  injection hu' with hu'
  subst hu'
  exact(hr.shut (aOi.1 hall c (aOY hc))).avoid (fun _ _ hx=>hs.xs hx)
 intro i u hu
 have hu2:bY[i]? =some u:=by
  simp only[aOU,List.getElem?_take]at hu
  split at hu
  ·simpa using hu
  cases hu
 have:=hw.cell hshp i
 rw[hu2]at this
 unfold Addr.add
 split
 ·rename_i h0;subst h0;exact this
 simpa using this
theorem aBP (hC: ∀x,(C x).length=K)(h1: ∀x,(C x).all V.one=true): ∀(xs:List α)(i:Nat)(cells:List V),cells.length=(i+xs.length)*K→i6 (fun i=>some (i*K,K)) cells (bM i (xs.map fun x=>V.agg (C x)))=some (cells.take (i*K)++xs.flatMap C)
 | [],i,cells,hl=>by
  simp only[List.map_nil,bM,i6,List.flatMap_nil,aOI]
  rw[aOh (by rw[hl];simp)]
 |x::xs,i,cells,hl=>by
  simp only[aOC]at hl
  have hl':cells.length=i*K+K+xs.length*K:=by rw[hl,aOs,aOs,aOG];omega
  simp only[List.map_cons,bM,i6]
  rw[if_pos ⟨by simp[V.flatOk,V.cells,h1 x],by simp[V.cells,hC x],by omega⟩]
  have hsl:(splice cells (i*K) (V.agg (C x)).cells).length=cells.length:=nU _ _ _ (by simp only[V.cells,hC];omega)
  rw[aBP hC h1 xs (i+1) _ (by rw[hsl,hl];congr 1;omega)]
  congr 1
  rw[aOq,←aON]
  congr 1
  unfold splice
  simp only[V.cells]
  rw[aOs,aOG,aON,aPb,aOh (by rw[aOu];omega),aOu,Nat.min_eq_left (by omega),show i*K+K-i*K=K by omega,List.take_append_of_le_length (by rw[hC];exact aOt _),show(C x).take K=C x from aOh (by rw[hC];exact aOt _)]
theorem aCu {len:Nat}{ps:List (Nat×V)}{xs:List α}(hC: ∀x,(C x).length=K)(h1C: ∀x,(C x).all V.one=true)(ht:aD P t=some ⟨.slice e,sz,by_,z⟩)(he:aD P e=some ti)(h1:len*K≤2^24∧0<len∧0<K)(hK:ti.size=K)(hag:a7 ti.desc=true)
  (hp:bM 0 (xs.map fun x=>V.agg (C x))=ps) (hlen:xs.length=len) (hl:h.length=i) (hh:h++[some ⟨e,xs.flatMap C⟩]=h'):
  eO P t len ps h=some (.sl i 0 len K true,h'):=by
 subst hK hp
 refine aJq ht he h1 hag ?_ ⟨n7 h1C xs,by rw[kF hC,hlen]⟩ hl hh
 rw[aBP hC h1C xs 0 _ (by simp[hlen])]
 simp
end
def yE (P:Program)(g:TypeId→Option (List TypeDesc)):List Field→Nat→Option (List TypeDesc)
 | [],_=>some []
 |f::fs,off=>if f.name= "_" ∨f.offset≠off then none else match aD P f.type,g f.type with
  |some d,some l=>if d.size=l.length∧0<d.size then(yE P g fs (off+l.length)).map (l++ ·)else none
  |_,_=>none
def qS (P:Program):Nat→TypeId→Option (List TypeDesc)
 |0,_=>none
 |d+1,t=>match aD P t with
  |some ⟨.int k,sz,_,_⟩=>if sz=1 then some [.int k]else none
  |some ⟨.bool,sz,_,_⟩=>if sz=1 then some [.bool]else none
  |some ⟨.string,sz,_,_⟩=>if sz=1 then some [.string]else none
  |some ⟨.array n e,sz,_,_⟩=>match aD P e,qS P d e with
   |some de,some l=>if de.size=l.length∧sz=n*l.length then some (aO1 n l).flatten else none
   |_,_=>none
  |some ⟨.struct fs,sz,_,_⟩=>if P.stoodInHeld t=true then none else match yE P (qS P d) fs.toList 0 with
   |some l=>if sz=l.length then some l else none
   |none=>none
  |_=>none
def vX (ti:TI)(vs:List Value):Value:=if a7 ti.desc then .agg vs.toArray else vs.headD default
def eV :List TypeDesc→List Value→Bool
 | [],[]=>true
 | .int k::ds,.int k' _::vs=>decide (k=k')&&eV ds vs
 | .bool::ds,.bool _::vs=>eV ds vs
 | .string::ds,.string _::vs=>eV ds vs
 |_,_=>false
def aCz :Value→Value→Bool
 | .int _ a,.int _ b=>a == b
 | .bool a,.bool b=>a == b
 | .string a,.string b=>a == b
 |_,_=>false
def eK :List Value→List Value→Bool
 | [],[]=>true
 |x::xs,y::ys=>aCz x y&&eK xs ys
 |_,_=>false
theorem vA : ∀{a c b d:List Value},a.length=c.length→eK (a++b) (c++d)=(eK a c&&eK b d)
 | [],[],_,_,_=>by simp[eK]
 |x::a,y::c,b,d,h=>by
  simp only[aPc,eK]
  rw[vA (by simpa using h),Bool.and_assoc]
 | [],_::_,_,_,h=>by simp at h
 |_::_,[],_,_,h=>by simp at h
theorem g5 : ∀{ds:List TypeDesc}{vs:List Value},eV ds vs=true→vs.length=ds.length
 | [],[],_=>rfl
 | [],_::_,h=>by simp[eV]at h
 |d::ds,[],h=>by cases d<;>simp[eV]at h
 |d::ds,v::vs,h=>by
  have:eV ds vs=true:=by
   cases d<;>cases v<;>simp only[eV,aOg,aOm]at h<;>first|exact h|exact h.2
  simp[g5 this]
theorem kE : ∀{l m:List TypeDesc}{vs:List Value},eV (l++m) vs=true→eV l (vs.take l.length)=true∧eV m (vs.drop l.length)=true
 | [],m,vs,h=>by simpa[eV]using h
 |d::l,m,[],h=>by cases d<;>simp[eV]at h
 |d::l,m,v::vs,h=>by
  cases d<;>cases v<;>simp only[aPc,eV,aOg,aOm]at h<;>simp only[aOC,aO2,aO4,eV,aOm]
  ·exact kE h
  ·exact⟨⟨h.1,(kE h.2).1⟩,(kE h.2).2⟩
  exact kE h
section
variable {P:Program}
theorem j4 {t:TypeId}{ti:TI}(ht:aD P t=some ti){vs:List Value}{off:Nat}(h1:a7 ti.desc=true∨ti.size=1)(hl:off+ti.size≤vs.length):aG P (part t vs.toArray off)=some (vX ti ((vs.drop off).take ti.size)):=by
 have hu:=bG ht
 cases hag:a7 ti.desc with
 |false=>
  have hs:=h1.resolve_left (by rw[hag];simp)
  have hlt:off<vs.length:=by omega
  have:=qY (P:=P) ht hag (cs:=vs.toArray) (off:=off) (v:=vs[off]) (by simp[hlt])
  rw[this]
  simp only[vX,hag,aOg,if_false,hs]
  rw[aOz hlt];rfl
 |true=>
  unfold part
  have h1:aG P (isAgg t)=some true:=by
   unfold isAgg
   rw[aK _ _ hu]
   cases hh:ti.desc<;>first|rfl|(rw[hh]at hag;simp[a7]at hag)
  rw[aK _ _ h1]
  simp only[if_true]
  rw[aK _ _ (lF ht)]
  simp only[vX,hag,if_true,List.extract_toArray,List.extract_eq_drop_take']
  show some _=_
  congr 2
  simp[List.take_drop]
theorem aGC {α:Type}{p:α→Bool}{body:α→Option Bool×Unit→Sem (ForInStep (Option Bool×Unit))}{k:Option Bool×Unit→Sem Bool}(h1: ∀r u,k (some r,u)=pure r)(h2: ∀u,k (none,u)=pure true): ∀(l:List α),(∀a∈l,∀s,aG P (body a s)=some (if p a=true then .yield (none,())else .done (some false,())))→
  aG P (forIn l ((none,()):Option Bool×Unit) body >>= k)=some (l.all p)
 | [],_=>by
  simp only[aO0,pure_bind,h2]
  rfl
 |a::l,h=>by
  simp only[aOV,bind_assoc]
  rw[aK _ _ (h a (by simp) _)]
  cases hp:p a with
  |true=>
   simp only[if_true,aOR,hp,Bool.true_and]
   exact aGC h1 h2 l (fun b hb=>h b (by simp[hb]))
  |false=>
   simp only[aOg,if_false,aOR,hp,Bool.false_and,pure_bind,h1]
   rfl
theorem aGy {α:Type}{body:α→PUnit→Sem (ForInStep PUnit)}: ∀(l:List α),(∀a∈l,∀s,aG P (body a s)=some (.yield PUnit.unit))→
  aG P (do
   forIn l PUnit.unit body
   pure ())=some ()
 | [],_=>by simp only[aO0];rfl
 |a::l,h=>by
  simp only[aOV,bind_assoc]
  rw[aK _ _ (h a (by simp) _)]
  exact aGy l (fun b hb=>h b (by simp[hb]))
theorem vY {m:Nat}{xs ys:List Value}: ∀(c i:Nat),xs.length=(i+c)*m→ys.length=(i+c)*m→eK (xs.drop (i*m)) (ys.drop (i*m))=(List.range' i c).all fun i=>eK ((xs.drop (i*m)).take m) ((ys.drop (i*m)).take m)
 |0,i,hx,hy=>by
  rw[aOr (by rw[hx];simp),aOr (by rw[hy];simp)]
  simp[eK]
 |c+1,i,hx,hy=>by
  have ih:=vY (m:=m) (xs:=xs) (ys:=ys) c (i+1) (by rw[hx];congr 1;omega) (by rw[hy];congr 1;omega)
  simp only[aOT,aOR]
  rw[←ih]
  have e:(i+1)*m=i*m+m:=by rw[aOs,aOG]
  have hm:m≤(c+1)*m:=Nat.le_mul_of_pos_left m (by omega)
  have h2:(i+(c+1))*m=i*m+(c+1)*m:=aOs _ _ _
  rw[e,←aOB,←aOB,←vA (by simp only[aOu,aOH,hx,hy]),aOx,aOx]
theorem aAf {l:List TypeDesc}: ∀(c:Nat){xs:List Value},eV (aO1 c l).flatten xs=true→ ∀i,i<c→eV l ((xs.drop (i*l.length)).take l.length)=true
 |0,_,_,i,hi=>by omega
 |c+1,xs,h,i,hi=>by
  simp only[List.replicate_succ,List.flatten_cons]at h
  obtain⟨h1,h2⟩:=kE h
  cases i with
  |zero=>simpa using h1
  |succ i=>
   have:=aAf c h2 i (by omega)
   rw[aOB]at this
   rw[aOs,aOG,Nat.add_comm]
   exact this
def aBw (P:Program)(xs ys:List Value)(f:Field):Bool:=match aD P f.type with
 |some d=>eK ((xs.drop f.offset).take d.size) ((ys.drop f.offset).take d.size)
 |none=>false
theorem vC {g:TypeId→Option (List TypeDesc)}{xs ys:List Value}: ∀(fs:List Field)(off:Nat){l:List TypeDesc},yE P g fs off=some l→eV l (xs.drop off)=true→eV l (ys.drop off)=true→
  fs.all (aBw P xs ys)=eK (xs.drop off) (ys.drop off)∧ ∀f∈fs,f.name≠ "_" ∧ ∃df lf,aD P f.type=some df∧g f.type=some lf∧df.size=lf.length∧f.offset+df.size≤xs.length∧f.offset+df.size≤ys.length∧
   eV lf ((xs.drop f.offset).take df.size)=true∧eV lf ((ys.drop f.offset).take df.size)=true
 | [],off,l,h,hx,hy=>by
  simp only[yE,aOp]at h
  subst h
  have e1:=g5 hx
  have e2:=g5 hy
  rw[aOk e1,aOk e2]
  simp[eK]
 |f::fs,off,l,h,hx,hy=>by
  simp only[yE]at h
  split at h
  ·cases h
  rename_i hno
  have hname:f.name≠ "_" :=fun e=>hno (.inl e)
  have hoff:f.offset=off:=Classical.byContradiction fun e=>hno (.inr e)
  split at h
  ·rename_i df lf hd hg
   split at h
   ·rename_i hsz
    obtain⟨hsz,h0⟩:=hsz
    simp only[aOl]at h
    obtain⟨l',hl',rfl⟩:=h
    obtain⟨x1,x2⟩:=kE hx
    obtain⟨y1,y2⟩:=kE hy
    rw[aOB]at x2 y2
    obtain⟨i1,i2⟩:=vC fs (off+lf.length) hl' x2 y2
    have lx:=g5 hx
    have ly:=g5 hy
    simp only[aOH,aO6]at lx ly
    have hxl:off≤xs.length∨lf.length+l'.length=0:=by omega
    have x1l:=g5 x1
    have y1l:=g5 y1
    simp only[aOu,aOH]at x1l y1l
    refine⟨?_, ?_⟩
    ·simp only[aOR,i1,aBw,hd,hoff,hsz]
     rw[←aOB,←aOB,←vA (by simp only[aOu,aOH];omega),aOx,aOx]
    intro f' hf'
    rcases List.mem_cons.1 hf' with rfl|hf'
    ·exact⟨hname,df,lf,hd,hg,hsz,by omega,by omega,by rw[hoff,hsz];exact x1,by rw[hoff,hsz];exact y1⟩
    exact i2 f' hf'
   cases h
  cases h
theorem q8 : ∀(d:Nat){t:TypeId}{L:List TypeDesc}{ti:TI},aD P t=some ti→qS P d t=some L→(L.length=ti.size∧(a7 ti.desc=true∨ti.size=1))∧
  ∀(n:Nat){xs:List Value},eV L xs=true→(∀{ys:List Value},eV L ys=true→aG P (Op.equalIn (n+d) t (vX ti xs) (vX ti ys))=some (eK xs ys))∧ ∀b,aG P (Instr.checkKey b (n+d) t (vX ti xs))=some ()
 |0,t,L,ti,_,h=>by simp[qS]at h
 |d+1,t,L,ti,ht,h=>by
  simp only[qS]at h
  rw[ht]at h
  split at h
  ·rename_i k sz _ _ he
   injection he with he;subst he
   split at h
   ·rename_i h1
    injection h with h;subst h
    refine⟨⟨by simp[h1],.inr h1⟩,fun n xs hx=>⟨fun{ys} hy=> ?_,fun b=> ?_⟩⟩
    ·match xs,ys,g5 hx,g5 hy,hx,hy with
     | [.int k1 a],[.int k2 c],_,_,hx,hy=>
      simp only[eV,aOS,decide_eq_true_eq]at hx hy
      subst hx;subst hy
      simp only[vX,a7,aOg,if_false,aOW,eK,aCz,aOS]
      exact aBC ht _ a c
    match xs,g5 hx,hx with
    | [.int k1 a],_,hx=>
     show aG P (Instr.checkKey b (n+d+1) t _)=_
     rw[Instr.checkKey,aK _ _ (bG ht)]
     rfl
   cases h
  ·rename_i sz _ _ he
   injection he with he;subst he
   split at h
   ·rename_i h1
    injection h with h;subst h
    refine⟨⟨by simp[h1],.inr h1⟩,fun n xs hx=>⟨fun{ys} hy=> ?_,fun b=> ?_⟩⟩
    ·match xs,ys,hx,hy with
     | [.bool a],[.bool c],hx,hy=>
      show aG P (Op.equalIn (n+d+1) t _ _)=_
      rw[Op.equalIn,aK _ _ (bG ht)]
      simp only[vX,a7,aOg,if_false,aOW,eK,aCz,aOS]
      rfl
    match xs,hx with
    | [.bool a],hx=>
     show aG P (Instr.checkKey b (n+d+1) t _)=_
     rw[Instr.checkKey,aK _ _ (bG ht)]
     rfl
   cases h
  ·rename_i sz _ _ he
   injection he with he;subst he
   split at h
   ·rename_i h1
    injection h with h;subst h
    refine⟨⟨by simp[h1],.inr h1⟩,fun n xs hx=>⟨fun{ys} hy=> ?_,fun b=> ?_⟩⟩
    ·match xs,ys,hx,hy with
     | [.string a],[.string c],hx,hy=>
      show aG P (Op.equalIn (n+d+1) t _ _)=_
      rw[Op.equalIn,aK _ _ (bG ht)]
      simp only[vX,a7,aOg,if_false,aOW,eK,aCz,aOS]
      rfl
    match xs,hx with
    | [.string a],hx=>
     show aG P (Instr.checkKey b (n+d+1) t _)=_
     rw[Instr.checkKey,aK _ _ (bG ht)]
     rfl
   cases h
  ·rename_i len e sz _ _ he
   injection he with he;subst he
   split at h
   ·rename_i de l hde hle
    split at h
    ·rename_i hc
     obtain⟨hc1,hc2⟩:=hc
     injection h with h;subst h
     obtain⟨⟨_,ag⟩,ih⟩:=q8 d hde hle
     have hL:(aO1 len l).flatten.length=len*l.length:=by simp
     refine⟨⟨by rw[hL];exact hc2.symm,.inl rfl⟩,fun n xs hx=> ?_⟩
     have lx:=g5 hx
     rw[hL]at lx
     have hxo:=aAf len hx
     have slot: ∀i,i<len→i*l.length+l.length≤len*l.length:=fun i hi=>by
      have:=Nat.mul_le_mul_right l.length (show i+1≤len from hi)
      rw[aOs,aOG]at this;exact this
     have px: ∀i,i<len→aG P (part e xs.toArray (i*l.length))=some (vX de ((xs.drop (i*l.length)).take l.length)):=fun i hi=>by
      have:=j4 (P:=P) hde ag (vs:=xs) (off:=i*l.length) (by rw[hc1,lx];exact slot i hi)
      rw[hc1]at this;exact this
     refine⟨fun{ys} hy=> ?_,fun b=> ?_⟩
     ·have ly:=g5 hy
      rw[hL]at ly
      have hyo:=aAf len hy
      have py: ∀i,i<len→aG P (part e ys.toArray (i*l.length))=some (vX de ((ys.drop (i*l.length)).take l.length)):=fun i hi=>by
       have:=j4 (P:=P) hde ag (vs:=ys) (off:=i*l.length) (by rw[hc1,ly];exact slot i hi)
       rw[hc1]at this;exact this
      show aG P (Op.equalIn (n+d+1) t (.agg xs.toArray) (.agg ys.toArray))=_
      rw[Op.equalIn,aK _ _ (bG ht)]
      simp only
      rw[aK _ _ (lF hde),hc1]
      simp only[Std.Legacy.Range.forIn_eq_forIn_range',Std.Legacy.Range.size,aPa,aOK,aPg]
      have hch:=vY (m:=l.length) (xs:=xs) (ys:=ys) len 0 (by simpa using lx) (by simpa using ly)
      simp only[Nat.zero_mul,aOA]at hch
      rw[hch]
      refine aGC (fun _ _=>rfl) (fun _=>rfl) _ fun i hi s=> ?_
      have hil:i<len:=by simp at hi;omega
      rw[aK _ _ (px i hil),aK _ _ (py i hil),aK _ _ ((ih n (hxo i hil)).1 (hyo i hil))]
      cases eK ((xs.drop (i*l.length)).take l.length) ((ys.drop (i*l.length)).take l.length)<;>rfl
     show aG P (Instr.checkKey b (n+d+1) t (.agg xs.toArray))=_
     rw[Instr.checkKey,aK _ _ (bG ht)]
     simp only[Std.Legacy.Range.forIn_eq_forIn_range',Std.Legacy.Range.size,aPa,aOK,aPg]
     refine aGy _ fun i hi s=> ?_
     have hil:i<len:=by simp at hi;omega
     rw[aK _ _ (lF hde),hc1,aK _ _ (px i hil),aK _ _ ((ih n (hxo i hil)).2 b)]
     rfl
    cases h
   cases h
  ·rename_i fs sz _ _ he
   injection he with he;subst he
   split at h
   ·cases h
   rename_i hst
   have hst':P.stoodInHeld t=false:=by simpa using hst
   split at h
   ·rename_i l hl
    split at h
    ·rename_i hsz
     injection h with h;subst h
     refine⟨⟨hsz.symm,.inl rfl⟩,fun n xs hx=> ?_⟩
     have hx0:eV l (xs.drop 0)=true:=by simpa using hx
     refine⟨fun{ys} hy=> ?_,fun b=> ?_⟩
     ·have hy0:eV l (ys.drop 0)=true:=by simpa using hy
      obtain⟨a1,a2⟩:=vC (P:=P) _ 0 hl hx0 hy0
      simp only[aOA]at a1
      show aG P (Op.equalIn (n+d+1) t (.agg xs.toArray) (.agg ys.toArray))=_
      rw[Op.equalIn,aK _ _ (bG ht)]
      simp only
      have hp:aG P (program)=some P:=rfl
      rw[aK _ _ hp]
      simp only[hst',aOg,if_false]
      rw[←a1]
      simp only[←aO7]
      refine aGC (fun _ _=>rfl) (fun _=>rfl) _ fun f hf s=> ?_
      obtain⟨f1,df,lf,f2,f3,f4,f5,f6,f7,f8⟩:=a2 f hf
      obtain⟨⟨_,ag⟩,ih⟩:=q8 d f2 f3
      simp only[f1,ne_eq,not_false_eq_true,if_true]
      rw[aK _ _ (j4 f2 ag f5),aK _ _ (j4 f2 ag f6),aK _ _ ((ih n f7).1 f8)]
      simp only[aBw,f2]
      cases eK ((xs.drop f.offset).take df.size) ((ys.drop f.offset).take df.size)<;>rfl
     obtain⟨_,a2⟩:=vC (P:=P) _ 0 hl hx0 hx0
     show aG P (Instr.checkKey b (n+d+1) t (.agg xs.toArray))=_
     rw[Instr.checkKey,aK _ _ (bG ht)]
     simp only
     simp only[←aO7]
     refine aGy _ fun f hf s=> ?_
     obtain⟨f1,df,lf,f2,f3,f4,f5,f6,f7,f8⟩:=a2 f hf
     obtain⟨⟨_,ag⟩,ih⟩:=q8 d f2 f3
     simp only[f1,ne_eq,not_false_eq_true,if_true]
     rw[aK _ _ (j4 f2 ag f5),aK _ _ ((ih n f7).2 b)]
     rfl
    cases h
   cases h
  cases h
end
instance :Inhabited MT:=⟨⟨0,0,⟨.bool,0,0,default⟩,⟨.bool,0,0,default⟩⟩⟩
section
variable {P:Program}{t:TypeId}{L:List TypeDesc}{ti:TI}{xo yo:Operand}{d:Nat}
theorem aEV (hg:P.eqGuardType P.depth t=false){bo:BinOp}(hbo:bo= .eql∨bo= .neq)(a b:Array Value):aG P (eqGuard bo t xo yo (.agg a) (.agg b))=some ():=by
 unfold eqGuard
 rcases hbo with rfl|rfl<;>
 ·show aG P (if(!P.eqGuardType P.depth t)=true then pure ()else _)=some ()
  rw[hg];rfl
theorem aFR (ht:aD P t=some ti)(hag:a7 ti.desc=true)(hf:qS P d t=some L)(hd:d≤10000){xs ys:List Value}(ox:eV L xs=true)(oy:eV L ys=true):aG P (Op.equal t (.agg xs.toArray) (.agg ys.toArray))=some (eK xs ys):=by
 have:=((q8 d ht hf).2 (10000-d) ox).1 oy
 simp only[vX,hag,if_true]at this
 rw[Nat.sub_add_cancel hd]at this
 exact this
theorem aGT (ht:aD P t=some ti)(hag:a7 ti.desc=true)(hf:qS P d t=some L)(hd:d≤10000)(hg:P.eqGuardType P.depth t=false){cs ds:List V}{xs ys:List Value}{r:Bool}(hx:cs.mapM b6=some xs)(hy:ds.mapM b6=some ys)(ox:eV L xs=true)(oy:eV L ys=true)(hr:eK xs ys=r):
  b4 P .neq t xo yo (.agg cs) (.agg ds)=some (.sc (.bool (!r))):=by
 simp only[b4,cW,hx,hy,aOo,pureV]
 rw[aK _ _ (aEV hg (.inr rfl) _ _)]
 have:aG P (binOp .neq t (.agg xs.toArray) (.agg ys.toArray))=some (.bool (!(eK xs ys))):=rZ _ (fun b=>Value.bool !b) (aFR ht hag hf hd ox oy)
 rw[this,hr];rfl
end
theorem o0 {E:Int→V}{n:Nat}{l:List Int}(h:l.length=n):(aOF n).map (fun i=>E (l.getD i 0))=l.map E:=by
 apply aO8
 intro i
 simp only[aOE,List.getElem?_range']
 by_cases hi:i<n
 ·rw[List.getElem?_range hi,aOn (by omega)]
  simp[aOL,aOn (show i<l.length by omega)]
 rw[aOX (by simpa using hi),aOX (by omega)];rfl
def uA (E:Int→V)(l:List Int)(r:List V):List V:=E (l.getD 0 0)::E (l.getD 1 0)::E (l.getD 2 0)::E (l.getD 3 0)::r
theorem aIj {E:Int→V}{l:List Int}(h:l.length=4)(r:List V):uA E l r=l.map E++r:=by
 rw[←o0 h];rfl
theorem aIB {E:Int→V}{l:List Int}(h:l.length=4):uA E l []=l.map E:=by rw[aIj h];simp
theorem pE {f:Nat→Nat}{k:IntKind}{l:List Int}{r:List V}:V.rns f (uA (eI k) l r)=uA (eI k) l (V.rns f r):=rfl
theorem aHT {vn:Nat→Bool}{E:Int→V}{l:List Int}{r r':List V}(hr:V.les vn r r'):V.les vn (uA E l r) (uA E l r'):=by
 unfold uA
 repeat (first|exact hr|refine V.les_cons (V.le_refl _ _) ?_)
def v8 (E:Int→V)(l:List Int)(r:List V):List V:=E (l.getD 0 0)::E (l.getD 1 0)::E (l.getD 2 0)::E (l.getD 3 0)::E (l.getD 4 0)::E (l.getD 5 0)::E (l.getD 6 0)::E (l.getD 7 0)::r
theorem aIJ {E:Int→V}{l:List Int}(h:l.length=8)(r:List V):v8 E l r=l.map E++r:=by
 rw[←o0 h];rfl
theorem aIH {E:Int→V}{l:List Int}(h:l.length=8):v8 E l []=l.map E:=by rw[aIJ h];simp
theorem pB {f:Nat→Nat}{k:IntKind}{l:List Int}{r:List V}:V.rns f (v8 (eI k) l r)=v8 (eI k) l (V.rns f r):=rfl
theorem aHZ {vn:Nat→Bool}{E:Int→V}{l:List Int}{r r':List V}(hr:V.les vn r r'):V.les vn (v8 E l r) (v8 E l r'):=by
 unfold v8
 repeat (first|exact hr|refine V.les_cons (V.le_refl _ _) ?_)
def qV (E:Int→V)(l:List Int)(r:List V):List V:=E (l.getD 0 0)::E (l.getD 1 0)::E (l.getD 2 0)::E (l.getD 3 0)::E (l.getD 4 0)::E (l.getD 5 0)::E (l.getD 6 0)::E (l.getD 7 0)::E (l.getD 8 0)::E (l.getD 9 0)::E (l.getD 10 0)::E (l.getD 11 0)::E (l.getD 12 0)::E (l.getD 13 0)::E (l.getD 14 0)::E (l.getD 15 0)::E (l.getD 16 0)::E (l.getD 17 0)::E (l.getD 18 0)::E (l.getD 19 0)::r
theorem aF7 {E:Int→V}{l:List Int}(h:l.length=20)(r:List V):qV E l r=l.map E++r:=by
 rw[←o0 h];rfl
theorem aG4 {E:Int→V}{l:List Int}(h:l.length=20):qV E l []=l.map E:=by rw[aF7 h];simp
theorem n0 {f:Nat→Nat}{k:IntKind}{l:List Int}{r:List V}:V.rns f (qV (eI k) l r)=qV (eI k) l (V.rns f r):=rfl
theorem aGY {vn:Nat→Bool}{E:Int→V}{l:List Int}{r r':List V}(hr:V.les vn r r'):V.les vn (qV E l r) (qV E l r'):=by
 unfold qV
 repeat (first|exact hr|refine V.les_cons (V.le_refl _ _) ?_)
def pI (E:Int→V)(l:List Int)(r:List V):List V:=E (l.getD 0 0)::E (l.getD 1 0)::E (l.getD 2 0)::E (l.getD 3 0)::E (l.getD 4 0)::E (l.getD 5 0)::E (l.getD 6 0)::E (l.getD 7 0)::E (l.getD 8 0)::E (l.getD 9 0)::E (l.getD 10 0)::E (l.getD 11 0)::E (l.getD 12 0)::E (l.getD 13 0)::E (l.getD 14 0)::E (l.getD 15 0)::E (l.getD 16 0)::E (l.getD 17 0)::E (l.getD 18 0)::E (l.getD 19 0)::E (l.getD 20 0)::E (l.getD 21 0)::E (l.getD 22 0)::E (l.getD 23 0)::E (l.getD 24 0)::E (l.getD 25 0)::E (l.getD 26 0)::E (l.getD 27 0)::E (l.getD 28 0)::E (l.getD 29 0)::E (l.getD 30 0)::E (l.getD 31 0)::r
theorem aG5 {E:Int→V}{l:List Int}(h:l.length=32)(r:List V):pI E l r=l.map E++r:=by
 rw[←o0 h];rfl
theorem aF8 {E:Int→V}{l:List Int}(h:l.length=32):pI E l []=l.map E:=by rw[aG5 h];simp
theorem oA {f:Nat→Nat}{k:IntKind}{l:List Int}{r:List V}:V.rns f (pI (eI k) l r)=pI (eI k) l (V.rns f r):=rfl
theorem aGf {vn:Nat→Bool}{E:Int→V}{l:List Int}{r r':List V}(hr:V.les vn r r'):V.les vn (pI E l r) (pI E l r'):=by
 unfold pI
 repeat (first|exact hr|refine V.les_cons (V.le_refl _ _) ?_)
def qW (E:Int→V)(l:List Int)(r:List V):List V:=E (l.getD 0 0)::E (l.getD 1 0)::E (l.getD 2 0)::E (l.getD 3 0)::E (l.getD 4 0)::E (l.getD 5 0)::E (l.getD 6 0)::E (l.getD 7 0)::E (l.getD 8 0)::E (l.getD 9 0)::E (l.getD 10 0)::E (l.getD 11 0)::E (l.getD 12 0)::E (l.getD 13 0)::E (l.getD 14 0)::E (l.getD 15 0)::E (l.getD 16 0)::E (l.getD 17 0)::E (l.getD 18 0)::E (l.getD 19 0)::E (l.getD 20 0)::E (l.getD 21 0)::E (l.getD 22 0)::E (l.getD 23 0)::E (l.getD 24 0)::E (l.getD 25 0)::E (l.getD 26 0)::E (l.getD 27 0)::E (l.getD 28 0)::E (l.getD 29 0)::E (l.getD 30 0)::E (l.getD 31 0)::E (l.getD 32 0)::E (l.getD 33 0)::E (l.getD 34 0)::E (l.getD 35 0)::E (l.getD 36 0)::E (l.getD 37 0)::E (l.getD 38 0)::E (l.getD 39 0)::E (l.getD 40 0)::E (l.getD 41 0)::E (l.getD 42 0)::E (l.getD 43 0)::E (l.getD 44 0)::E (l.getD 45 0)::E (l.getD 46 0)::E (l.getD 47 0)::E (l.getD 48 0)::E (l.getD 49 0)::E (l.getD 50 0)::E (l.getD 51 0)::E (l.getD 52 0)::E (l.getD 53 0)::E (l.getD 54 0)::E (l.getD 55 0)::E (l.getD 56 0)::E (l.getD 57 0)::E (l.getD 58 0)::E (l.getD 59 0)::E (l.getD 60 0)::E (l.getD 61 0)::E (l.getD 62 0)::E (l.getD 63 0)::r
theorem aGW {E:Int→V}{l:List Int}(h:l.length=64)(r:List V):qW E l r=l.map E++r:=by
 rw[←o0 h];rfl
theorem aGp {E:Int→V}{l:List Int}(h:l.length=64):qW E l []=l.map E:=by rw[aGW h];simp
theorem n9 {f:Nat→Nat}{k:IntKind}{l:List Int}{r:List V}:V.rns f (qW (eI k) l r)=qW (eI k) l (V.rns f r):=rfl
theorem aGK {vn:Nat→Bool}{E:Int→V}{l:List Int}{r r':List V}(hr:V.les vn r r'):V.les vn (qW E l r) (qW E l r'):=by
 unfold qW
 repeat (first|exact hr|refine V.les_cons (V.le_refl _ _) ?_)
theorem aFA {P:Program}(k:IntKind)(n:Int):unV P .neg (.sc (.int k n))=some (.sc (.int k (k.wrap (0-n)))):=rfl
theorem t6 {P:Program}{k:IntKind}(hk:k.signed=false)(n:Int):unV P .xor (.sc (.int k n))=some (.sc (.int k (bits .xor k k.max n))):=by
 cases k<;>first|rfl|cases hk
theorem zl {a b:Nat} (h:Nat.ble a b=true:=by rfl):a≤b:=Nat.le_of_ble_eq_true h
theorem zR {p:Prop} (h:p:=by first|rfl|(simp only[V.rn,V.rns,jJ,jI]<;>rfl)):p:=h
theorem zG {N n:Nat}{fr fr':List (Nat×V)}{h h':Hp}(σ:List Nat)
  (hf:FLe j7 (V.rn (sg σ h.length)) fr fr':=by repeat (first|exact FLe.nil|refine FLe.same rfl ?_|refine FLe.le rfl V.le_nil ?_|refine FLe.le rfl V.le_row ?_|refine FLe.le rfl (V.le_arr (fun _=>rfl)) ?_))
  (hh:HLe (sg σ h.length) h σ h':=by repeat (first|exact HLe.nil|refine HLe.dead ?_|refine HLe.live rfl V.les_nil rfl ?_|refine HLe.live rfl (uJ (fun _=>rfl) _) (all_map (fun _=>rfl) _) ?_|refine HLe.live rfl (r4 (fun _=>rfl) _) (n7 (fun _=>rfl) _) ?_|refine HLe.live rfl (V.les_refl _ _) rfl ?_))
  (hσ:σ.take N=List.range N:=by rfl) (hlt:σ.all (fun b=>Nat.blt b h.length)=true:=by rfl) (hnd:wP (rW σ h')=true:=by rfl):Ghost N (aE n fr) h (aE n fr') h':=Ghost.rn σ hσ hlt hf hh hnd
theorem Ghost.blk {N:Nat}{s:List V}{h:Hp}{b:Nat}{e:TypeId}{cs cs':List V}(hb:h[b]? =some (some ⟨e,cs⟩))(hl:V.les j7 cs cs')(ho:cs'.all V.one=true):Ghost N s h s (h.set b (some ⟨e,cs'⟩)):=by
 intro A M a w hN R
 have hbl:b<h.length:=(aOM.1 hb).1
 have hget: ∀{j:Nat}{B:Blk},(h.set b (some ⟨e,cs'⟩))[j]? =some (some B)→ ∃B0,h[j]? =some (some B0)∧B0.e=B.e∧V.les j7 B0.cells B.cells∧(∀c∈B.cells,c.one=true):=by
  intro j B hj
  by_cases hij:b=j
  ·subst hij
   rw[List.getElem?_set_self hbl]at hj
   obtain rfl:=aOv (aOv hj)
   exact⟨_,hb,rfl,hl,aOi.1 ho⟩
  rw[List.getElem?_set_ne hij]at hj
  exact⟨B,hj,rfl,V.les_refl _ _,(R.hr.blk j B hj).1⟩
 have hlive: ∀g,bN M (h.set b (some ⟨e,cs'⟩)) g→bN M h g:=by
  rintro g ⟨j,B,hj,hm⟩
  obtain⟨B0,h1,_⟩:=hget hj
  exact⟨j,B0,h1,hm⟩
 have hX: ∀g,Xs A M (h.set b (some ⟨e,cs'⟩)) g→Xs A M h g:=fun g hx=>hx.elim .inl (fun hl=> .inr (hlive g hl))
 refine⟨M,rfl,⟨⟨by rw[R.hr.len,List.length_set],R.hr.alt, ?_, ?_,R.hr.glob.avoid fun g _ hx=>hX g hx⟩,⟨R.sr.len,fun t x hx=>(R.sr.val t x hx).avoid (fun g _ hx=>hX g hx)⟩,R.defers⟩,hlive⟩
 ·intro j B hj
  obtain⟨B0,h1,h2,h3,h4⟩:=hget hj
  refine⟨h4, ?_⟩
  have hlen:B0.cells.length=B.cells.length:=V.les_length h3
  rcases(R.hr.blk j B0 h1).2 with⟨hn,hc0⟩|⟨g,ds,hg,hA,hw,hle,hcs⟩
  ·exact .inl ⟨hn,aOk (by rw[←hlen,hc0];rfl)⟩
  refine .inr ⟨g,ds,hg,hA,by rw[←h2,←hlen];exact hw,by rw[←hlen];exact hle, ?_⟩
  rw[←hlen]
  exact(V.les_sound (fun _ hb=>by cases hb) _ _ _ h3 hcs).avoid (fun g _ hx=>hX g hx)
 intro i j B C g hi hj mi mj
 obtain⟨B1,h1,_⟩:=hget hi
 obtain⟨C1,k1,_⟩:=hget hj
 exact R.hr.inj i j B1 C1 g h1 k1 mi mj
abbrev CA4 (E:Int→V)(x:List Int):List V:=uA E x []
abbrev aJP (E:Int→V)(x:List Int):List V:=pI E x []
@[simp] theorem rO {f:Nat→Nat}{k:IntKind}(l:List (List Int)):V.rns f (l.flatMap (CA4 (eI k)))=l.flatMap (CA4 (eI k)):=lZ (fun _=>rfl) l
@[simp] theorem pM {f:Nat→Nat}{k:IntKind}(l:List (List Int)):V.rns f (l.flatMap (aJP (eI k)))=l.flatMap (aJP (eI k)):=lZ (fun _=>rfl) l
theorem AB.scope {P:Program}{N:Nat}{Q:Ex→List V→Hp→Prop}{s:List V}{h:Hp}{c:Code}(hh:AB P N c Q s h):AB P N (.scope c) Q s h:=by
 intro A M0 M h0 w0 a w hN hM G R
 refine wp_scope_straight (Code.wp_mono (fun e a' w' ⟨x,s1,h1,M1,he,hq,G1,R1⟩=> ?_) (hh A M0 M h0 w0 a w hN hM G R))
 subst he
 cases x with
 |normal=>exact⟨.normal,s1,h1,M1,rfl,hq,G1,R1⟩
 |exit i=>exact⟨.exit i,s1,h1,M1,rfl,hq,G1,R1⟩
 |ret=>exact⟨.ret,s1,h1,M1,rfl,hq,G1,R1⟩
theorem AB.label {P:Program}{N:Nat}{Q:Ex→List V→Hp→Prop}{s:List V}{h:Hp}{l:Nat}(hq:Q .normal s h):AB P N (.label l) Q s h:=by
 intro A M0 M h0 w0 a w hN hM G R
 exact wp_label ⟨.normal,s,h,M,rfl,hq,G,R⟩
def yJ (x y c:Int):Option (Int×Int):=if c.toNat≤1 then some ((((x.toNat+y.toNat+c.toNat)%18446744073709551616:Nat):Int),(((x.toNat+y.toNat+c.toNat)/18446744073709551616:Nat):Int))else none
def yQ (x y c:Int):Option (Int×Int):=if c.toNat≤1 then some ((((x.toNat+18446744073709551616-y.toNat-c.toNat)%18446744073709551616:Nat):Int),((if x.toNat<y.toNat+c.toNat then 1 else 0:Nat):Int))else none
def aJR :Array Value→Sem Value:=(Extern.MathBitsCarry.rows.get ⟨0,by decide⟩).2
def aJk :Array Value→Sem Value:=(Extern.MathBitsCarry.rows.get ⟨1,by decide⟩).2
theorem aGV {P:Program} {f:FuncId} {fn:Func} (hf:P.funcs[f]? =some fn) (hn:(fn.name == "runtime.NumGoroutine")=false) (hb:fn.body.isNone=true) (h1:Extern.findNext fn=none) (h2:Extern.find fn=some aJR) {x y c:Int} {r:Int×Int} (hr:yJ x y c=some r):Fn P f [] [eI .u64 x,eI .u64 y,eI .u64 c] (.tup [eI .u64 r.1,eI .u64 r.2]) []:=by
 unfold yJ at hr
 split at hr
 ·rename_i hc
  injection hr with hr
  subst hr
  refine aC6 hf hn hb h1 h2 fun X M w vs hv=> ?_
  unfold VCells at hv
  obtain⟨v,rest,rfl,hv,hr⟩:=hv
  unfold VCells at hr
  obtain⟨u,rest,rfl,hu,hr⟩:=hr
  unfold VCells at hr
  obtain⟨z,rest,rfl,hz,hr⟩:=hr
  unfold VCells at hr
  subst hr
  unfold VR at hv hu hz
  subst hv hu hz
  have hgt: ¬c.toNat>1:=by omega
  refine⟨.tuple #[.int .u64 (((x.toNat+y.toNat+c.toNat)%18446744073709551616:Nat):Int),.int .u64 (((x.toNat+y.toNat+c.toNat)/18446744073709551616:Nat):Int)], ?_, ?_⟩
  ·match c,hgt with
   | .ofNat 0,_=>rfl
   | .ofNat 1,_=>rfl
   | .ofNat (k+2),hgt=>exact absurd (show(Int.ofNat (k+2)).toNat>1 by simp;omega) hgt
   | .negSucc k,_=>rfl
  unfold VR
  exact⟨_,rfl,by unfold VCells;exact⟨_,_,rfl,by unfold VR;rfl,by unfold VCells;exact⟨_,_,rfl,by unfold VR;rfl,by unfold VCells;rfl⟩⟩⟩
 cases hr
theorem aHf {P:Program} {f:FuncId} {fn:Func} (hf:P.funcs[f]? =some fn) (hn:(fn.name == "runtime.NumGoroutine")=false) (hb:fn.body.isNone=true) (h1:Extern.findNext fn=none) (h2:Extern.find fn=some aJk) {x y c:Int} {r:Int×Int} (hr:yQ x y c=some r):Fn P f [] [eI .u64 x,eI .u64 y,eI .u64 c] (.tup [eI .u64 r.1,eI .u64 r.2]) []:=by
 unfold yQ at hr
 split at hr
 ·rename_i hc
  injection hr with hr
  subst hr
  refine aC6 hf hn hb h1 h2 fun X M w vs hv=> ?_
  unfold VCells at hv
  obtain⟨v,rest,rfl,hv,hr⟩:=hv
  unfold VCells at hr
  obtain⟨u,rest,rfl,hu,hr⟩:=hr
  unfold VCells at hr
  obtain⟨z,rest,rfl,hz,hr⟩:=hr
  unfold VCells at hr
  subst hr
  unfold VR at hv hu hz
  subst hv hu hz
  have hgt: ¬c.toNat>1:=by omega
  refine⟨.tuple #[.int .u64 (((x.toNat+18446744073709551616-y.toNat-c.toNat)%18446744073709551616:Nat):Int),.int .u64 ((if x.toNat<y.toNat+c.toNat then 1 else 0:Nat):Int)], ?_, ?_⟩
  ·match c,hgt with
   | .ofNat 0,_=>rfl
   | .ofNat 1,_=>rfl
   | .ofNat (k+2),hgt=>exact absurd (show(Int.ofNat (k+2)).toNat>1 by simp;omega) hgt
   | .negSucc k,_=>rfl
  unfold VR
  exact⟨_,rfl,by unfold VCells;exact⟨_,_,rfl,by unfold VR;rfl,by unfold VCells;exact⟨_,_,rfl,by unfold VR;rfl,by unfold VCells;rfl⟩⟩⟩
 cases hr
theorem sj {α:Type}{a b:α}(h:some a=some b):a=b:=aOv h
section
variable {P:Program}{ops:Array Oper}{l:List Oper}{n N:Nat}{fr:List (Nat×V)}{h h' h1:Hp}{K:List V→Hp→Prop}{op:Op}{ty:TypeId}{pos:String}{aft:Array Edge}{t:Nat}{v c d:V}{x y z:Operand}{Q:Ex→List V→Hp→Prop}{ty' u:TypeId}
variable {j w:Nat}{want b:Bool}
theorem zk {co:Operand}{X Y:Code}{α:Type}{A B:Option α}{r:α}(hr:(if b=true then A else B)=some r)(hc:aU n fr co=some (.sc (.bool b)))(g1:b=true→A=some r→AB P N X Q (aE n fr) h)(g2:b=false→B=some r→AB P N Y Q (aE n fr) h):AB P N (.cond co X Y) Q (aE n fr) h:=AB.cnd hc (fun e=>g1 e (dI hr e)) (fun e=>g2 e (dE hr e))
theorem zf {f:FuncId} {fn:Func} {co:Code} {args:List V} {r:V} (hf:P.funcs[f]? =some fn) (hnt:fn.ntmps=n) (hh:AB P N co (Done P fn N r h') (aE n fr) h) (hb:fn.body=some co:=by rfl) (hn:(fn.name == "runtime.NumGoroutine")=false:=by kernel_rfl) (hal:args.length≤n:=by exact zl) (hN:h.length=N:=by rfl) (hfr:cO 0 args=fr:=by(simp only[cO,Nat.reduceAdd,Nat.zero_add]<;>rfl)):Fn P f h args r h':=aEY hf hb hn hnt hal hN hfr hh
variable {F G:FuncId→Bool}{m:Nat}{listed:Array Bool}{s:List V}{o:Oper}{s1:List V}
end
section
variable {P:Program}{fn:Func}{n N:Nat}{fr:List (Nat×V)}{h h':Hp}{r a b c:V}{t u w:Nat}
theorem dZ (hr:fn.results= #[.tmp t])(σ:List Nat) (hx:aU n fr (.tmp t)=some a:=by rfl) (hf:FLe j7 (V.rn (sg σ h.length)) [(0,a)] [(0,r)]:=by repeat (first|exact FLe.nil|refine FLe.same rfl ?_|refine FLe.le rfl V.le_nil ?_|refine FLe.le rfl V.le_row ?_|refine FLe.le rfl (V.le_arr (fun _=>rfl)) ?_)) (hh:HLe (sg σ h.length) h σ h':=by repeat (first|exact HLe.nil|refine HLe.dead ?_|refine HLe.live rfl V.les_nil rfl ?_|refine HLe.live rfl (uJ (fun _=>rfl) _) (all_map (fun _=>rfl) _) ?_|refine HLe.live rfl (r4 (fun _=>rfl) _) (n7 (fun _=>rfl) _) ?_|refine HLe.live rfl (V.les_refl _ _) rfl ?_)) (hσ:σ.take N=List.range N:=by rfl) (hlt:σ.all (fun b=>Nat.blt b h.length)=true:=by rfl) (hnd:wP (rW σ h')=true:=by rfl):Done P fn N r h' .ret (aE n fr) h:=lW (aEx hr (rvT hx)) (Ghost.rn σ hσ hlt hf hh hnd)
theorem oK (hr:fn.results= #[.tmp t,.tmp u])(σ:List Nat) (hx:aU n fr (.tmp t)=some a:=by rfl) (hy:aU n fr (.tmp u)=some b:=by rfl) (hf:FLe j7 (V.rn (sg σ h.length)) [(0,(.tup [a,b]))] [(0,r)]:=by repeat (first|exact FLe.nil|refine FLe.same rfl ?_|refine FLe.le rfl V.le_nil ?_|refine FLe.le rfl V.le_row ?_|refine FLe.le rfl (V.le_arr (fun _=>rfl)) ?_)) (hh:HLe (sg σ h.length) h σ h':=by repeat (first|exact HLe.nil|refine HLe.dead ?_|refine HLe.live rfl V.les_nil rfl ?_|refine HLe.live rfl (uJ (fun _=>rfl) _) (all_map (fun _=>rfl) _) ?_|refine HLe.live rfl (r4 (fun _=>rfl) _) (n7 (fun _=>rfl) _) ?_|refine HLe.live rfl (V.les_refl _ _) rfl ?_)) (hσ:σ.take N=List.range N:=by rfl) (hlt:σ.all (fun b=>Nat.blt b h.length)=true:=by rfl) (hnd:wP (rW σ h')=true:=by rfl):Done P fn N r h' .ret (aE n fr) h:=lW (bI hr (rvT hx) (rvT hy)) (Ghost.rn σ hσ hlt hf hh hnd)
theorem zd3 (hr:fn.results= #[.tmp t,.tmp u,.tmp w])(σ:List Nat) (hx:aU n fr (.tmp t)=some a:=by rfl) (hy:aU n fr (.tmp u)=some b:=by rfl) (hz:aU n fr (.tmp w)=some c:=by rfl) (hf:FLe j7 (V.rn (sg σ h.length)) [(0,(.tup [a,b,c]))] [(0,r)]:=by repeat (first|exact FLe.nil|refine FLe.same rfl ?_|refine FLe.le rfl V.le_nil ?_|refine FLe.le rfl V.le_row ?_|refine FLe.le rfl (V.le_arr (fun _=>rfl)) ?_)) (hh:HLe (sg σ h.length) h σ h':=by repeat (first|exact HLe.nil|refine HLe.dead ?_|refine HLe.live rfl V.les_nil rfl ?_|refine HLe.live rfl (uJ (fun _=>rfl) _) (all_map (fun _=>rfl) _) ?_|refine HLe.live rfl (r4 (fun _=>rfl) _) (n7 (fun _=>rfl) _) ?_|refine HLe.live rfl (V.les_refl _ _) rfl ?_)) (hσ:σ.take N=List.range N:=by rfl) (hlt:σ.all (fun b=>Nat.blt b h.length)=true:=by rfl) (hnd:wP (rW σ h')=true:=by rfl):Done P fn N r h' .ret (aE n fr) h:=lW (mW hr (rvT hx) (rvT hy) (rvT hz)) (Ghost.rn σ hσ hlt hf hh hnd)
end
def OpsG (P:Program)(F G:FuncId→Bool)(ops:Array Oper):List Oper→List V→Hp→(List V→Hp→Prop)→Prop
 | [],s,h,K=>K s h
 |o::l,s,h,K=> ∃s1 h1,StepR P F G ops o s h s1 h1∧OpsG P F G ops l s1 h1 K
def OpsX (P:Program)(N:Nat)(m:Option (List Nat×List Nat))(ops:Array Oper)(l:List Oper)(s:List V)(h:Hp)(K:List V→Hp→Prop):Prop:=
 match m with
 |none=>OpsW P N ops l s h K
 |some (F,G)=>OpsG P (eN F) (eN G) ops l s h K
def pV (l:List Oper):List Nat→List Oper
 | []=>[]
 |i::s=>match l[i]? with
  |some o=>o::pV l s
  |none=>[]
def uF (F G:FuncId→Bool)(ops:Array Oper):List Nat→Array Bool→Bool
 | [],_=>true
 |i::s,L=>y5 F G ops L i&&(ops.toList[i]?).isSome&&uF F G ops s (L.setIfInBounds i true)
def tC :List Nat→Array Bool→Array Bool
 | [],L=>L
 |i::s,L=>tC s (L.setIfInBounds i true)
theorem p9 {P:Program}{N:Nat}{F G:FuncId→Bool}{ops:Array Oper}{K:List V→Hp→Prop}{m:Nat}: ∀(sc:List Nat)(L:Array Bool)(s:List V)(h:Hp),uF F G ops sc L=true→
  OpsG P F G ops (pV ops.toList sc) s h (fun s h=>DrawG P N F G ops m (tC sc L) s h K)→DrawG P N F G ops (m+sc.length) L s h K
 | [],L,s,h,_,hk=>hk
 |i::sc,L,s,h,hb,hk=>by
  simp only[uF,aOm]at hb
  obtain⟨⟨h1,h2⟩,h3⟩:=hb
  obtain⟨o,ho⟩:=Option.isSome_iff_exists.1 h2
  simp only[pV,ho]at hk
  obtain⟨s1,g1,e,hk⟩:=hk
  refine DrawG.pick h1 (o:=o) (by simpa using ho) e ?_
  exact p9 sc _ s1 g1 h3 hk
def wZ (F G:FuncId→Bool)(ops:Array Oper):List (List Nat)→Array Bool→Bool
 | [],L=>(c8 ops.size L).isEmpty
 | [a],L=>uF F G ops a L&&(c8 ops.size (tC a L)).isEmpty
 |a::b::ss,L=>uF F G ops a L&&aCF ops (tC a L)&& !b.isEmpty&&wZ F G ops (b::ss) (tC a L)
def aGm (P:Program)(N:Nat)(F G:List Nat)(ops:Array Oper):List (List Nat)→List V→Hp→(List V→Hp→Prop)→Prop
 | [],s,h,K=>K s h
 | [a],s,h,K=>OpsX P N (some (F,G)) ops (pV ops.toList a) s h K
 |a::b::ss,s,h,K=>OpsX P N (some (F,G)) ops (pV ops.toList a) s h (fun s h=> ∃s' h',Ghost N s h s' h'∧aGm P N F G ops (b::ss) s' h' K)
theorem OpsG.mono {P:Program}{F G:FuncId→Bool}{ops:Array Oper}{K K':List V→Hp→Prop}: ∀{l:List Oper}{s:List V}{h:Hp},OpsG P F G ops l s h K→(∀s h,K s h→K' s h)→OpsG P F G ops l s h K'
 | [],_,_,hk,hm=>hm _ _ hk
 |_::_,_,_,⟨s1,h1,e,hk⟩,hm=>⟨s1,h1,e,hk.mono hm⟩
theorem wI {P:Program}{N:Nat}{F G:List Nat}{ops:Array Oper}{K:List V→Hp→Prop}: ∀(ss:List (List Nat))(L:Array Bool)(s:List V)(h:Hp),wZ (eN F) (eN G) ops ss L=true→
  aGm P N F G ops ss s h K→DrawG P N (eN F) (eN G) ops (ss.map List.length).sum L s h K
 | [],L,s,h,hb,hk=>DrawG.nil (List.isEmpty_iff.1 hb) hk
 | [a],L,s,h,hb,hk=>by
  simp only[wZ,Bool.and_eq_true]at hb
  have:=p9 (N:=N) (m:=0) a L s h hb.1 (OpsG.mono (K':=fun s h=>DrawG P N (eN F) (eN G) ops 0 (tC a L) s h K) hk fun s h hk=>DrawG.nil (List.isEmpty_iff.1 hb.2) hk)
  simpa using this
 |a::b::ss,L,s,h,hb,hk=>by
  simp only[wZ,Bool.and_eq_true]at hb
  obtain⟨⟨⟨h1,h2⟩,h3⟩,h4⟩:=hb
  have:=p9 (N:=N) (m:=((b::ss).map List.length).sum) a L s h h1 (OpsG.mono (K':=fun s h=>DrawG P N (eN F) (eN G) ops ((b::ss).map List.length).sum (tC a L) s h K) hk fun s h ⟨s',h',hg,hk⟩=>by
   have hd:=wI (b::ss) _ s' h' h4 hk
   obtain⟨x,xs,rfl⟩: ∃x xs,b=x::xs:=by
    cases b with
    |nil=>cases h3
    |cons x xs=>exact⟨x,xs,rfl⟩
   simp only[List.map_cons,List.length_cons,List.sum_cons,Nat.add_right_comm _ 1]at hd⊢
   exact DrawG.gh h2 hg hd)
  simpa[Nat.add_comm]using this
theorem AB.rs {P:Program}{N:Nat}{Q:Ex→List V→Hp→Prop}{s:List V}{h:Hp}(hm:P.follows .mixedOrders=true)(F G:List Nat)(ss:List (List Nat)){id:Nat}{l:List Oper}(hr:aGm P N F G l.toArray ss s h (Q .normal))
  (hb:(wZ (eN F) (eN G) l.toArray ss (Array.replicate l.toArray.size false)&&(ss.map List.length).sum == l.toArray.size)=true:=by decide +kernel):AB P N (.region id l.toArray true) Q s h:=by
 simp only[Bool.and_eq_true,beq_iff_eq]at hb
 refine AB.rd (eN F) (eN G) hm ?_
 have:=wI ss _ s h hb.1 hr
 rw[hb.2]at this
 exact this
section
variable {P:Program}{N n t:Nat}{m:Option (List Nat×List Nat)}{ops:Array Oper}{l:List Oper}{fr:List (Nat×V)}{h h':Hp}{K:List V→Hp→Prop}{op:Op}{ty:TypeId}{pos:String}{aft:Array Edge}{gd:Option (Nat×Bool)}{v a b:V}{x y z:Operand}{Q:Ex→List V→Hp→Prop}{s:List V}
theorem OpsX.nil (hk:K s h):OpsX P N m ops [] s h K:=by
 cases m with
 |none=>exact OpsW.nil hk
 |some p=>exact hk
theorem xS0 (hs:bA P O0 ops ⟨some t,op,ty,pos,aft,gd⟩ (aE n fr) h=some (v,h'))(k:OpsX P N m ops l (aE n ((t,v)::fr)) h' K):OpsX P N m ops (⟨some t,op,ty,pos,aft,gd⟩::l) (aE n fr) h K:=by
 cases m with
 |none=>exact wS hs k
 |some p=>exact⟨_,_,gS hs,k⟩
theorem xN0 (hs:bA P O0 ops ⟨none,op,ty,pos,aft,gd⟩ (aE n fr) h=some (v,h'))(k:OpsX P N m ops l (aE n fr) h' K):OpsX P N m ops (⟨none,op,ty,pos,aft,gd⟩::l) (aE n fr) h K:=by
 cases m with
 |none=>exact wN hs k
 |some p=>exact⟨_,_,gN hs,k⟩
theorem xq {c:Code}{id:Nat}(hr:OpsX P N none l.toArray l s h (Ex.then (AB P N c Q) Q .normal)):AB P N (.seq (.region id l.toArray false) c) Q s h:=AB.seq (AB.rw hr)
theorem xr {id:Nat}(hr:OpsX P N none l.toArray l s h (Q .normal)):AB P N (.region id l.toArray false) Q s h:=AB.rw hr
def Gd (ops:Array Oper)(n:Nat)(fr:List (Nat×V)):Option (Nat×Bool)→Prop
 |none=>True
 |some (j,w)=> ∃u,(ops[j]?).bind (·.dst)=some u∧ ∃c,aU n fr (.tmp u)=some (.sc (.bool c))∧c=w
theorem Gd.step {dd:Option Tmp}{r:V×Hp}(hg:Gd ops n fr gd)(hd:aQ P O0 ⟨dd,op,ty,pos,aft,gd⟩ (aE n fr) h=some r):bA P O0 ops ⟨dd,op,ty,pos,aft,gd⟩ (aE n fr) h=some r:=by
 obtain⟨v,h1⟩:=r
 cases gd with
 |none=>exact sv hd
 |some p=>
  obtain⟨j,w⟩:=p
  obtain⟨u,hu,c,hc,he⟩:=hg
  exact svG hu hc he hd
theorem xS (hd:aQ P O0 ⟨some t,op,ty,pos,aft,gd⟩ (aE n fr) h=some (v,h'))(k:OpsX P N m ops l (aE n ((t,v)::fr)) h' K) (hg:Gd ops n fr gd:=by first|exact True.intro|exact⟨_,rfl,_,rfl,by assumption⟩):OpsX P N m ops (⟨some t,op,ty,pos,aft,gd⟩::l) (aE n fr) h K:=xS0 (hg.step hd) k
theorem xN (hd:aQ P O0 ⟨none,op,ty,pos,aft,gd⟩ (aE n fr) h=some (v,h'))(k:OpsX P N m ops l (aE n fr) h' K) (hg:Gd ops n fr gd:=by first|exact True.intro|exact⟨_,rfl,_,rfl,by assumption⟩):OpsX P N m ops (⟨none,op,ty,pos,aft,gd⟩::l) (aE n fr) h K:=xN0 (hg.step hd) k
theorem xw (hd:aQ P O0 ⟨some t,op,ty,pos,aft,none⟩ (aE n fr) h=some (v,h'))(k:OpsX P N m ops l (aE n ((t,v)::fr)) h' K):OpsX P N m ops (⟨some t,op,ty,pos,aft,none⟩::l) (aE n fr) h K:=xS0 (sv hd) k
theorem xC {f:FuncId}{ts:Array TypeId}{ws:List Operand}{xs:List V}(hx:lU n fr ws=some xs)(hc:Fn P f h xs v h')(k:OpsX P N none ops l (aE n ((t,v)::fr)) h' K):OpsX P N none ops (⟨some t,.call ⟨.value (.func f),ws.toArray,ts⟩,ty,pos,aft,none⟩::l) (aE n fr) h K:=wC hx hc k
theorem xCg {f:FuncId}{ts:Array TypeId}{ws:List Operand}{xs:List V}{jj ww:Nat}{want cc:Bool}(hj:(ops[jj]?).bind (·.dst)=some ww)(hl:aU n fr (.tmp ww)=some (.sc (.bool cc)))(hb:cc=want)(hx:lU n fr ws=some xs)(hc:Fn P f h xs v h')(k:OpsX P N none ops l (aE n ((t,v)::fr)) h' K):OpsX P N none ops (⟨some t,.call ⟨.value (.func f),ws.toArray,ts⟩,ty,pos,aft,some (jj,want)⟩::l) (aE n fr) h K:=wCG hj hl hb hx hc k
theorem xU {f:FuncId}{F G:List Nat}{ts:Array TypeId}{ws:List Operand}{xs:List V}(hx:lU n fr ws=some xs)(hc: ∀h,Fn P f h xs v h)(k:OpsX P N (some (F,G)) ops l (aE n ((t,v)::fr)) h K) (hG:eN G f=false:=by rfl) (hg:Gd ops n fr gd:=by first|exact True.intro|exact⟨_,rfl,_,rfl,by assumption⟩):OpsX P N (some (F,G)) ops (⟨some t,.call ⟨.value (.func f),ws.toArray,ts⟩,ty,pos,aft,gd⟩::l) (aE n fr) h K:=by
 refine⟨_,_,gU hc hG ?_,k⟩
 cases gd with
 |none=>exact sv (nK hx iS)
 |some p=>
  obtain⟨j,w⟩:=p
  obtain⟨u,hu,c,hb,he⟩:=hg
  exact svG hu hb he (nK hx iS)
variable {j w:Nat}{want c:Bool}
theorem xX (hc:c= !want)(k:OpsX P N m ops l (aE n ((t,.sc undef)::fr)) h K) (hj:(ops[j]?).bind (·.dst)=some w:=by rfl) (hl:aU n fr (.tmp w)=some (.sc (.bool c)):=by rfl):OpsX P N m ops (⟨some t,op,ty,pos,aft,some (j,want)⟩::l) (aE n fr) h K:=xS0 (svX hj hl hc) k
theorem vW (hj:(ops[j]?).bind (·.dst)=some w)(hl:aU n fr (.tmp w)=some (.sc (.bool c)))(hc:c=want)(hd:aQ P O0 ⟨some t,op,ty,pos,aft,some (j,want)⟩ (aE n fr) h=some (v,h'))(k:OpsX P N m ops l (aE n ((t,v)::fr)) h' K):OpsX P N m ops (⟨some t,op,ty,pos,aft,some (j,want)⟩::l) (aE n fr) h K:=xS0 (svG hj hl hc hd) k
theorem OpsX.ghost {s':List V}(hg:Ghost N s h s' h')(k:OpsX P N none ops l s' h' K):OpsX P N none ops l s h K:=OpsW.ghost hg k
end
end Go.Vm
